/- Lemmas. -/
import Derived.Test.YtekmpjgcmooppaaGreatAbIndexAgrees4
import Derived.Test.YtekmpjgcmooppaaGreatAbIndexAgrees1
set_option linter.unusedVariables false
set_option linter.unusedSimpArgs false
open Go.Proofs.Tryz renaming prog->Qa
open Go.IntKind renaming wrap->Qb
open List renaming length_append->Qc,replicate->Qf,getElem?_eq_some_iff->Qg,length_cons->Qh,getElem?_eq_getElem->Qi,length_map->Qj,length_take->Qk,getElem?_set->Qm,take_of_length_le->Qo,mem_map->Qp,length_singleton->Qr,map_append->Qs,append_assoc->Qu,take_append_drop->Qv,mem_append->Qw,mem_cons->Qx,eq_nil_of_length_eq_zero->Qy,filter_append->Qz,getD_eq_getElem?_getD->Q0,getElem?_append_left->Q4,range'->Q5,map_congr_left->Q9,nil_append->QA,length_drop->QB,map_cons->QC,mem_range'_1->QE,append_nil->QF,filter_eq_nil_iff->QG,mem_singleton->QK,pairwise_cons->QL,range->QN,length_replicate->QO,getElem?_map->QP,filter_congr->QQ,cons_append->QR,drop_append_of_le_length->QT,map_map->QU,length_nil->QW,flatten_cons->QY,getElem_take->QZ,getElem?_append_right->Qaa,mem_of_mem_take->Qac,ext_getElem->Qaf,mem_or_eq_of_mem_set->Qag,drop_eq_getElem_cons->Qah,mem_filter->Qaj,mem_iff_getElem?->Qal,take_append_of_le_length->Qan,range_eq_range'->Qao,range'_append_1->Qap,dropLast_concat_getLast->Qaq,replicate_succ->Qar,take_length_add_append->Qas,getElem?_drop->Qav,getElem?_take->Qaw,set_cons_zero->Qax,take_zero->Qay,map_singleton->Qaz,getElem_drop->Qa0,sum_cons->Qa1,map_take->Qa2,filter_cons->Qa4,getElem?_cons_zero->Qa6,getElem?_cons_succ->Qa7,getElem_map->Qa9,drop_of_length_le->QaB,drop_eq_nil_of_le->QaC,nodup_cons->QaE,range_succ->QaG,singleton_append->QaH,length_filter_le->QaI,mem_append_left->QaJ,mem_of_getElem?->QaK,drop_take->QaL,take_take->QaM,take_left->QaN,mem_range->QaO,take_succ_cons->QaP,filter_eq_self->QaQ,length_pos_iff->QaR,replicate_zero->QaS,filter_sublist->QaT,set_cons_succ->QaU,getElem_range->QaW,flatMap_cons->QaX,nodup_append->QaY,map_nil->QaZ,map_set->Qbb,sum_nil->Qbe,length_range->Qbf,pairwise_map->Qbg,flatMap_nil->Qbh,all_eq_true->Qbj,set_append->Qbn,sum_append->Qbo,take_range->Qbp,drop_drop->Qbr
open Option renaming bind_some->Qd,isNone_some->Qn,map_some->Q6,getD_some->Qa8,some->Qbm
open Nat renaming le_refl->Qe,min_eq_left->Qq,zero_add->Q3,add_mul->QI,zero_le->QJ,eq_zero_or_pos->QM,mul_le_mul_right->Qab,pow_le_pow_right->Qad,add_zero->Qak,le_trans->Qat,sub_self->Qau,pow_succ->QaD,lt_of_lt_of_le->QaV,zero_mul->Qba,sub_zero->Qbc,mul_comm->Qbd,mod_eq_of_lt->Qbk,one_mul->Qbl,mul_assoc->Qbu,reduceAdd->Qbv,mul_add->Qb2,beq->Qb6
open Int renaming toNat_natCast->Ql,lt_irrefl->Qa3,zero_add->QaA
open Bool renaming eq_iff_iff->Q2,and_eq_true->Q7,false_eq_true->QV,or_eq_true->QaF,false_or->Qbw
open Go.Ab.Ptr renaming add->Q8
open Go.Ab.AX renaming exit->QD,ret->Qb0
open Go.Ab.Hdl renaming nil->QH,idx->Qby
open Go.Ab renaming drawn->QS,stepF->QX
open Go.Ab.AV renaming slice->Qae,asInt->Qai,aggAt->Qa5,asSl->Qbq,int->Qbt,ptr->Qb5
open ByteArray renaming toList->Qam
open Go.Ab.Store renaming stL->Qbi,push->Qbs,app->Qbx,readSl->Qbz,ldInt->Qb1,ldPtr->Qb3,ldSl->Qb4,sub->Qb7
namespace Go.Ab
open Go Go.Proofs Go.Ab.Wd Go.Ab.Bs Go.Ab.Sai
def rngN(u:Int):Nat->List Int
 | 0=>[]
 | n+1=>u::rngN (u+1) n
theorem Zri:∀ (p:Nat) (u:Int) (q:Nat),rngN u (p+q)=rngN u p++rngN (u+p) q
 | 0,u,q=>by simp [rngN]
 | p+1,u,q=>by
  rw [show p+1+q=(p+q)+1 by omega,rngN,rngN,Zri p (u+1) q,show u+1+(p:Int)=u+((p+1:Nat):Int) by omega]; rfl
theorem Zd8:∀ (n:Nat) (u x:Int),x∈rngN u n ↔ u<=x/\x<u+n
 | 0,u,x=>by simp [rngN]
 | n+1,u,x=>by rw [rngN,Qx,Zd8 n (u+1) x]; omega
theorem Zkz:∀ (n:Nat) (u:Int),(rngN u n).Nodup
 | 0,u=>by simp [rngN]
 | n+1,u=>by rw [rngN,QaE,Zd8]; exact⟨by omega,Zkz n _⟩
def rng(s:Int×Int):List Int:=rngN s.1 (s.2-s.1).toNat
theorem Zme{s:Int×Int}{x:Int}:x∈rng s ↔ s.1<=x/\x<s.2:=by unfold rng; rw [Zd8]; omega
theorem Zyh{u v i:Int}(h1:u<=i)(h2:i<v):rng (u,v)=rng (u,i)++i::rng (i+1,v):=by
 unfold rng
 simp only
 obtain⟨p,hp⟩:∃ p:Nat,i=u+p:=⟨(i-u).toNat,by omega⟩
 obtain⟨q,hq⟩:∃ q:Nat,v=i+1+q:=⟨(v-(i+1)).toNat,by omega⟩
 have e1:(v-u).toNat=p+(q+1):=by omega
 have e2:(i-u).toNat=p:=by omega
 have e3:(v-(i+1)).toNat=q:=by omega
 rw [e1,e2,e3,Zri,<-hp]; rfl
def fo(l:List Int)(A B i:Int):Prop:=A<=i/\i<B/\bkI l i.toNat<A
structure SomeI (l:List Int) (A B:Int) (I:List Int) (S:List (Int×Int)):Prop where
 nd:(I++S.flatMap rng).Nodup
 mem:∀ i∈I,fo l A B i
 cov:∀ i,fo l A B i->i∈I\/i∈S.flatMap rng
 sp:∀ s∈S,A<=s.1/\s.2<=B
theorem SomeI.start(l:List Int)(A B:Int):SomeI l A B [] [(A,B)]:=
 ⟨by simp only [QaX,Qbh,QF,QA]; exact Zkz _ _,by simp,fun i h=>.inr (by simp only [QaX,Qbh,QF]; exact Zme.2 ⟨h.1,h.2.1⟩),fun s hs=>by rw [QK] at hs; subst hs; exact⟨Int.le_refl _,Int.le_refl _⟩⟩
theorem SomeI.drop{l:List Int}{A B:Int}{I:List Int}{S:List (Int×Int)}{u v:Int}(h:SomeI l A B I (S++[(u,v)]))(hn:∀ i,u<=i->i<v->¬ fo l A B i):SomeI l A B I S:=by
 have e:(S++[(u,v)]).flatMap rng=S.flatMap rng++rng (u,v):=by simp
 have nd:=h.nd
 rw [e,<-Qu] at nd
 refine⟨(QaY.1 nd).1,h.mem,fun i hi=>?_,fun s hs=>h.sp s (by simp [hs])⟩
 rcases h.cov i hi with h1 | h1
 ·exact .inl h1
 ·rw [e] at h1
  rcases Qw.1 h1 with h1 | h1
  ·exact .inr h1
  ·obtain⟨q1,q2⟩:=Zme.1 h1; exact absurd hi (hn i q1 q2)
theorem SomeI.take{l:List Int}{A B:Int}{I:List Int}{S:List (Int×Int)}{u v i:Int}(h:SomeI l A B I (S++[(u,v)]))(h1:u<=i)(h2:i<v)(hf:fo l A B i):SomeI l A B (I++[i]) (S++[(u,i),(i+1,v)]):=by
 have e:(S++[(u,v)]).flatMap rng=S.flatMap rng++(rng (u,i)++i::rng (i+1,v)):=by rw [<-Zyh h1 h2]; simp
 have e2:(S++[(u,i),(i+1,v)]).flatMap rng=S.flatMap rng++(rng (u,i)++rng (i+1,v)):=by simp
 have p:(I++[i]++(S++[(u,i),(i+1,v)]).flatMap rng).Perm (I++(S++[(u,v)]).flatMap rng):=by
  rw [e,e2,Qu]
  refine List.Perm.append_left I ?_
  rw [<-Qu (S.flatMap rng),<-Qu (S.flatMap rng)]
  rw [QaH]
  exact List.perm_middle.symm
 refine⟨p.nodup_iff.2 h.nd,fun j hj=>?_,fun j hj=>?_,fun s hs=>?_⟩
 ·rcases Qw.1 hj with hj | hj
  ·exact h.mem j hj
  ·rw [QK] at hj; subst hj; exact hf
 ·have:j∈I++(S++[(u,v)]).flatMap rng:=by
   rcases h.cov j hj with h | h
   ·exact QaJ _ h
   ·exact List.mem_append_right _ h
  exact Qw.1 (p.mem_iff.2 this)
 ·have:=h.sp (u,v) (by simp)
  simp only at this
  simp only [Qw,Qx,List.not_mem_nil,or_false] at hs
  rcases hs with hs | rfl | rfl
  ·exact h.sp s (by simp [hs])
  ·simp only; omega
  ·simp only; omega
theorem SomeI.len{l:List Int}{A B:Int}{I:List Int}{S:List (Int×Int)}(h:SomeI l A B I S)(A0:0<=A)(Bn:B<=l.length):(I++S.flatMap rng).length<=l.length:=by
 have:=Zu (m:=rngN 0 l.length) h.nd fun x hx=>by
  rw [Zd8]
  rcases Qw.1 hx with hx | hx
  ·have:=h.mem x hx; unfold fo at this; omega
  ·obtain⟨s,hs,hx⟩:=List.mem_flatMap.1 hx
   have:=h.sp s hs
   have:=Zme.1 hx
   omega
 have len:∀ (n:Nat) (u:Int),(rngN u n).length=n:=fun n=>by
  induction n with
  | zero=>intro u; rfl
  | succ n ih=>intro u; rw [rngN,Qh,ih]
 rw [len] at this; exact this
theorem SomeI.done{l:List Int}{A B:Int}{I:List Int}{S:List (Int×Int)}(h:SomeI l A B I S)(A0:0<=A)(Bn:B<=l.length)(hd:S=[]\/l.length<=I.length):I.Nodup/\∀ i,fo l A B i ↔ i∈I:=by
 refine⟨(QaY.1 h.nd).1,fun i=>⟨fun hi=>?_,h.mem i⟩⟩
 rcases h.cov i hi with h1 | h1
 ·exact h1
 ·rcases hd with rfl | hd
  ·simp at h1
  ·have:=h.len A0 Bn
   rw [Qc] at this
   rw [Qy (l:=S.flatMap rng) (by omega)] at h1
   cases h1
abbrev Inc (L:List Int):Prop:=L.Pairwise (· < ·)
theorem Zjo:∀ {a b:List Int},Inc a->Inc b->(∀ x,x∈a ↔ x∈b)->a=b
 | [],b,_,_,h=>by
  cases b with
  | nil=>rfl
  | cons y b=>have:=(h y).2 (by simp); cases this
 | x::a,[],_,_,h=>by have:=(h x).1 (by simp); cases this
 | x::a,y::b,ha,hb,h=>by
  rw [Inc,QL] at ha hb
  have h1:x∈y::b:=(h x).1 (by simp)
  have h2:y∈x::a:=(h y).2 (by simp)
  have e:x=y:=by
   rcases Qx.1 h1 with h1 | h1
   ·exact h1
   ·rcases Qx.1 h2 with h2 | h2
    ·exact h2.symm
    ·have:=ha.1 y h2; have:=hb.1 x h1; omega
  subst e
  rw [Zjo ha.2 hb.2 fun z=>⟨fun hz=>?_,fun hz=>?_⟩]
  ·rcases Qx.1 ((h z).1 (by simp [hz])) with e | e
   ·subst e; have:=ha.1 z hz; omega
   ·exact e
  ·rcases Qx.1 ((h z).2 (by simp [hz])) with e | e
   ·subst e; have:=hb.1 z hz; omega
   ·exact e
def ltN(x:Int):List Int->Nat
 | []=>0
 | y::o=>if y<x then ltN x o+1 else 0
def insD(x:Int):List Int->List Int
 | []=>[x]
 | y::o=>if y<x then y::insD x o else if y=x then y::o else x::y::o
theorem Z3b(x:Int):∀ o,ltN x o<=o.length/\((∃ h:ltN x o<o.length,o[ltN x o]=x)->insD x o=o)/\((¬ ∃ h:ltN x o<o.length,o[ltN x o]=x)->o.take (ltN x o)++x::o.drop (ltN x o)=insD x o)
 | []=>by simp [ltN,insD]
 | y::o=>by
  obtain⟨h1,h2,h3⟩:=Z3b x o
  unfold ltN insD
  by_cases c:y<x
  ·simp only [if_pos c]
   refine⟨by simp; exact h1,fun ⟨q,e⟩=>?_,fun hn=>?_⟩
   ·rw [h2 ⟨by simpa using q,by simpa using e⟩]
   ·rw [QaP,List.drop_succ_cons,QR,h3 fun ⟨q,e⟩=>hn ⟨by simpa using q,by simpa using e⟩]
  ·simp only [if_neg c]
   refine⟨by simp,fun ⟨q,e⟩=>?_,fun hn=>?_⟩
   ·have e':y=x:=by simpa using e
    rw [if_pos e']
   ·have:¬ y=x:=fun e=>hn ⟨by simp,by simpa using e⟩
    rw [if_neg this]; rfl
theorem Zjr{x z:Int}:∀ {o:List Int},z∈insD x o ↔ z=x\/z∈o
 | []=>by simp [insD]
 | y::o=>by
  unfold insD
  split
  ·rw [Qx,Zjr,Qx]; constructor <;> rintro (h | h | h) <;> simp [h]
  ·split
   ·rename_i e; subst e; simp
   ·simp
theorem Zqi{x:Int}:∀ {o:List Int},Inc o->Inc (insD x o)
 | [],_=>by simp [insD]
 | y::o,h=>by
  have h':=h
  rw [Inc,QL] at h
  unfold insD
  split
  ·rw [Inc,QL]
   refine⟨fun z hz=>?_,Zqi h.2⟩
   rcases Zjr.1 hz with rfl | hz
   ·assumption
   ·exact h.1 z hz
  ·split
   ·exact h'
   ·rw [Inc,QL]
    refine⟨fun z hz=>?_,h'⟩
    rcases Qx.1 hz with rfl | hz
    ·omega
    ·have:=h.1 z hz; omega
def dOf(acc:List Int):List Int->List Int
 | []=>acc
 | x::l=>dOf (insD x acc) l
theorem Zlm:∀ (l acc:List Int),Inc acc->Inc (dOf acc l)
 | [],acc,h=>h
 | x::l,acc,h=>Zlm l _ (Zqi h)
theorem Zmd{z:Int}:∀ (l acc:List Int),z∈dOf acc l ↔ z∈acc\/z∈l
 | [],acc=>by simp [dOf]
 | x::l,acc=>by
  rw [dOf,Zmd l,Zjr,Qx]
  constructor
  ·rintro ((h | h) | h) <;> simp [h]
  ·rintro (h | h | h) <;> simp [h]
theorem Z41{l:List Int}{A B x:Int}(A0:0<=A)(Bn:B<=l.length):(∃ i,fo l A B i/\rd l i=x) ↔ x∈seg l A B:=by
 constructor
 ·rintro⟨i,⟨h1,h2,h3⟩,rfl⟩
  have hi:i.toNat<l.length:=by omega
  unfold seg segLo segHi
  rw [Qal]
  refine⟨i.toNat-(max A 0).toNat,?_⟩
  rw [Qav,Qaw,if_pos (by omega),show (max A 0).toNat+(i.toNat-(max A 0).toNat)=i.toNat by omega]
  unfold rd
  rw [Qi hi]; simp [hi]
 ·intro hx
  unfold seg segLo segHi at hx
  rw [Qal] at hx
  obtain⟨m,hm⟩:=hx
  rw [Qav,Qaw] at hm
  split at hm
  ·rename_i hlt
   obtain⟨j,hj⟩:∃ j,j=(max A 0).toNat+m:=⟨_,rfl⟩
   rw [<-hj] at hm hlt
   have jl:j<l.length:=(Qg.1 hm).1
   have jr:rd l (j:Nat)=x:=by unfold rd; simp [hm]
   have jA:A<=j:=by omega
   have jB:(j:Int)<B:=by omega
   have:∀ (n j:Nat),j<=n->A<=j->(j:Int)<B->rd l (j:Nat)=x->∃ i,fo l A B i/\rd l i=x:=fun n=>by
    induction n with
    | zero=>
     intro j hj h1 h2 h3
     refine⟨j,⟨h1,h2,?_⟩,h3⟩
     have:=Zo0 l j
     rw [Ql]; omega
    | succ n ih=>
     intro j hj h1 h2 h3
     by_cases c:bkI l j<A
     ·exact⟨j,⟨h1,h2,by rw [Ql]; exact c⟩,h3⟩
     ·obtain⟨i,i1,i2,i3⟩:=(Z06 (l:=l) (i:=j) (a:=A.toNat)).1 (by omega)
      exact ih i (by omega) (by omega) (by omega) (i3.trans h3)
   exact this j j (Qe _) jA jB jr
  ·cases hm
theorem Z40{l:List Int}{A B i j:Int}(A0:0<=A)(hi:fo l A B i)(hj:fo l A B j)(e:rd l i=rd l j):i=j:=by
 have key:∀ i j:Int,fo l A B i->fo l A B j->rd l i=rd l j->i<j->False:=fun i j hi hj e c=>by
  have:=(Z06 (l:=l) (i:=j.toNat) (a:=A.toNat)).2 ⟨i.toNat,by have:=hi.1; omega,by have:=hi.1; omega,by
   have h1:=hi.1
   have h2:=hj.1
   rw [show ((i.toNat:Nat):Int)=i by omega,show ((j.toNat:Nat):Int)=j by omega]; exact e⟩
  have:=hj.2.2
  omega
 rcases Int.lt_trichotomy i j with h | h | h
 ·exact (key i j hi hj e h).elim
 ·exact h
 ·exact (key j i hj hi e.symm h).elim
theorem Zhp{α β:Type}{f:α->β}:∀ {l:List α},l.Nodup->(∀ a∈l,∀ b∈l,f a=f b->a=b)->(l.map f).Nodup
 | [],_,_=>by simp
 | x::l,h,hf=>by
  rw [QaE] at h
  rw [QC,QaE]
  refine⟨fun hx=>?_,Zhp h.2 fun a ha b hb=>hf a (by simp [ha]) b (by simp [hb])⟩
  obtain⟨y,hy,e⟩:=Qp.1 hx
  have:=hf y (by simp [hy]) x (by simp) e
  subst this; exact h.1 hy
theorem Zn0{l I:List Int}{A B:Int}(A0:0<=A)(Bn:B<=l.length)(nd:I.Nodup)(hI:∀ i,fo l A B i ↔ i∈I):sortL (I.map (rd l))=dOf [] (seg l A B):=by
 have vn:(I.map (rd l)).Nodup:=Zhp nd fun a ha b hb e=>Z40 A0 ((hI a).2 ha) ((hI b).2 hb) e
 have sn:(sortL (I.map (rd l))).Nodup:=(Za4 _).nodup_iff.2 vn
 refine Zjo ?_ (Zlm _ _ (by simp)) fun x=>?_
 ·have h:=(Zcm (I.map (rd l))).and (List.nodup_iff_pairwise_ne.1 sn)
  exact h.imp fun ⟨a,b⟩=>by omega
 ·rw [(Za4 _).mem_iff,Zmd,<-Z41 A0 Bn,Qp]
  constructor
  ·rintro⟨i,hi,e⟩; exact .inr ⟨i,(hI i).2 hi,e⟩
  ·rintro (h | ⟨i,hi,e⟩)
   ·cases h
   ·exact⟨i,(hI i).1 hi,e⟩
end Go.Ab

namespace Go.Ab
open Go Go.Proofs Go.Ab.Wd Go.Ab.Bs Go.Ab.Sai
def leN(x:Int):List Int->Nat
 | []=>0
 | y::o=>if y<=x then leN x o+1 else 0
def insr(x:Int):List Int->List Int
 | []=>[x]
 | y::o=>if y<=x then y::insr x o else x::y::o
def srt(l:List Int):List Int:=l.foldl (fun o x=>insr x o) []
theorem Z6e{s:List Int}{lo n i:Nat}{u v:Int}(h:(dis s lo n)[i]?=some (u,v)):u<(lo+n:Nat):=by
 unfold dis at h
 rw [QP] at h
 cases hh:((Q5 lo n).filter fun v:Nat=>decide (0<Bs.cnt (fun x=>decide (x=(v:Int))) s))[i]? with
 | none=>rw [hh] at h; cases h
 | some z=>
  rw [hh] at h; injection h with h; injection h with h1 h2; subst h1
  have:=(Qaj.1 (QaK hh)).1
  simp only [QE] at this; omega
theorem Zm0{s t:List Int}{lo n:Nat}(h:∀ v:Nat,lo<=v->v<lo+n->Bs.cnt (fun x=>decide (x=(v:Int))) s=Bs.cnt (fun x=>decide (x=(v:Int))) t):dis s lo n=dis t lo n:=by
 unfold dis
 have e:((Q5 lo n).filter fun v:Nat=>decide (0<Bs.cnt (fun x=>decide (x=(v:Int))) s))=((Q5 lo n).filter fun v:Nat=>decide (0<Bs.cnt (fun x=>decide (x=(v:Int))) t)):=by
  apply QQ
  intro v hv
  simp only [QE] at hv
  rw [h v hv.1 hv.2]
 rw [e]
 apply Q9
 intro v hv
 have hv:=(Qaj.1 hv).1
 simp only [QE] at hv
 rw [h v hv.1 hv.2]
def pt(l:List Int)(a b:Int)(i:Nat):List Int:=(l.take (min i b.toNat)).drop a.toNat
end Go.Ab

namespace Go.Ab
open Go Go.Proofs Go.Ab.Wd Go.Ab.Bs Go.Ab.Sai
def symF(N:Int):Int->List (List Int)->List Int
 | _,[]=>[]
 | i,d::r=>d.map (fun b=>N+b)++i::symF N (i+1) r
def syms(D:List (List Int)):List Int:=symF D.length 0 D
def tot:List (List Int)->Nat
 | []=>0
 | d::r=>d.length+1+tot r
theorem Zc3(N:Int):∀ (i:Int) (D:List (List Int)),(symF N i D).length=tot D
 | _,[]=>rfl
 | i,d::r=>by simp only [symF,tot,Qc,Qj,Qh,Zc3 N (i+1) r]; omega
theorem Zas(D:List (List Int)):(syms D).length=tot D:=Zc3 _ _ _
theorem Zbr(A B:List (List Int)):tot (A++B)=tot A+tot B:=by
 induction A with
 | nil=>simp [tot]
 | cons d A ih=>simp only [QR,tot,ih]; omega
theorem Zfb(N:Int):∀ (A:List (List Int)) (i:Int) (B:List (List Int)),symF N i (A++B)=symF N i A++symF N (i+A.length) B
 | [],i,B=>by simp [symF]
 | d::A,i,B=>by
  simp only [QR,symF,Zfb N A (i+1) B,Qu,Qh]
  rw [show i+1+(A.length:Int)=i+((A.length+1:Nat):Int) by omega]
def docF:Int->List (List Int)->Int->Int×Int
 | _,[],_=>(-1,-1)
 | i,d::r,p=>if p<=d.length then (i,p) else docF (i+1) r (p-(d.length+1))
def occ(d q:List Int):List Int:=(places (d.length+1)).filter fun p=>pfB d p q
def occF(q:List Int):Int->List (List Int)->List Int
 | _,[]=>[]
 | s,d::r=>(occ d q).map (fun o=>s+o)++occF q (s+(d.length+1)) r
def occP(q:List Int):Int->List (List Int)->List (Int×Int)
 | _,[]=>[]
 | i,d::r=>(occ d q).map (fun o=>(i,o))++occP q (i+1) r
theorem Ztq{d q:List Int}{o:Int}(h:o∈occ d q):0<=o/\o+q.length<=d.length:=by
 unfold occ at h
 obtain⟨h1,h2⟩:=Qaj.1 h
 have:=Zbq.1 h2
 exact⟨this.1,this.2.1⟩
theorem Zq1{q:List Int}:∀ {D:List (List Int)} {s p:Int},p∈occF q s D->s<=p
 | [],s,p,h=>by simp [occF] at h
 | d::r,s,p,h=>by
  simp only [occF,Qw,Qp] at h
  rcases h with ⟨o,ho,rfl⟩ | h
  ·have:=Ztq ho; omega
  ·have:=Zq1 h; omega
theorem Zqz(q:List Int)(c:Int):∀ (D:List (List Int)) (s:Int),occF q (c+s) D=(occF q s D).map fun p=>c+p
 | [],s=>rfl
 | d::r,s=>by
  simp only [occF,Qs,QU]
  rw [show c+s+((d.length:Int)+1)=c+(s+(d.length+1)) by omega,Zqz q c r]
  congr 1
  refine Q9 fun o _=>?_
  simp only [Function.comp]; omega
theorem Zq0{q:List Int}:∀ (D:List (List Int)) (i s:Int),(occF q s D).map (fun p=>docF i D (p-s))=occP q i D
 | [],_,_=>rfl
 | d::r,i,s=>by
  simp only [occF,occP,Qs,QU]
  congr 1
  ·refine Q9 fun o ho=>?_
   have:=Ztq ho
   simp only [Function.comp,docF]
   rw [if_pos (by omega)]
   congr 1; omega
  ·rw [<-Zq0 r (i+1) (s+(d.length+1))]
   refine Q9 fun p hp=>?_
   have:=Zq1 hp
   simp only [docF]
   rw [if_neg (by omega)]
   congr 1; omega
theorem Zk5(a b:Nat):places (a+b)=places a++(places b).map fun p=>(a:Int)+p:=by
 unfold places
 rw [List.range_add,Qs,QU,QU]
 congr 1
theorem Zx3(A B:List Int){p:Int}(h0:0<=p)(q:List Int):pfB (A++B) (A.length+p) q=pfB B p q:=by
 rw [Q2,Zbq,Zbq]
 unfold Pf
 have e:∀ k:Nat,p+k<B.length->rd (A++B) ((A.length:Int)+p+k)=rd B (p+k):=fun k hk=>by
  rw [Zbe (by omega) (by omega)]; congr 1; omega
 constructor
 ·rintro⟨h1,h2,h3⟩
  simp only [Qc] at h2
  exact⟨h0,by omega,fun k hk=>by rw [<-e k (by omega)]; exact h3 k hk⟩
 ·rintro⟨h1,h2,h3⟩
  exact⟨by omega,by simp only [Qc]; omega,fun k hk=>by rw [e k (by omega)]; exact h3 k hk⟩
theorem Z3k{N i:Int}{d q rest:List Int}(hi:i<N)(hq:q≠[])(q0:∀ b∈q,0<=b){p:Int}(p0:0<=p)(p1:p<=d.length) :
  pfB (d.map (fun b=>N+b)++i::rest) p (q.map fun b=>N+b)=pfB d p q:=by
 have qn:∀ k:Nat,k<q.length->rd (q.map fun b=>N+b) k=N+rd q k:=fun k hk=>by rw [Zb (by simpa using hk),Zb hk]; simp
 have dn:∀ j:Nat,j<d.length->rd (d.map (fun b=>N+b)++i::rest) j=N+rd d j:=fun j hj=>by
  rw [Zcw (by omega) (by simp; omega),Zb (by simpa using hj),Zb hj]; simp
 have te:rd (d.map (fun b=>N+b)++i::rest) (d.length:Int)=i:=by
  rw [Zbe (by simp) (by simp; omega)]
  simp [rd]
 rw [Q2,Zbq,Zbq]
 unfold Pf
 simp only [Qj]
 constructor
 ·rintro⟨h1,h2,h3⟩
  have fit:p+q.length<=d.length:=by
   by_cases c:p+q.length<=d.length
   ·exact c
   ·exfalso
    have hk:(d.length-p.toNat)<q.length:=by omega
    have:=h3 (d.length-p.toNat) hk
    rw [show p+((d.length-p.toNat:Nat):Int)=d.length by omega,te,qn _ hk] at this
    have:=q0 (rd q ((d.length-p.toNat:Nat):Int)) (Ze (by omega) (by omega))
    omega
  refine⟨h1,fit,fun k hk=>?_⟩
  have:=h3 k hk
  rw [qn k hk,show p+(k:Int)=((p.toNat+k:Nat):Int) by omega,dn _ (by omega)] at this
  rw [show p+(k:Int)=((p.toNat+k:Nat):Int) by omega]
  omega
 ·rintro⟨h1,h2,h3⟩
  refine⟨h1,by simp; omega,fun k hk=>?_⟩
  have:=h3 k hk
  rw [qn k hk,show p+(k:Int)=((p.toNat+k:Nat):Int) by omega,dn _ (by omega)]
  rw [show p+(k:Int)=((p.toNat+k:Nat):Int) by omega] at this
  omega
theorem Zrr{N:Int}{q:List Int}(hq:q≠[])(q0:∀ b∈q,0<=b):∀ (D:List (List Int)) (i:Int),i+D.length<=N ->
  ((places (tot D)).filter fun p=>pfB (symF N i D) p (q.map fun b=>N+b))=occF q 0 D
 | [],i,_=>by simp [tot,places,occF]
 | d::r,i,h=>by
  simp only [Qh] at h
  have ih:=Zrr (N:=N) hq q0 r (i+1) (by omega)
  simp only [tot,symF,occF]
  rw [Zk5,Qz]
  congr 1
  ·unfold occ
   have e1:((places (d.length+1)).filter fun p=>pfB (d.map (fun b=>N+b)++i::symF N (i+1) r) p (q.map fun b=>N+b))=(places (d.length+1)).filter fun p=>pfB d p q:=
    QQ fun p hp=>by
     have:=Zo.1 hp
     exact Z3k (show i<N by omega) hq q0 this.1 (by omega)
   rw [e1]
   simp
  ·rw [List.filter_map]
   have e2:((places (tot r)).filter ((fun p=>pfB (d.map (fun b=>N+b)++i::symF N (i+1) r) p (q.map fun b=>N+b)) ∘ fun p=>((d.length+1:Nat):Int)+p))=(places (tot r)).filter fun p=>pfB (symF N (i+1) r) p (q.map fun b=>N+b):=
    QQ fun p hp=>by
     have:=Zo.1 hp
     have s:=Zx3 (d.map (fun b=>N+b)++[i]) (symF N (i+1) r) this.1 (q.map fun b=>N+b)
     simp only [Qc,Qj,Qr,Qu,QaH] at s
     exact s
   rw [e2,ih]
   have:=Zqz q (d.length+1) r 0
   rw [Int.add_zero] at this
   rw [QaA,this]
   rfl
theorem Zse{D:List (List Int)}{q:List Int}(hq:q≠[])(q0:∀ b∈q,0<=b) :
  (refPls (syms D) (q.map fun b=>(D.length:Int)+b)).map (docF 0 D)=occP q 0 D:=by
 unfold refPls
 rw [if_neg (by simpa using hq),Zas]
 unfold syms
 rw [Zrr hq q0 D 0 (by omega),<-Zq0 D 0 0]
 refine Q9 fun p _=>?_
 rw [Int.sub_zero]
def tms(d q:List Int):Nat:=(occ d q).length
def prF(q:List Int):Int->List (List Int)->List (Int×Int)
 | _,[]=>[]
 | i,d::r=>if tms d q=0 then prF q (i+1) r else (i,(tms d q:Int))::prF q (i+1) r
theorem Zcj{q:List Int}:∀ {D:List (List Int)} {i:Int} {x:Int×Int},x∈occP q i D->i<=x.1/\x.1<i+D.length
 | [],i,x,h=>by simp [occP] at h
 | d::r,i,x,h=>by
  simp only [occP,Qw,Qp] at h
  simp only [Qh]
  rcases h with ⟨o,ho,rfl⟩ | h
  ·simp only; omega
  ·have:=Zcj h; omega
theorem Zo8{s:List Int}{v:Int}(h:v ∉ s):Bs.cnt (fun x=>decide (x=v)) s=0:=by
 unfold Bs.cnt
 rw [List.length_eq_zero_iff,QG]
 intro x hx e
 simp only [decide_eq_true_eq] at e
 subst e; exact h hx
theorem Zsw(p:Int->Bool)(a b:List Int):Bs.cnt p (a++b)=Bs.cnt p a+Bs.cnt p b:=by unfold Bs.cnt; simp
theorem cnt_perm{a b:List Int}(h:a.Perm b)(p:Int->Bool):Bs.cnt p a=Bs.cnt p b:=(h.filter p).length_eq
theorem Zpd{q:List Int}:∀ (D:List (List Int)) (i n:Nat),D.length<=n->dis ((occP q i D).map (·.1)) i n=prF q i D
 | [],i,n,_=>by
  simp only [occP,QaZ,prF]
  exact Zpc fun x hx=>by cases hx
 | d::r,i,n,h=>by
  simp only [Qh] at h
  obtain⟨m,rfl⟩:∃ m,n=1+m:=⟨n-1,by omega⟩
  have ih:=Zpd (q:=q) r (i+1) m (by omega)
  have c1:Bs.cnt (fun x=>decide (x=(i:Int))) ((occP q i (d::r)).map (·.1))=tms d q:=by
   simp only [occP,Qs,QU]
   rw [Zsw,Zo8 (v:=(i:Int)) (s:=(occP q (i+1) r).map (·.1)) (fun hm=>by
    obtain⟨x,hx,e⟩:=Qp.1 hm
    have:=Zcj hx; omega)]
   unfold Bs.cnt tms
   rw [QaQ.2 (fun x hx=>by
    obtain⟨o,_,rfl⟩:=Qp.1 hx
    simp)]
   simp
  rw [Zm1,Z1i,c1]
  have e2:dis ((occP q i (d::r)).map (·.1)) (i+1) m=dis ((occP q ((i+1:Nat):Int) r).map (·.1)) (i+1) m:=by
   refine Zm0 fun v h1 h2=>?_
   simp only [occP,Qs,QU]
   rw [Zsw,Zo8 (v:=(v:Int)) (s:=(occ d q).map _) (fun hm=>by
    obtain⟨o,_,e⟩:=Qp.1 hm
    simp only [Function.comp] at e; omega),Q3]
   rfl
  rw [e2,ih]
  simp only [prF]
  by_cases c:tms d q=0
  ·rw [if_neg (by omega),if_pos c]; rfl
  ·rw [if_pos (by omega),if_neg c]; rfl
theorem Zml{q:List Int}:∀ {D:List (List Int)} {i x:Int},x∈(prF q i D).map (·.1) ↔ x∈(occP q i D).map (·.1)
 | [],i,x=>by simp [prF,occP]
 | d::r,i,x=>by
  have ih:=Zml (q:=q) (D:=r) (i:=i+1) (x:=x)
  simp only [prF,occP,Qs,Qw]
  by_cases c:tms d q=0
  ·rw [if_pos c,ih]
   have:occ d q=[]:=Qy c
   simp [this]
  ·rw [if_neg c,QC,Qx,ih]
   have:∃ o,o∈occ d q:=List.exists_mem_of_length_pos (by unfold tms at c; omega)
   obtain⟨o,ho⟩:=this
   constructor
   ·rintro (h | h)
    ·exact .inl (Qp.2 ⟨(i,o),Qp.2 ⟨o,ho,rfl⟩,h.symm⟩)
    ·exact .inr h
   ·rintro (h | h)
    ·obtain⟨y,hy,e⟩:=Qp.1 h
     obtain⟨o',_,rfl⟩:=Qp.1 hy
     exact .inl e.symm
    ·exact .inr h
theorem Zfl{q:List Int}:∀ {D:List (List Int)} {i:Int} {x:Int×Int},x∈prF q i D->i<=x.1/\x.1<i+D.length/\0<x.2
 | [],i,x,h=>by simp [prF] at h
 | d::r,i,x,h=>by
  simp only [prF] at h
  simp only [Qh]
  split at h
  ·have:=Zfl h; omega
  ·rename_i c
   rcases Qx.1 h with rfl | h
   ·simp only; omega
   ·have:=Zfl h; omega
theorem Zmk{q:List Int}:∀ (D:List (List Int)) (i:Int),Inc ((prF q i D).map (·.1))
 | [],i=>by simp [prF]
 | d::r,i=>by
  simp only [prF]
  split
  ·exact Zmk r (i+1)
  ·rw [QC,Inc,QL]
   refine⟨fun z hz=>?_,Zmk r (i+1)⟩
   obtain⟨x,hx,rfl⟩:=Qp.1 hz
   have:=Zfl hx; simp only; omega
theorem Zjd{D:List (List Int)}{q s:List Int}(h:s.Perm ((occP q 0 D).map (·.1))):dOf [] s=(prF q 0 D).map (·.1):=by
 refine Zjo (Zlm _ _ (by simp)) (Zmk _ _) fun x=>?_
 rw [Zmd,Zml,h.mem_iff]
 simp
theorem Ztx{q:List Int}:∀ (D:List (List Int)) (i:Int),(prF q i D).length<=D.length
 | [],i=>by simp [prF]
 | d::r,i=>by
  simp only [prF,Qh]
  have:=Ztx (q:=q) r (i+1)
  split <;> simp <;> omega
end Go.Ab

namespace Go.Ab
open Go
abbrev Uni (es:Nat) (L:List (List AV)):Prop:=∀ x∈L,x.length=es
theorem Zt{es:Nat}:∀ {L:List (List AV)},Uni es L->L.flatten.length=L.length*es
 | [],_=>by simp
 | x::L,h=>by
  rw [QY,Qc,Zt (fun y hy=>h y (by simp [hy])),h x (by simp),Qh,QI]; omega
theorem Zm8{es:Nat}:∀ {L:List (List AV)} (_:Uni es L) {i f:Nat} {x:List AV} (_:L[i]?=some x) (_:f<es),L.flatten[i*es+f]?=x[f]?
 | [],_,i,f,x,hx,_=>by simp at hx
 | y::L,h,0,f,x,hx,hf=>by
  simp at hx; subst hx
  rw [Qba,Q3,QY,Q4 (by rw [h y (by simp)]; exact hf)]
 | y::L,h,i+1,f,x,hx,hf=>by
  have hy:=h y (by simp)
  rw [QY,Qaa (by rw [hy,QI]; omega),hy,show (i+1)*es+f-es=i*es+f by rw [QI]; omega]
  exact Zm8 (fun z hz=>h z (by simp [hz])) (by simpa using hx) hf
theorem Zqe{es:Nat}:∀ {L:List (List AV)} (_:Uni es L) {i:Nat} (_:i<L.length) {v:List AV} (_:v.length=es),(L.set i v).flatten=L.flatten.take (i*es)++v++L.flatten.drop ((i+1)*es)
 | [],_,i,hi,_,_=>by simp at hi
 | y::L,h,0,_,v,hv=>by
  have hy:=h y (by simp)
  simp only [Qax,QY,Qba,Qay,QA,Q3,Qbl]
  rw [QT (by omega),QaB (by omega),QA]
 | y::L,h,i+1,hi,v,hv=>by
  have hy:=h y (by simp)
  have ih:=Zqe (L:=L) (fun z hz=>h z (by simp [hz])) (i:=i) (by simpa using hi) hv
  simp only [QaU,QY]
  rw [ih]
  have e1:(i+1)*es=y.length+i*es:=by rw [hy,QI]; omega
  have e2:(i+1+1)*es=y.length+(i+1)*es:=by rw [hy,QI (i+1) 1 es]; omega
  rw [e2,e1,Qas,List.drop_length_add_append,<-e1]
  simp
section
variable {σ σ':Store} {n es:Nat} {h:Hdl} {L:List (List AV)}
theorem Zfn(s:σ.Sl h es L.flatten)(u:Uni es L)(he:0<es):h.len=L.length:=by
 have:=s.len; rw [Zt u] at this
 exact Nat.eq_of_mul_eq_mul_right he this
theorem Z0u(s:σ.Sl h es L.flatten)(u:Uni es L){i f:Nat}{x:List AV}(hx:L[i]?=some x)(hf:f<es):σ.cell (Q8 (h.idx (i:Int) es) f)=x[f]?:=by
 have hi:i<L.length:=(Qg.1 hx).1
 have he:0<es:=by omega
 have hl:=Zfn s u he
 rcases s.row with h1 | ⟨b,o,cs,rw,h1,h2,h3,h4⟩
 ·omega
 ·have fl:=Zt u
  have hb:i*es+f<L.flatten.length:=by
   rw [fl]
   have:(i+1)*es<=L.length*es:=Qab _ hi
   rw [QI] at this; omega
  simp only [Qby,Q8,h1,Q6,Store.cell,h2,Ql]
  rw [<-Zm8 u hx hf,<-h4,Qaw,if_pos hb,Qav,Nat.add_assoc]
theorem Zl(s:σ.Sl h es L.flatten)(u:Uni es L){i f:Nat}{x:List AV}{k:IntKind}{v:Int}(hx:L[i]?=some x)(hf:f<es)(hv:x[f]?=some (.int k v)):σ.ldInt k (Q8 (h.idx (i:Int) es) f)=some v:=by
 simp only [Qb1,Z0u s u hx hf,hv,if_true]
theorem Zfp:∀ (vs:List AV) {σ:Store} {b es0 o i:Nat} {l:List AV} (_:σ.objs[b]?=some (.cells l true es0)) (_:σ.prot<=b) (_:o+i+vs.length<=l.length) (_:∀ v∈vs,v.one=true),
  σ.stL (some (b,o)) vs i=some (if vs=[] then σ else σ.setO b (.cells (l.take (o+i)++vs++l.drop (o+i+vs.length)) true es0))
 | [],σ,b,es0,o,i,l,_,_,_,_=>rfl
 | v::vs,σ,b,es0,o,i,l,hr,hp,hl,ho=>by
  simp only [Qh] at hl
  have h1:σ.st (Q8 (some (b,o)) i) v=some (σ.setO b (.cells (l.set (o+i) v) true es0)):=by
   simp only [Q8,Q6,Store.st,hr]
   rw [if_pos ⟨⟨hp,by omega⟩,ho v (by simp)⟩]; rfl
  have hb:b<σ.objs.length:=(Qg.1 hr).1
  have hr2:(σ.setO b (.cells (l.set (o+i) v) true es0)).objs[b]?=some (.cells (l.set (o+i) v) true es0):=by
   show (σ.objs.set b _)[b]?=_
   rw [Qm,if_pos rfl,if_pos hb]
  have ih:=Zfp vs (σ:=σ.setO b (.cells (l.set (o+i) v) true es0)) (o:=o) (i:=i+1) hr2 hp (by simp; omega) (fun u hu=>ho u (by simp [hu]))
  simp only [Qbi,h1,Qd,ih]
  have e0:l.take (o+i)++v::l.drop (o+i+1)=l.set (o+i) v:=by
   rw [List.set_eq_take_append_cons_drop,if_pos (by omega)]
  by_cases c:vs=[]
  ·subst c
   simp only [if_true]
   rw [if_neg (by simp)]
   congr 3
   simp [<-e0]
  ·rw [if_neg c,if_neg (by simp)]
   have ht:(l.set (o+i) v).take (o+(i+1))=l.take (o+i)++[v]:=by
    rw [<-e0,List.take_append,Qo (by simp; omega)]
    congr 1
    rw [Qk,Qq (by omega),show o+(i+1)-(o+i)=1 by omega]; rfl
   have hd:(l.set (o+i) v).drop (o+(i+1)+vs.length)=l.drop (o+i+(vs.length+1)):=by
    rw [List.drop_set_of_lt (by omega)]; congr 1; omega
   have ss:∀ (x y:AObj),(σ.setO b x).setO b y=σ.setO b y:=fun x y=>by simp [Store.setO]
   rw [ss,ht,hd]
   simp
theorem Zn4{A B:List AV}{k m:Nat}(h:A.length=k):(A++B).take (k+m)=A++B.take m:=by subst h; exact Qas _
theorem Zqg(g:Grow σ n h es L.flatten)(u:Uni es L)(hp:σ.prot<=n){i:Nat}(hi:i<L.length){v:List AV}(hv:v.length=es)(he:0<es)(ho:∀ x∈v,x.one=true) :
  ∃ σ',σ.stL (h.idx (i:Int) es) v 0=some σ'/\Kp n σ σ'/\Grow σ' n h es (L.set i v).flatten/\σ'.objs.length=σ.objs.length/\∀ x,h.row≠some x->σ'.objs[x]?=σ.objs[x]?:=by
 have hl:=Zfn g.sl u he
 have fl:=Zt u
 have hie:(i+1)*es<=L.length*es:=Qab _ hi
 have hi2:(i+1)*es=i*es+es:=by rw [QI]; omega
 cases ha:h.a with
 | none=>have:=g.own.nil ha; omega
 | some bo=>
  obtain⟨b,o⟩:=bo
  obtain⟨hb,cs,k1,k2,k3⟩:=g.own.own b o ha
  have hbl:b<σ.objs.length:=(Qg.1 k1).1
  have Zf:(cs.drop o).take L.flatten.length=L.flatten:=by
   rcases g.sl.row with h1 | ⟨b',o',cs',rw',h1,h2,h3,h4⟩
   ·omega
   ·rw [ha] at h1; injection h1 with h1; injection h1 with e1 e2; subst e1 e2
    rw [k1] at h2; injection h2 with h2; injection h2 with e1 e2 e3; subst e1
    exact h4
  rw [hl] at k2
  have st:=Zfp v (o:=o+i*es) (i:=0) k1 (by omega) (by rw [hv]; omega) ho
  rw [if_neg (by intro e; subst e; simp at hv; omega)] at st
  simp only [Qak,hv] at st
  have ep:h.idx (i:Int) es=some (b,o+i*es):=by simp only [Qby,Q8,ha,Q6,Ql]
  obtain⟨cs2,hcs2⟩:∃ c,c=cs.take (o+i*es)++v++cs.drop (o+i*es+es):=⟨_,rfl⟩
  rw [<-hcs2] at st
  have l2:cs2.length=cs.length:=by rw [hcs2]; simp [hv]; omega
  have row2:(cs2.drop o).take (L.set i v).flatten.length=(L.set i v).flatten:=by
   have u2:Uni es (L.set i v):=fun x hx=>by
    rcases Qag hx with hx | rfl
    ·exact u x hx
    ·exact hv
   rw [Zt u2,List.length_set,Zqe u hi hv,<-Zf,fl,hcs2]
   rw [Qu,QT (by simp; omega),QaL,show o+i*es-o=i*es by omega]
   have t1:((cs.drop o).take (L.length*es)).take (i*es)=(cs.drop o).take (i*es):=by rw [QaM,Qq (by omega)]
   have t2:((cs.drop o).take (L.length*es)).drop ((i+1)*es)=(cs.drop (o+i*es+es)).take (L.length*es-(i+1)*es):=by
    rw [QaL,Qbr]; congr 2; omega
   rw [t1,t2,Qu]
   have a1:((cs.drop o).take (i*es)).length=i*es:=by simp; omega
   have e3:L.length*es=(i*es)+(es+(L.length*es-(i+1)*es)):=by omega
   conv=>lhs; rw [e3]
   rw [Zn4 a1,Zn4 hv]
  refine⟨_,by rw [ep]; exact st,(Kp.refl _ _).setO hb,⟨⟨?_,.inr ⟨b,o,cs2,true,ha,Store.Row.setO_eq hbl,?_,row2⟩⟩,⟨fun b' o' e=>?_,g.own.nil⟩⟩,by simp,fun x hx=>?_⟩
  ·rw [hl,Zt (fun x hx=>by rcases Qag hx with hx | rfl; exact u x hx; exact hv)]; simp
  ·rw [Zt (fun x hx=>by rcases Qag hx with hx | rfl; exact u x hx; exact hv),l2]; simp; omega
  ·rw [ha] at e; injection e with e; injection e with e1 e2; subst e1 e2
   exact⟨hb,cs2,Store.Row.setO_eq hbl,by rw [l2,hl]; omega,fun c hc=>by rw [l2]; exact k3 c hc⟩
  ·have:x≠b:=fun e=>hx (by simp [Hdl.row,ha,e])
   show (σ.objs.set b _)[x]?=_
   rw [Qm,if_neg (Ne.symm this)]
theorem Z57(σ:Store)(v:List AV)(cp:Option Nat)(es:Nat)(hv:v.length=es):Qbz (σ.push v es) ⟨some (σ.objs.length,0),1,cp⟩ es=some v:=
 (Store.Row.new.sl (by rw [hv]; omega)).read
theorem Zxa(g:Grow σ n h es L.flatten)(u:Uni es L)(hp:σ.prot<=n)(hn:n<=σ.objs.length){v:List AV}(hv:v.length=es)(he:0<es)(ho:v.all AV.one=true){bs:Nat}(hb:0<bs)(hc:(L.length+1)*bs<=140737488355328) :
  ∃ h' σ',Qbx (σ.push v es) h es bs v 1=some (h',σ')/\Kp n σ σ'/\Grow σ' n h' es (L++[v]).flatten/\(∀ b,b<σ.objs.length->h.row≠some b->σ'.objs[b]?=σ.objs[b]?)/\(h'.row=h.row\/∀ b,h'.row=some b->σ.objs.length<=b):=by
 have k:=Kp.push v es (σ:=σ) (Qe _)
 have g':=g.kp k
 have hl:=Zfn g.sl u he
 obtain⟨h',σ',e,k',s',o',_,fr⟩:=Zbg (xs:=v) (by_:=bs) (m:=1) g'.sl g'.own (by simpa using hp) (by simp; omega) he (by rw [hv]; omega) ho hb (by rw [hl]; exact hc)
 refine⟨h',σ',e,(Kp.push v es hn).trans k',⟨by simpa using s',o'⟩,fun b hb hr=>?_,?_⟩
 ·rw [fr b (fun c o e' e2=>hr (by simp [Hdl.row,e',e2])) (by simp; omega)]
  simp only [Qbs]; rw [Q4 hb]
 ·rcases Zh5 e with r | r
  ·exact .inl r
  ·refine .inr fun b hb=>?_
   rw [r] at hb; injection hb with hb; subst hb; simp
end
end Go.Ab

namespace Go.Ab
open Go Go.Proofs Go.Ab.Wd Go.Ab.Bs Go.Ab.Sai
end Go.Ab

namespace Go.Ab
open Go Go.Proofs Go.Ab.Wd Go.Ab.Bs Go.Ab.Sai
abbrev Pt:=Nat×Nat×Nat×Nat×Nat
def pcs(x:Pt):List AV:=[.int .i64 x.1,.int .i64 x.2.1,.int .i64 x.2.2.1,.int .i64 x.2.2.2.1,.int .i64 x.2.2.2.2]
abbrev pfl (L:List Pt):List AV:=(L.map pcs).flatten
theorem Zcv(L:List Pt):Uni 5 (L.map pcs):=fun x hx=>by
 obtain⟨y,_,rfl⟩:=Qp.1 hx; rfl
def pn(x:Pt):Nat:=x.2.2.2.2-x.2.2.2.1
def plt(x y:Pt):Bool:=decide (pn y<pn x) || (decide (pn x=pn y)&&decide (x.2.2.1<y.2.2.1))
theorem Zid{x y:Pt}:plt x y=true ↔ pn y<pn x\/(pn x=pn y/\x.2.2.1<y.2.2.1):=by unfold plt; simp
theorem Zmj{x y:Pt}:plt x y=false ↔ pn x<pn y\/(pn x=pn y/\y.2.2.1<=x.2.2.1):=by rw [<-Bool.not_eq_true,Zid]; omega
theorem Zba:Hp.Ord plt:=
 ⟨fun a=>by rw [Zmj]; omega,
 fun a b c h k=>by rw [Zmj] at *; omega,
 fun a b h=>by rw [Zid] at h; rw [Zmj]; omega⟩
structure Fit (x:Pt):Prop where
 l:x.1<2^40
 c:x.2.1<2^40
 e:x.2.2.1<2^40
 a:x.2.2.2.1<=x.2.2.2.2
 b:x.2.2.2.2<2^40
section
variable {σ:Store} {h:Hdl} {L:List Pt}
theorem Zie(s:σ.Sl h 5 (pfl L)):h.len=L.length:=by
 have:=Zfn s (Zcv L) (by omega); simpa using this
theorem Zq7(s:σ.Sl h 5 (pfl L)):Runs Qa 277 [.slice h] σ (.int .i64 L.length) σ:=by
 have:=Zie s
 refine rI Tryz.f277 (Ev.of fun k=>?_)
 simp only [Z22,this]
theorem Znd(σ:Store)(x:Int):Runs Qa 145 [.int .i64 x] σ (.bool false) σ:=by
 refine rI Tryz.f145 (Ev.of fun k=>?_)
 simp only [Zs6]
 simp
def cmpI(x y:Int):Int:=if x<y then -1 else if y<x then 1 else 0
theorem Zo7(σ:Store)(x y:Int):Runs Qa 81 [.int .i64 x,.int .i64 y] σ (.int .i64 (cmpI x y)) σ:=by
 obtain⟨n1,r1⟩:=Znd σ x
 obtain⟨n2,r2⟩:=Znd σ y
 refine rI Tryz.f81 ⟨n1+n2,fun k hk=>?_⟩
 have r1:=r1 k (by omega)
 have r2:=r2 k (by omega)
 simp only at r1 r2
 simp only [Zw4]
 simp only [stp,r1,r2]
 unfold cmpI
 split
 ·rfl
 ·split <;> rfl
theorem Z5c{h:Hdl}{x y:Int}(s:σ.Ints h [x,y]):Runs Qa 80 [.slice h] σ (.int .i64 (if x≠0 then x else y)) σ:=by
 have hl:=s.ilen
 simp only [Qh,QW,Q3] at hl
 have g0:σ.ldInt .i64 (h.idx 0 1)=some x:=s.rd (i:=0) (by omega) (by simp)
 have g1:σ.ldInt .i64 (h.idx 1 1)=some y:=s.rd (i:=1) (by omega) (by simp)
 have w1:Qb .i64 1=1:=by rfl
 have w2:Qb .i64 2=2:=by rfl
 by_cases c:x=0
 ·rw [if_neg (by simpa using c)]
  have s0:Ev (fun k=>QX Qa (gm Qa k) QS k Tryz.f80 [1,1,0,1,0] [8,7,6,3] ([.int .i64 0,.int .i64 2,.slice h,.int .i64 0],σ)) (.inl ([.int .i64 1,.int .i64 2,.slice h,.int .i64 0],σ)):=Ev.of fun k=>by
   simp only [Z9]
   simp [hl,g0,c,w1]
  by_cases d:y=0
  ·have e:EvI (fun k s=>QX Qa (gm Qa k) QS k Tryz.f80 [1,1,0,1,0] [8,7,6,3] s) ([.int .i64 0,.int .i64 2,.slice h,.int .i64 0],σ) (QD 0,[(3,.int .i64 0)],σ):=by
    refine EvI.step s0 (EvI.step (s':=([.int .i64 2,.int .i64 2,.slice h,.int .i64 0],σ)) (Ev.of fun k=>?_) (EvI.done (Ev.of fun k=>?_)))
    ·simp only [Z9]
     simp [hl,g1,d,w2]
    ·simp only [Z9]
     simp
   obtain⟨n,e⟩:=Zc e
   refine rI Tryz.f80 ⟨n,fun k hk=>?_⟩
   have e:=e k hk
   simp only at e
   simp only [Zfi,hl]
   rw [show ((2:Nat):Int)=2 from rfl,e,Qd,Zhb,d]
  ·have e:EvI (fun k s=>QX Qa (gm Qa k) QS k Tryz.f80 [1,1,0,1,0] [8,7,6,3] s) ([.int .i64 0,.int .i64 2,.slice h,.int .i64 0],σ) (Qb0,[(2,.int .i64 y)],σ):=by
    refine EvI.step s0 (EvI.done (Ev.of fun k=>?_))
    simp only [Z9]
    simp [hl,g1,d]
   obtain⟨n,e⟩:=Zc e
   refine rI Tryz.f80 ⟨n,fun k hk=>?_⟩
   have e:=e k hk
   simp only at e
   simp only [Zfi,hl]
   rw [show ((2:Nat):Int)=2 from rfl,e,Qd,Zcf]
 ·rw [if_pos c]
  have e:EvI (fun k s=>QX Qa (gm Qa k) QS k Tryz.f80 [1,1,0,1,0] [8,7,6,3] s) ([.int .i64 0,.int .i64 2,.slice h,.int .i64 0],σ) (Qb0,[(2,.int .i64 x)],σ):=by
   refine EvI.done (Ev.of fun k=>?_)
   simp only [Z9]
   simp [hl,g0,c]
  obtain⟨n,e⟩:=Zc e
  refine rI Tryz.f80 ⟨n,fun k hk=>?_⟩
  have e:=e k hk
  simp only at e
  simp only [Zfi,hl]
  rw [show ((2:Nat):Int)=2 from rfl,e,Qd,Zcf]
theorem Z09(s:σ.Sl h 5 (pfl L))(hn:0<L.length)(i:Int):∃ q,h.idx i 5=some q:=by
 have:=Zie s
 rcases s.row with h1 | ⟨b,o,cs,rw,h1,_⟩
 ·omega
 ·exact⟨(b,o+i.toNat*5),by simp only [Qby,Q8,h1,Q6]⟩
theorem Zaq{i:Nat}{x:Pt}(hi:L[i]?=some x):(L.map pcs)[i]?=some (pcs x):=by rw [QP,hi]; rfl
theorem Zht(s:σ.Sl h 5 (pfl L)){i j:Nat}{x y:Pt}(hi:L[i]?=some x)(hj:L[j]?=some y)(fx:Fit x)(fy:Fit y) :
  ∃ c1 c2:Int,Runs Qa 278 [.slice h,.int .i64 i,.int .i64 j] σ (.bool (plt x y)) (σ.push [.int .i64 c1,.int .i64 c2] 1):=by
 have hl:=Zie s
 have il:i<L.length:=(Qg.1 hi).1
 have jl:j<L.length:=(Qg.1 hj).1
 obtain⟨q,hq⟩:=Z09 s (by omega) (i:Int)
 obtain⟨r,hr⟩:=Z09 s (by omega) (j:Int)
 have u:=Zcv L
 have i2:=Zl s u (Zaq hi) (f:=2) (by omega) rfl
 have i3:=Zl s u (Zaq hi) (f:=3) (by omega) rfl
 have i4:=Zl s u (Zaq hi) (f:=4) (by omega) rfl
 have j2:=Zl s u (Zaq hj) (f:=2) (by omega) rfl
 have j3:=Zl s u (Zaq hj) (f:=3) (by omega) rfl
 have j4:=Zl s u (Zaq hj) (f:=4) (by omega) rfl
 rw [hq] at i2 i3 i4
 rw [hr] at j2 j3 j4
 have nx:Qb .i64 ((x.2.2.2.2:Int)-x.2.2.2.1)=((pn x:Nat):Int):=by
  have h1:=fx.a
  have h2:=fx.b
  unfold pn; rw [Za (by omega) (by omega)]; omega
 have ny:Qb .i64 ((y.2.2.2.2:Int)-y.2.2.2.1)=((pn y:Nat):Int):=by
  have h1:=fy.a
  have h2:=fy.b
  unfold pn; rw [Za (by omega) (by omega)]; omega
 obtain⟨n1,r1⟩:=Zo7 { σ with prot:=σ.objs.length } (pn y) (pn x)
 obtain⟨n2,r2⟩:=Zo7 σ (x.2.2.1) (y.2.2.1)
 have rw_:(σ.push [.int .i64 (cmpI (pn y) (pn x)),.int .i64 (cmpI x.2.2.1 y.2.2.1)] 1).Ints ⟨some (σ.objs.length,0),2,some 2⟩ [cmpI (pn y) (pn x),cmpI x.2.2.1 y.2.2.1]:=Store.Row.new.sl (by rfl)
 obtain⟨n3,r3⟩:=Z5c rw_
 refine⟨cmpI (pn y) (pn x),cmpI x.2.2.1 y.2.2.1,rI Tryz.f278 ⟨n1+n2+n3,fun k hk=>?_⟩⟩
 have r1:=r1 k (by omega)
 have r2:=r2 k (by omega)
 have r3:=r3 k (by omega)
 simp only at r1 r2 r3
 have q1:=Zn r1
 have c1:(0:Int)<=i/\(i:Int)<h.len:=by omega
 have c2:(0:Int)<=j/\(j:Int)<h.len:=by omega
 have fin:decide ((if cmpI (pn y) (pn x)≠0 then cmpI (pn y) (pn x) else cmpI x.2.2.1 y.2.2.1)<0)=plt x y:=by
  rw [Q2,Zid,decide_eq_true_eq]
  unfold cmpI
  split <;> split <;> (try split) <;> (try split) <;> omega
 simp only [Z23]
 rw [if_pos c2]
 simp only [hr,hq,Qd,j4,if_pos c2,j3,if_pos c1,i4,i3,nx,ny,q1,Qai,if_true,i2,j2,r2]
 erw [r3]
 simp only [Qd,Qai,if_true,fin]
structure Mw (h:Hdl) (σ σ':Store):Prop where
 prot:σ'.prot=σ.prot
 len:σ.objs.length<=σ'.objs.length
 kp:∀ x,x<σ.objs.length->h.row≠some x->σ'.objs[x]?=σ.objs[x]?
theorem Mw.refl(h:Hdl)(σ:Store):Mw h σ σ:=⟨rfl,Qe _,fun _ _ _=>rfl⟩
theorem Mw.trans{σ1 σ2:Store}(a:Mw h σ σ1)(b:Mw h σ1 σ2):Mw h σ σ2:=⟨b.prot.trans a.prot,Qat a.len b.len,fun x hx hr=>(b.kp x (QaV hx a.len) hr).trans (a.kp x hx hr)⟩
theorem Mw.kpl{σ':Store}(k:Kp σ.objs.length σ σ'):Mw h σ σ':=⟨k.prot,k.len,fun x hx _=>k.keep x hx⟩
theorem Mw.push(h:Hdl)(σ:Store)(l:List AV)(es:Nat):Mw h σ (σ.push l es):=Mw.kpl (Kp.push l es (Qe _))
theorem Mw.row{σ':Store}{b es:Nat}{l:List AV}(m:Mw h σ σ')(r:σ.Row b es l)(hb:h.row≠some b):σ'.Row b es l:=(m.kp b r.lt hb).trans r
theorem Zhu{n:Nat}(g:Grow σ n h 5 (pfl L))(hp:σ.prot<=n){i j:Nat}(il:i<L.length)(jl:j<L.length) :
  ∃ σ',Runs Qa 279 [.slice h,.int .i64 i,.int .i64 j] σ (.tuple []) σ'/\Mw h σ σ'/\Grow σ' n h 5 (pfl (Hp.swap L i j)):=by
 have s:=g.sl
 have hl:=Zie s
 obtain⟨x,hi⟩:∃ x,L[i]?=some x:=⟨_,Qi il⟩
 obtain⟨y,hj⟩:∃ y,L[j]?=some y:=⟨_,Qi jl⟩
 have u:=Zcv L
 have i0:=Zl s u (Zaq hi) (f:=0) (by omega) rfl
 have i1:=Zl s u (Zaq hi) (f:=1) (by omega) rfl
 have i2:=Zl s u (Zaq hi) (f:=2) (by omega) rfl
 have i3:=Zl s u (Zaq hi) (f:=3) (by omega) rfl
 have i4:=Zl s u (Zaq hi) (f:=4) (by omega) rfl
 have j0:=Zl s u (Zaq hj) (f:=0) (by omega) rfl
 have j1:=Zl s u (Zaq hj) (f:=1) (by omega) rfl
 have j2:=Zl s u (Zaq hj) (f:=2) (by omega) rfl
 have j3:=Zl s u (Zaq hj) (f:=3) (by omega) rfl
 have j4:=Zl s u (Zaq hj) (f:=4) (by omega) rfl
 obtain⟨σ1,e1,k1,g1,l1,f1⟩:=Zqg g u hp (i:=i) (by simpa using il) (v:=pcs y) rfl (by omega) (fun z hz=>by simp [pcs] at hz; rcases hz with rfl | rfl | rfl | rfl | rfl <;> rfl)
 rw [<-Qbb] at g1
 obtain⟨σ2,e2,k2,g2,l2,f2⟩:=Zqg g1 (Zcv _) (by rw [k1.prot]; exact hp) (i:=j) (by simpa using jl) (v:=pcs x) rfl (by omega) (fun z hz=>by simp [pcs] at hz; rcases hz with rfl | rfl | rfl | rfl | rfl <;> rfl)
 rw [<-Qbb] at g2
 have ex:Hp.at_ L i=x:=by rw [Hp.at_get il]; rw [Qi il] at hi; injection hi
 have ey:Hp.at_ L j=y:=by rw [Hp.at_get jl]; rw [Qi jl] at hj; injection hj
 refine⟨σ2,rI Tryz.f279 (Ev.of fun k=>?_),⟨k2.prot.trans k1.prot,by omega,fun z hz hr=>(f2 z hr).trans (f1 z hr)⟩,by unfold Hp.swap; rw [ex,ey]; exact g2⟩
 have c1:(0:Int)<=i/\(i:Int)<h.len:=by omega
 have c2:(0:Int)<=j/\(j:Int)<h.len:=by omega
 unfold pcs at e1 e2
 simp only [Z24]
 simp only [if_pos c1,if_pos c2,Qd,i0,i1,i2,i3,i4,j0,j1,j2,j3,j4,e1,e2]
end
end Go.Ab

namespace Go.Ab
open Go Go.Proofs Go.Ab.Wd Go.Ab.Bs Go.Ab.Sai
section
variable {σ:Store} {h:Hdl} {L:List Pt} {n b:Nat} {pm:Ptr}
theorem ld1(R:σ.Row b 2 [.ptr pm,.slice h]):σ.ldSl (some (b,1))=some h:=by
 have:=Zg R (o:=1) rfl
 simpa [Q8] using this
theorem Zxb{m:Nat}(h0:0<m)(h1:m<2^40):Qb .i64 (Int.tdiv (Qb .i64 ((m:Int)-1)) 2)=(((m-1) / 2:Nat):Int):=by
 rw [Za (x:=(m:Int)-1) (by omega) (by omega),show ((m:Int)-1)=((m-1:Nat):Int) by omega,Int.tdiv_eq_ediv_of_nonneg (by omega)]
 rw [Za (by omega) (by omega)]; omega
theorem Z4z{L':List Pt}(p:L'.Perm L)(F:∀ x∈L,Fit x):∀ x∈L',Fit x:=fun x hx=>F x (p.mem_iff.1 hx)
theorem atg{i:Nat}(hi:i<L.length):L[i]?=some (Hp.at_ L i):=by rw [Hp.at_get hi,Qi hi]
theorem atm{i:Nat}(hi:i<L.length):Hp.at_ L i∈L:=by rw [Hp.at_get hi]; exact List.getElem_mem hi
theorem Z5w(R:σ.Row b 2 [.ptr pm,.slice h])(hb:h.row≠some b)(g:Grow σ n h 5 (pfl L))(hp:σ.prot<=n)(F:∀ x∈L,Fit x)(hL:L.length<2^40){j:Nat}(U:Hp.UpI plt L L.length j)(hj:j<L.length) :
  ∃ L' σ',Runs Qa 249 [.iface 298 (.ptr (some (b,1))),.int .i64 j] σ (.tuple []) σ'/\Mw h σ σ'/\Grow σ' n h 5 (pfl L')/\L'.Perm L/\Hp.Heap plt L' L'.length:=by
 obtain⟨r,e,L',σ',rfl,M,G,P,H⟩:=EvI.while (f:=fun k s=>QX Qa (gm Qa k) QS k Tryz.f249 [0] [1,0] s)
  (fun m s=>∃ L' σ',s=([.int .i64 (m:Nat),.iface 298 (.ptr (some (b,1)))],σ')/\Mw h σ σ'/\Grow σ' n h 5 (pfl L')/\L'.Perm L/\Hp.UpI plt L' L'.length m/\m<L'.length)
  (fun r=>∃ L' σ',r=(QD 0,[],σ')/\Mw h σ σ'/\Grow σ' n h 5 (pfl L')/\L'.Perm L/\Hp.Heap plt L' L'.length)
  (by
   rintro m s ⟨L',σ',rfl,M,G,P,U,hm⟩
   have ll:=P.length_eq
   rcases QM m with rfl | m0
   ·refine .inr ⟨_,Ev.of fun k=>?_,L',σ',rfl,M,G,P,U.stop (.inl rfl)⟩
    simp only [Zl5]
    rw [if_pos (by decide)]
   ·have hw:=Zxb m0 (by omega)
    have ne:¬ ((((m-1) / 2:Nat):Int)=(m:Int)):=by omega
    have R1:=M.row R hb
    have l1:=ld1 R1
    have il:(m-1) / 2<L'.length:=by omega
    have F':=Z4z P F
    obtain⟨c1,c2,n1,r1⟩:=Zht G.sl (atg hm) (atg il) (F' _ (atm hm)) (F' _ (atm il))
    have M1:=M.trans (Mw.push h σ' [.int .i64 c1,.int .i64 c2] 1)
    have G1:=G.kp (Kp.push [.int .i64 c1,.int .i64 c2] 1 (Qe _))
    have l2:=ld1 (M1.row R hb)
    cases hc:plt (Hp.at_ L' m) (Hp.at_ L' ((m-1) / 2)) with
    | false=>
     refine .inr ⟨_,⟨n1,fun k hk=>?_⟩,L',_,rfl,M1,G1,P,U.stop (.inr hc)⟩
     have r1:=r1 k hk
     simp only at r1
     simp only [Zl5,hw]
     simp only [stp,ne,l1,r1,hc]
    | true=>
     obtain⟨σ2,⟨n2,r2⟩,M2,G2⟩:=Zhu (i:=(m-1) / 2) (j:=m) G1 (by rw [M1.prot]; exact hp) il hm
     refine .inl ⟨(m-1) / 2,_,by omega,⟨n1+n2,fun k hk=>?_⟩,_,σ2,rfl,M1.trans M2,G2,(Hp.swap_perm il hm).trans P,?_,by simpa using il⟩
     ·have r1:=r1 k (by omega)
      have r2:=r2 k (by omega)
      simp only at r1 r2
      simp only [Zl5,hw]
      simp only [stp,ne,l1,r1,hc,l2,r2]
     ·rw [Hp.swap_length]; exact U.step Zba (Qe _) m0 hm hc)
  j _ ⟨L,σ,rfl,Mw.refl _ _,g,List.Perm.refl _,U,hj⟩
 obtain⟨n1,e⟩:=Zc e
 refine⟨L',σ',rI Tryz.f249 ⟨n1,fun k hk=>?_⟩,M,G,P,H⟩
 have e:=e k hk
 simp only at e
 simp only [Z20]
 rw [e,Qd,Zwy]
theorem Zwq(R:σ.Row b 2 [.ptr pm,.slice h])(hb:h.row≠some b)(g:Grow σ n h 5 (pfl L))(hp:σ.prot<=n)(F:∀ x∈L,Fit x)(hL:L.length<2^40){N:Nat}(hN:N<L.length)(U:Hp.DnI plt L N 0) :
  ∃ L' σ' v,Runs Qa 250 [.iface 298 (.ptr (some (b,1))),.int .i64 0,.int .i64 (N:Nat)] σ (.bool v) σ'/\Mw h σ σ'/\Grow σ' n h 5 (pfl L')/\L'.length=L.length/\(L'.take N).Perm (L.take N)/\L'.drop N=L.drop N/\Hp.Heap plt L' N:=by
 obtain⟨r,e,L',σ',i,rfl,M,G,ll,P,D,H⟩:=EvI.while (f:=fun k s=>QX Qa (gm Qa k) QS k Tryz.f250 [1,1,0,0] [7,2,1,0] s)
  (fun m s=>∃ L' σ' i,m=N-i/\s=([.int .i64 (i:Nat),.int .i64 (N:Nat),.int .i64 0,.iface 298 (.ptr (some (b,1)))],σ')/\Mw h σ σ'/\Grow σ' n h 5 (pfl L')/\L'.length=L.length/\(L'.take N).Perm (L.take N)/\L'.drop N=L.drop N/\Hp.DnI plt L' N i/\i<=N)
  (fun r=>∃ L' σ' i,r=(QD 0,[(7,.int .i64 (i:Nat)),(1,.int .i64 0)],σ')/\Mw h σ σ'/\Grow σ' n h 5 (pfl L')/\L'.length=L.length/\(L'.take N).Perm (L.take N)/\L'.drop N=L.drop N/\Hp.Heap plt L' N)
  (by
   rintro m s ⟨L',σ',i,rfl,rfl,M,G,ll,P,D,U,hi⟩
   have w1:Qb .i64 (2*(i:Int))=((2*i:Nat):Int):=by rw [Za (by omega) (by omega)]; omega
   have w2:Qb .i64 (((2*i:Nat):Int)+1)=((2*i+1:Nat):Int):=by rw [Za (by omega) (by omega)]; omega
   have w3:Qb .i64 (((2*i+1:Nat):Int)+1)=((2*i+2:Nat):Int):=by rw [Za (by omega) (by omega)]; omega
   by_cases c0:N<=2*i+1
   ·refine .inr ⟨_,Ev.of fun k=>?_,L',σ',i,rfl,M,G,ll,P,D,U.stop (fun h=>by omega) (fun h=>by omega)⟩
    simp only [Za2,w1,w2]
    rw [if_pos (by rw [decide_eq_true_eq]; omega)]
   have n0:¬ ((N:Int)<=((2*i+1:Nat):Int)):=by omega
   have n1:¬ (((2*i+1:Nat):Int)<0):=by omega
   have F':∀ k,k<N->Fit (Hp.at_ L' k):=fun k hk=>F _ (by
    have:Hp.at_ L' k∈L'.take N:=by
     rw [Hp.at_get (by omega)]
     exact List.mem_take_iff_getElem.2 ⟨k,by omega,rfl⟩
    exact Qac (P.mem_iff.1 this))
   have R1:=M.row R hb
   have l1:=ld1 R1
   have il:i<L'.length:=by omega
   have fin:∀ (j:Nat) (σ1:Store),(j=2*i+1\/j=2*i+2)->j<N->Mw h σ σ1->Grow σ1 n h 5 (pfl L')->(∀ k,k=2*i+1\/k=2*i+2->k<N->plt (Hp.at_ L' k) (Hp.at_ L' j)=false) ->
     ∃ c1 c2:Int,Runs Qa 278 [.slice h,.int .i64 j,.int .i64 i] σ1 (.bool (plt (Hp.at_ L' j) (Hp.at_ L' i))) (σ1.push [.int .i64 c1,.int .i64 c2] 1)/\σ1.ldSl (some (b,1))=some h/\(σ1.push [.int .i64 c1,.int .i64 c2] 1).ldSl (some (b,1))=some h /\
      Mw h σ (σ1.push [.int .i64 c1,.int .i64 c2] 1)/\Grow (σ1.push [.int .i64 c1,.int .i64 c2] 1) n h 5 (pfl L')/\(plt (Hp.at_ L' j) (Hp.at_ L' i)=false->Hp.Heap plt L' N) /\
      (plt (Hp.at_ L' j) (Hp.at_ L' i)=true->∃ σ2,Runs Qa 279 [.slice h,.int .i64 i,.int .i64 j] (σ1.push [.int .i64 c1,.int .i64 c2] 1) (.tuple []) σ2/\Mw h σ σ2/\Grow σ2 n h 5 (pfl (Hp.swap L' i j))/\(Hp.swap L' i j).length=L.length/\((Hp.swap L' i j).take N).Perm (L.take N)/\(Hp.swap L' i j).drop N=L.drop N/\Hp.DnI plt (Hp.swap L' i j) N j):=by
    intro j σ1 hj jn M1 G1 hb2
    have jl:j<L'.length:=by omega
    obtain⟨c1,c2,r1⟩:=Zht G1.sl (atg jl) (atg il) (F' _ jn) (F' _ (by omega))
    have M2:=M1.trans (Mw.push h σ1 [.int .i64 c1,.int .i64 c2] 1)
    have G2:=G1.kp (Kp.push [.int .i64 c1,.int .i64 c2] 1 (Qe _))
    refine⟨c1,c2,r1,ld1 (M1.row R hb),ld1 (M2.row R hb),M2,G2,fun hc=>?_,fun hc=>?_⟩
    ·refine U.stop (fun h1=>?_) (fun h2=>?_)
     ·exact Zba.tr _ _ _ (hb2 _ (.inl rfl) h1) hc
     ·exact Zba.tr _ _ _ (hb2 _ (.inr rfl) h2) hc
    ·obtain⟨σ2,r2,M3,G3⟩:=Zhu (i:=i) (j:=j) G2 (by rw [M2.prot]; exact hp) il jl
     exact⟨σ2,r2,M2.trans M3,G3,by rw [Hp.swap_length]; exact ll,(Hp.swap_take_perm (by omega) jn (by omega)).trans P,(Hp.swap_drop (by omega) jn).trans D,U.step Zba (by omega) hj jn hc hb2⟩
   by_cases c1:2*i+2<N
   ·have n2:(((2*i+2:Nat):Int)<(N:Int)):=by omega
    obtain⟨d1,d2,k1,r1⟩:=Zht G.sl (atg (i:=2*i+2) (by omega)) (atg (i:=2*i+1) (by omega)) (F' _ c1) (F' _ (by omega))
    have M1:=M.trans (Mw.push h σ' [.int .i64 d1,.int .i64 d2] 1)
    have G1:=G.kp (Kp.push [.int .i64 d1,.int .i64 d2] 1 (Qe _))
    cases hc:plt (Hp.at_ L' (2*i+2)) (Hp.at_ L' (2*i+1)) with
    | true=>
     obtain⟨e1,e2,⟨k2,r2⟩,l2,l3,M2,G2,stop,go⟩:=fin (2*i+2) _ (.inr rfl) c1 M1 G1 (fun k hk _=>by
      rcases hk with rfl | rfl
      ·exact Zba.asy _ _ hc
      ·exact Zba.irr _)
     cases hd:plt (Hp.at_ L' (2*i+2)) (Hp.at_ L' i) with
     | false=>
      refine .inr ⟨_,⟨k1+k2,fun k hk=>?_⟩,L',_,i,rfl,M2,G2,ll,P,D,stop hd⟩
      have r1:=r1 k (by omega)
      have r2:=r2 k (by omega)
      simp only at r1 r2
      simp only [Za2,w1,w2,w3]
      simp only [stp,n0,n1,n2,l1,r1,hc,l2,r2,hd]
     | true=>
      obtain⟨σ2,⟨k3,r3⟩,M3,G3,l4,P3,D3,U3⟩:=go hd
      refine .inl ⟨N-(2*i+2),_,by omega,⟨k1+k2+k3,fun k hk=>?_⟩,_,σ2,2*i+2,rfl,rfl,M3,G3,l4,P3,D3,U3,by omega⟩
      have r1:=r1 k (by omega)
      have r2:=r2 k (by omega)
      have r3:=r3 k (by omega)
      simp only at r1 r2 r3
      simp only [Za2,w1,w2,w3]
      simp only [stp,n0,n1,n2,l1,r1,hc,l2,r2,hd,l3,r3]
    | false=>
     obtain⟨e1,e2,⟨k2,r2⟩,l2,l3,M2,G2,stop,go⟩:=fin (2*i+1) _ (.inl rfl) (by omega) M1 G1 (fun k hk _=>by
      rcases hk with rfl | rfl
      ·exact Zba.irr _
      ·exact hc)
     cases hd:plt (Hp.at_ L' (2*i+1)) (Hp.at_ L' i) with
     | false=>
      refine .inr ⟨_,⟨k1+k2,fun k hk=>?_⟩,L',_,i,rfl,M2,G2,ll,P,D,stop hd⟩
      have r1:=r1 k (by omega)
      have r2:=r2 k (by omega)
      simp only at r1 r2
      simp only [Za2,w1,w2,w3]
      simp only [stp,n0,n1,n2,l1,r1,hc,l2,r2,hd]
     | true=>
      obtain⟨σ2,⟨k3,r3⟩,M3,G3,l4,P3,D3,U3⟩:=go hd
      refine .inl ⟨N-(2*i+1),_,by omega,⟨k1+k2+k3,fun k hk=>?_⟩,_,σ2,2*i+1,rfl,rfl,M3,G3,l4,P3,D3,U3,by omega⟩
      have r1:=r1 k (by omega)
      have r2:=r2 k (by omega)
      have r3:=r3 k (by omega)
      simp only at r1 r2 r3
      simp only [Za2,w1,w2,w3]
      simp only [stp,n0,n1,n2,l1,r1,hc,l2,r2,hd,l3,r3]
   ·have n2:¬ (((2*i+2:Nat):Int)<(N:Int)):=by omega
    obtain⟨e1,e2,⟨k2,r2⟩,l2,l3,M2,G2,stop,go⟩:=fin (2*i+1) _ (.inl rfl) (by omega) M G (fun k hk hkn=>by
     rcases hk with rfl | rfl
     ·exact Zba.irr _
     ·omega)
    cases hd:plt (Hp.at_ L' (2*i+1)) (Hp.at_ L' i) with
    | false=>
     refine .inr ⟨_,⟨k2,fun k hk=>?_⟩,L',_,i,rfl,M2,G2,ll,P,D,stop hd⟩
     have r2:=r2 k (by omega)
     simp only at r2
     simp only [Za2,w1,w2,w3]
     simp only [stp,n0,n1,n2,l1,r2,hd]
    | true=>
     obtain⟨σ2,⟨k3,r3⟩,M3,G3,l4,P3,D3,U3⟩:=go hd
     refine .inl ⟨N-(2*i+1),_,by omega,⟨k2+k3,fun k hk=>?_⟩,_,σ2,2*i+1,rfl,rfl,M3,G3,l4,P3,D3,U3,by omega⟩
     have r2:=r2 k (by omega)
     have r3:=r3 k (by omega)
     simp only at r2 r3
     simp only [Za2,w1,w2,w3]
     simp only [stp,n0,n1,n2,l1,r2,hd,l3,r3])
  N _ ⟨L,σ,0,rfl,rfl,Mw.refl _ _,g,rfl,List.Perm.refl _,rfl,U,QJ _⟩
 obtain⟨n1,e⟩:=Zc e
 refine⟨L',σ',decide ((0:Int)<(i:Int)),rI Tryz.f250 ⟨n1,fun k hk=>?_⟩,M,G,ll,P,D,H⟩
 have e:=e k hk
 simp only at e
 rw [show (((0:Nat)):Int)=0 from rfl] at e
 simp only [Z21]
 rw [e,Qd,Zp3]
end
end Go.Ab

namespace Go.Ab
open Go Go.Proofs Go.Ab.Wd Go.Ab.Bs Go.Ab.Sai
structure Mv (b:Nat) (h h':Hdl) (σ σ':Store):Prop where
 prot:σ'.prot=σ.prot
 len:σ.objs.length<=σ'.objs.length
 kp:∀ x,x<σ.objs.length->x≠b->h.row≠some x->σ'.objs[x]?=σ.objs[x]?
 row:h'.row=h.row\/∀ x,h'.row=some x->σ.objs.length<=x
theorem Mv.trans{b:Nat}{h h1 h2:Hdl}{σ σ1 σ2:Store}(a:Mv b h h1 σ σ1)(c:Mv b h1 h2 σ1 σ2):Mv b h h2 σ σ2:=by
 refine⟨c.prot.trans a.prot,Qat a.len c.len,fun x hx hb hr=>?_,?_⟩
 ·have:h1.row≠some x:=fun e=>by
   rcases a.row with r | r
   ·exact hr (r ▸ e)
   ·have:=r x e; omega
  exact (c.kp x (QaV hx a.len) hb this).trans (a.kp x hx hb hr)
 ·rcases c.row with r | r
  ·rcases a.row with q | q
   ·exact .inl (r.trans q)
   ·exact .inr fun x hx=>q x (r ▸ hx)
  ·exact .inr fun x hx=>Qat a.len (r x hx)
theorem Mw.mv{b:Nat}{h:Hdl}{σ σ':Store}(m:Mw h σ σ'):Mv b h h σ σ':=⟨m.prot,m.len,fun x hx _ hr=>m.kp x hx hr,.inl rfl⟩
theorem Mv.kpl{b:Nat}{h:Hdl}{σ σ':Store}(k:Kp σ.objs.length σ σ'):Mv b h h σ σ':=(Mw.kpl k).mv
structure Srch (σ:Store) (n b:Nat) (pm:Ptr) (h:Hdl) (L:List Pt):Prop where
 nb:n<=b
 R:σ.Row b 2 [.ptr pm,.slice h]
 hb:h.row≠some b
 g:Grow σ n h 5 (pfl L)
theorem Srch.kp{σ σ':Store}{n b:Nat}{pm:Ptr}{h:Hdl}{L:List Pt}(s:Srch σ n b pm h L)(k:Kp σ.objs.length σ σ'):Srch σ' n b pm h L:=⟨s.nb,s.R.kp k s.R.lt,s.hb,s.g.kp k⟩
theorem Srch.mw{σ σ':Store}{n b:Nat}{pm:Ptr}{h:Hdl}{L L':List Pt}(s:Srch σ n b pm h L)(m:Mw h σ σ')(g:Grow σ' n h 5 (pfl L')):Srch σ' n b pm h L':=⟨s.nb,m.row s.R s.hb,s.hb,g⟩
theorem Srch.kpn{σ σ':Store}{n b:Nat}{pm:Ptr}{h h':Hdl}{L:List Pt}(s:Srch σ n b pm h L)(m:Mv b h h' σ σ'):Kp n σ σ':=by
 refine⟨m.prot,m.len,fun x hx=>?_⟩
 have hn:=s.nb
 have hl:=s.R.lt
 refine m.kp x (by omega) (by omega) fun e=>?_
 have:=(s.g.row x e).1; omega
section
variable {σ:Store} {h:Hdl} {L:List Pt} {n b:Nat} {pm:Ptr}
theorem st1(R:σ.Row b 2 [.ptr pm,.slice h])(hp:σ.prot<=b)(h':Hdl):σ.stL (some (b,1)) [.slice h'] 0=some (σ.setO b (.cells [.ptr pm,.slice h'] true 2)):=by
 have:=Zw R hp (o:=1) (by simp) (v:=.slice h') rfl
 simpa [Q8] using this
theorem Zna{es:Nat}{K:List (List AV)}(g:Grow σ n h es K.flatten)(u:Uni es K)(he:0<es){m:Nat}(hm:m<=K.length) :
  ∃ h',σ.sub h es none (some (m:Int)) none=some h'/\Grow σ n h' es (K.take m).flatten/\h'.row=h.row:=by
 have s:=g.sl
 have hl:=Zfn s u he
 have hes:σ.esOk h es=true:=by
  unfold Store.esOk
  cases ha:h.a with
  | none=>rfl
  | some bo=>
   obtain⟨b,o⟩:=bo
   rcases s.row with h1 | ⟨b',o',cs,rw,k1,k2,_⟩
   ·simp [h1]
   ·rw [ha] at k1; injection k1 with k1; injection k1 with k1 k1'; subst k1 k1'
    simp only [k2]
    cases Qb6 h.len 0 <;> simp
 have ut:Uni es (K.take m):=fun x hx=>u x (Qac hx)
 have ft:(K.take m).flatten=K.flatten.take (m*es):=by
  have e:K.flatten=(K.take m).flatten++(K.drop m).flatten:=by rw [<-List.flatten_append,Qv]
  have hm':(K.take m).flatten.length=m*es:=by rw [Zt ut,Qk,Qq hm]
  exact (by rw [e,<-hm']; exact QaN.symm:(K.take m).flatten=K.flatten.take (m*es))
 have mle:m*es<=K.length*es:=Qab _ hm
 have fl:=Zt u
 refine⟨⟨h.a.map fun x=>(x.1,x.2+0*es),m-0,h.cap.map (·-0)⟩,?_,⟨⟨?_,?_⟩,⟨fun b o e=>?_,fun e=>?_⟩⟩,?_⟩
 ·unfold Qb7
  rw [if_pos ⟨⟨hes,by simp,by simp⟩,⟨by simp,by simp; omega⟩,by simp,by simp⟩]
  simp
 ·rw [Zt ut,Qk,Qq hm]; simp
 ·by_cases c:m=0
  ·exact .inl (by simp [c])
  ·rcases s.row with k0 | ⟨b,o,cs,rw,k1,k2,k3,k4⟩
   ·omega
   ·refine .inr ⟨b,o,cs,rw,by simp [k1],k2,?_,?_⟩
    ·rw [Zt ut,Qk,Qq hm]; omega
    ·rw [Zt ut,Qk,Qq hm,ft,<-k4,QaM,fl,Qq mle]
 ·cases ha:h.a with
  | none=>simp [ha] at e
  | some bo=>
   obtain⟨b',o'⟩:=bo
   rw [ha] at e
   simp only [Q6,Qbm.injEq,Prod.mk.injEq,Qba,Qak] at e
   obtain⟨rfl,rfl⟩:=e
   obtain⟨h1,cs,h2,h3,h4⟩:=g.own.own b' o' ha
   refine⟨h1,cs,h2,?_,fun c hc=>?_⟩
   ·rw [hl] at h3; simp only [Qbc]; omega
   ·cases hq:h.cap with
    | none=>rw [hq] at hc; cases hc
    | some q=>rw [hq] at hc; simp at hc; subst hc; exact h4 q hq
 ·cases ha:h.a with
  | none=>have:=g.own.nil ha; simp only [Qbc]; omega
  | some bo=>simp [ha] at e
 ·cases ha:h.a with
  | none=>simp [Hdl.row,ha]
  | some bo=>simp [Hdl.row,ha]
theorem Z0i(S:Srch σ n b pm h L)(hp:σ.prot<=n){x:Pt}{K:List Pt}(hL:L=K++[x])(hs:L.length<2^40) :
  ∃ h' σ',Runs Qa 280 [.ptr (some (b,1))] σ (.iface 267 (.agg (pcs x))) σ'/\Mv b h h' σ σ'/\Srch σ' n b pm h' K:=by
 have hl:=Zie S.g.sl
 have ll:L.length=K.length+1:=by rw [hL]; simp
 have hnb:=S.nb
 have hbl:=S.R.lt
 have hi:L[K.length]?=some x:=by rw [hL]; simp
 have u:=Zcv L
 have sl:=S.g.sl
 have w1:Qb .i64 ((h.len:Int)-1)=((K.length:Nat):Int):=by rw [Za (by omega) (by omega)]; omega
 have j0:=Zl sl u (Zaq hi) (f:=0) (by omega) rfl
 have j1:=Zl sl u (Zaq hi) (f:=1) (by omega) rfl
 have j2:=Zl sl u (Zaq hi) (f:=2) (by omega) rfl
 have j3:=Zl sl u (Zaq hi) (f:=3) (by omega) rfl
 have j4:=Zl sl u (Zaq hi) (f:=4) (by omega) rfl
 have l1:=ld1 S.R
 have r0:(σ.push [.int .i64 0,.int .i64 0,.int .i64 0,.int .i64 0,.int .i64 0] 5).Row σ.objs.length 5 [.int .i64 0,.int .i64 0,.int .i64 0,.int .i64 0,.int .i64 0]:=Store.Row.new
 have st:=Zfp (pcs x) (o:=0) (i:=0) r0 (by show σ.prot<=_; omega) (by simp [pcs]) (fun z hz=>by simp [pcs] at hz; rcases hz with rfl | rfl | rfl | rfl | rfl <;> rfl)
 rw [if_neg (by simp [pcs])] at st
 obtain⟨σ1,h1⟩:∃ σ1,σ1=(σ.push [.int .i64 0,.int .i64 0,.int .i64 0,.int .i64 0,.int .i64 0] 5).setO σ.objs.length (.cells (pcs x) true 5):=⟨_,rfl⟩
 have st1':(σ.push [.int .i64 0,.int .i64 0,.int .i64 0,.int .i64 0,.int .i64 0] 5).stL (some (σ.objs.length,0)) (pcs x) 0=some σ1:=by
  rw [st,h1]; simp [pcs]
 have k1:Kp σ.objs.length σ σ1:=by rw [h1]; exact (Kp.push _ _ (Qe _)).setO (Qe _)
 have R1:σ1.Row σ.objs.length 5 (pcs x):=by rw [h1]; exact Store.Row.setO_eq (by simp)
 have S1:=S.kp k1
 have l2:=ld1 S1.R
 obtain⟨h',eh,G',hr⟩:=Zna S1.g (Zcv L) (by omega) (m:=K.length) (by simp; omega)
 have hk:(L.map pcs).take K.length=K.map pcs:=by rw [hL]; simp
 rw [hk] at G'
 have e3:=st1 S1.R (by rw [k1.prot]; omega) h'
 obtain⟨σ2,h2⟩:∃ σ2,σ2=σ1.setO b (.cells [.ptr pm,.slice h'] true 2):=⟨_,rfl⟩
 rw [<-h2] at e3
 have R2:σ2.Row σ.objs.length 5 (pcs x):=by rw [h2]; exact R1.setO_ne (by omega)
 have f0:=Zd R2 (o:=0) rfl
 have f1:=Zd R2 (o:=1) rfl
 have f2:=Zd R2 (o:=2) rfl
 have f3:=Zd R2 (o:=3) rfl
 have f4:=Zd R2 (o:=4) rfl
 have nb2:h'.row≠some b:=by rw [hr]; exact S.hb
 refine⟨h',σ2,rI Tryz.f280 (Ev.of fun k=>?_),⟨by rw [h2]; exact k1.prot,by rw [h2]; simpa using k1.len,fun x hx hxb _=>?_,.inl hr⟩,⟨hnb,?_,nb2,?_⟩⟩
 ·have c1:(0:Int)<=(K.length:Nat)/\((K.length:Nat):Int)<h.len:=by omega
  unfold pcs at st1'
  simp only [Z25]
  simp only [Qd,l1,w1,if_pos c1,j0,j1,j2,j3,j4,st1',l2,eh,e3,f0,f1,f2,f3,f4]
  rfl
 ·rw [h2]; show (σ1.objs.set b _)[x]?=_
  rw [Qm,if_neg (Ne.symm hxb)]; exact k1.keep x hx
 ·rw [h2]; exact Store.Row.setO_eq S1.R.lt
 ·rw [h2]; refine G'.keepX fun c hc=>?_
  show (σ1.objs.set b _)[c]?=_
  rw [Qm,if_neg (show ¬ b=c from fun e=>nb2 (e ▸ hc))]
theorem Zya(S:Srch σ n b pm h L)(hp:σ.prot<=n)(x:Pt)(hs:L.length<2^40) :
  ∃ h' σ',Runs Qa 281 [.ptr (some (b,1)),.iface 267 (.agg (pcs x))] σ (.tuple []) σ'/\Mv b h h' σ σ'/\Srch σ' n b pm h' (L++[x]):=by
 have hnb:=S.nb
 have hbl:=S.R.lt
 have l1:=ld1 S.R
 have rd:=Z57 σ (pcs x) (some 1) 5 rfl
 obtain⟨h',σ1,ea,k1,G1,fr,hr⟩:=Zxa S.g (Zcv L) hp (by omega) (v:=pcs x) rfl (by omega) rfl (bs:=40) (by omega) (by simp; omega)
 have lt1:σ.objs.length<=σ1.objs.length:=k1.len
 have Rb:σ1.Row b 2 [.ptr pm,.slice h]:=(fr b hbl S.hb).trans S.R
 have nb2:h'.row≠some b:=fun e=>by
  rcases hr with r | r
  ·exact S.hb (r ▸ e)
  ·have:=r b e; omega
 have e3:=st1 Rb (by rw [k1.prot]; omega) h'
 have G1':Grow σ1 n h' 5 (pfl (L++[x])):=by unfold pfl; rw [Qs]; exact G1
 refine⟨h',σ1.setO b (.cells [.ptr pm,.slice h'] true 2),rI Tryz.f281 (Ev.of fun k=>?_),⟨k1.prot,by simpa using lt1,fun x hx hxb hxr=>?_,hr⟩,⟨hnb,Store.Row.setO_eq Rb.lt,nb2,G1'.keepX fun c hc=>?_⟩⟩
 ·unfold pcs at rd ea ⊢
  simp only [Z26]
  simp only [Qd,l1,AV.cells,QA,Qh,QW,QV,if_false,Qe,and_self,if_true,rd,ea,e3]
 ·show (σ1.objs.set b _)[x]?=_
  rw [Qm,if_neg (Ne.symm hxb)]; exact fr x hx hxr
 ·show (σ1.objs.set b _)[c]?=_
  rw [Qm,if_neg (show ¬ b=c from fun e=>nb2 (e ▸ hc))]
theorem Zxc(S:Srch σ n b pm h L)(hp:σ.prot<=n)(F:∀ x∈L,Fit x)(hs:L.length+1<2^40)(H:Hp.Heap plt L L.length){x:Pt}(fx:Fit x) :
  ∃ h' σ' L',Runs Qa 226 [.iface 298 (.ptr (some (b,1))),.iface 267 (.agg (pcs x))] σ (.tuple []) σ'/\Mv b h h' σ σ'/\Srch σ' n b pm h' L'/\L'.Perm (L++[x])/\Hp.Heap plt L' L'.length:=by
 obtain⟨h1,σ1,⟨n1,r1⟩,m1,S1⟩:=Zya S hp x (by omega)
 have l1:=ld1 S1.R
 obtain⟨n2,r2⟩:=Zq7 S1.g.sl
 have F1:∀ y∈L++[x],Fit y:=fun y hy=>by
  rcases Qw.1 hy with hy | hy
  ·exact F y hy
  ·rw [QK] at hy; subst hy; exact fx
 obtain⟨L',σ2,⟨n3,r3⟩,m2,G2,P,H2⟩:=Z5w S1.R S1.hb S1.g (by rw [m1.prot]; exact hp) F1 (by simp; omega) (j:=L.length) (by rw [Qc]; exact Hp.Heap.upI H) (by simp)
 refine⟨h1,σ2,L',rI Tryz.f226 ⟨n1+n2+n3,fun k hk=>?_⟩,m1.trans m2.mv,S1.mw m2 G2,P,H2⟩
 have r1:=r1 k (by omega)
 have r2:=r2 k (by omega)
 have r3:=r3 k (by omega)
 have w1:Qb .i64 (((L++[x]).length:Int)-1)=((L.length:Nat):Int):=by
  rw [Qc,Qr,Za (by omega) (by omega)]; omega
 simp only at r1 r2 r3
 unfold pcs at r1 ⊢
 simp only [Z2u]
 simp only [Qd,r1,l1,r2,Qai,if_true,w1,r3]
theorem Zzz(S:Srch σ n b pm h L)(hp:σ.prot<=n)(F:∀ x∈L,Fit x)(hs:L.length<2^40)(H:Hp.Heap plt L L.length)(h0:0<L.length) :
  ∃ x h' σ' L',Runs Qa 227 [.iface 298 (.ptr (some (b,1)))] σ (.iface 267 (.agg (pcs x))) σ'/\Mv b h h' σ σ'/\Srch σ' n b pm h' L'/\L.Perm (x::L')/\Hp.Heap plt L' L'.length/\∀ y∈L',plt y x=false:=by
 have l1:=ld1 S.R
 obtain⟨n1,r1⟩:=Zq7 S.g.sl
 obtain⟨N,hN⟩:∃ N,N=L.length-1:=⟨_,rfl⟩
 have w1:Qb .i64 ((L.length:Int)-1)=((N:Nat):Int):=by rw [Za (by omega) (by omega)]; omega
 obtain⟨σ1,⟨n2,r2⟩,m1,G1⟩:=Zhu (i:=0) (j:=N) S.g hp h0 (by omega)
 have S1:=S.mw m1 G1
 have P1:=Hp.swap_perm (l:=L) (i:=0) (j:=N) h0 (by omega)
 have D1:=Hp.Heap.dnI Zba H h0
 rw [<-hN] at D1
 obtain⟨L2,σ2,v,⟨n3,r3⟩,m2,G2,ll,P2,D2,H2⟩:=Zwq (N:=N) S1.R S1.hb S1.g (by rw [m1.prot]; exact hp) (Z4z P1 F) (by rw [Hp.swap_length]; exact hs) (by rw [Hp.swap_length]; omega) D1
 rw [Hp.swap_length] at ll
 have S2:=S1.mw m2 G2
 have dr:L2.drop N=[Hp.at_ L 0]:=by
  rw [D2]
  have hlen:N<(Hp.swap L 0 N).length:=by rw [Hp.swap_length]; omega
  rw [Qah hlen,QaC (by rw [Hp.swap_length]; omega)]
  congr 1
  rw [<-Hp.at_get hlen,Hp.at_swap h0 (by omega) (by omega),if_pos rfl]
 have eL:L2=L2.take N++[Hp.at_ L 0]:=by rw [<-dr,Qv]
 obtain⟨h3,σ3,⟨n4,r4⟩,m3,S3⟩:=Z0i S2 (by rw [m2.prot,m1.prot]; exact hp) eL (by omega)
 have lt:(L2.take N).length=N:=by rw [Qk]; omega
 have P3:L2.Perm L:=by
  have a:((Hp.swap L 0 N).take N++(Hp.swap L 0 N).drop N).Perm L:=by rw [Qv]; exact P1
  have c:L2.Perm ((Hp.swap L 0 N).take N++(Hp.swap L 0 N).drop N):=by
   rw [<-D2]
   conv=>lhs; rw [<-Qv N L2]
   exact P2.append_right _
  exact c.trans a
 refine⟨Hp.at_ L 0,h3,σ3,L2.take N,rI Tryz.f227 ⟨n1+n2+n3+n4,fun k hk=>?_⟩,(m1.mv.trans m2.mv).trans m3,S3,?_,?_,fun y hy=>?_⟩
 ·have r1:=r1 k (by omega)
  have r2:=r2 k (by omega)
  have r3:=r3 k (by omega)
  have r4:=r4 k (by omega)
  simp only at r1 r2 r3 r4
  rw [show ((0:Nat):Int)=0 from rfl] at r2
  simp only [Z2v]
  simp only [Qd,l1,r1,Qai,if_true,w1,r2,r3,AV.asBool,r4,AV.asIfc]
 ·refine P3.symm.trans ?_
  conv=>lhs; rw [eL]
  exact List.perm_append_comm
 ·rw [lt]
  intro i i0 i1
  have a1:∀ i,i<N->Hp.at_ (L2.take N) i=Hp.at_ L2 i:=fun i hi=>by
   rw [Hp.at_get (by omega),Hp.at_get (by omega),QZ]
  rw [a1 i i1,a1 _ (by omega)]
  exact H2 i i0 i1
 ·have hyL:y∈L:=P3.mem_iff.1 (Qac hy)
  obtain⟨i,hi,rfl⟩:=List.mem_iff_getElem.1 hyL
  rw [<-Hp.at_get hi]
  exact H.first Zba i hi
end
end Go.Ab

namespace Go.Ab
open Go Go.Proofs Go.Ab.Wd Go.Ab.Bs Go.Ab.Sai
def nsum(s:List Int)(S:List (Nat×Nat)):Nat:=(S.map (nOf s)).sum
def qsum(s:List Int)(S:List (Nat×Nat)):Nat:=(S.map fun p=>nOf s p*p.1).sum
theorem Zgd{α:Type}(f:α->Nat){a b:List α}(p:a.Perm b):(a.map f).sum=(b.map f).sum:=(p.map f).sum_nat
theorem Zqx(s:List Int)(p:Nat×Nat):nsum s (kid s p)=nOf s p:=by
 unfold nsum kid; split
 ·simp
 ·simp; omega
theorem Zrc(s:List Int)(p:Nat×Nat):qsum s (kid s p)=nOf s p*p.1:=by
 unfold qsum kid; split
 ·simp
 ·rename_i h; rw [show nOf s p=0 by omega]; simp
theorem Znn(s:List Int)(k c:Nat):nOf s (k+1,c)=nOf s (k,2*c)+nOf s (k,2*c+1):=by
 unfold nOf
 simp only
 have h:∀ x:Int,pre (k+1) c x=(pre k (2*c) x || pre k (2*c+1) x)/\¬ (pre k (2*c) x=true/\pre k (2*c+1) x=true):=fun x=>by
  have e1:2^(k+1)=2^k+2^k:=by rw [QaD]; omega
  have e2:c*(2^k+2^k)=2*c*2^k:=by generalize 2^k=m; rw [Qb2,Qbu,Nat.two_mul]
  have e3:(2*c+1)*2^k=2*c*2^k+2^k:=by rw [QI,Qbl]
  refine⟨?_,fun ⟨h1,h2⟩=>?_⟩
  ·rw [Q2,QaF,Zdv,Zdv,Zdv,e1,e2,e3]
   generalize 2*c*2^k=u
   generalize 2^k=v
   omega
  ·rw [Zdv] at h1 h2
   rw [e3] at h2
   omega
 induction s with
 | nil=>rfl
 | cons x s ih=>
  have hx:=h x
  simp only [Qa4]
  cases h1:pre k (2*c) x <;> cases h2:pre k (2*c+1) x <;> rw [h1,h2] at hx <;> simp at hx <;> simp [hx,ih] <;> omega
theorem Zqw(s:List Int)(a b:List (Nat×Nat)):nsum s (a++b)=nsum s a+nsum s b:=by simp [nsum]
theorem Zrb(s:List Int)(a b:List (Nat×Nat)):qsum s (a++b)=qsum s a+qsum s b:=by simp [qsum]
theorem Zev(s:List Int)(p:Nat×Nat)(b:List (Nat×Nat)):nsum s (p::b)=nOf s p+nsum s b:=by simp [nsum]
theorem Zhv(s:List Int)(p:Nat×Nat)(b:List (Nat×Nat)):qsum s (p::b)=nOf s p*p.1+qsum s b:=by simp [qsum]
theorem Zvj(s:List Int)(S:List (Nat×Nat))(k c:Nat):nsum s (S++kid s (k,2*c)++kid s (k,2*c+1))=nsum s ((k+1,c)::S):=by
 rw [Zqw,Zqw,Zqx,Zqx,Zev,Znn]; omega
theorem Zvu(s:List Int)(S:List (Nat×Nat))(k c:Nat):qsum s (S++kid s (k,2*c)++kid s (k,2*c+1))+nOf s (k+1,c)=qsum s ((k+1,c)::S):=by
 rw [Zrb,Zrb,Zrc,Zrc,Zhv,Znn]
 simp only
 generalize nOf s (k,2*c)=u
 generalize nOf s (k,2*c+1)=v
 rw [Qb2,QI,Nat.mul_one]
 omega
theorem Zqy{s:List Int}:∀ {S:List (Nat×Nat)},(∀ p∈S,0<nOf s p)->S.length<=nsum s S
 | [],_=>by simp
 | p::S,h=>by
  rw [Zev,Qh]
  have:=Zqy (S:=S) fun q hq=>h q (by simp [hq])
  have:=h p (by simp)
  omega
def abx(w:Nat)(x:Pt):Nat×Nat:=(w-x.1,x.2.1)
structure Okp (w:Nat) (l s:List Int) (x:Pt):Prop where
 lv:x.1<=w
 c:x.2.1<2^x.1
 e:x.2.2.1=loOf (abx w x)
 b:x.2.2.2.2=x.2.2.2.1+nOf s (abx w x)
 p:Part (Bs.rowAt w l (w-x.1)) x.2.2.2.1 (s.filter (pre (w-x.1) x.2.1))
theorem Okp.fit{w:Nat}{l s:List Int}{x:Pt}(h:Okp w l s x)(hw:w<=24)(hl:l.length<=4194304):Fit x:=by
 have h1:=h.lv
 have h2:=h.c
 have h3:=h.b
 have h4:=h.p.le
 rw [Zcl] at h4
 have p1:2^x.1<=2^24:=Qad (by omega) (by omega)
 have p2:x.2.2.1<2^40:=by
  rw [h.e]; unfold loOf abx
  simp only
  have:(x.2.1+1)*2^(w-x.1)<=2^x.1*2^(w-x.1):=Qab _ h2
  rw [<-Nat.pow_add,show x.1+(w-x.1)=w by omega] at this
  have q:2^w<=2^24:=Qad (by omega) hw
  have q2:0<2^(w-x.1):=Nat.two_pow_pos _
  rw [QI] at this
  omega
 have e:nOf s (abx w x)=(s.filter (pre (w-x.1) x.2.1)).length:=rfl
 exact⟨by omega,by omega,p2,by omega,by omega⟩
theorem Z3m{w:Nat}{l s:List Int}{x y:Pt}(hx:Okp w l s x)(hy:Okp w l s y):plt x y=nlt s (abx w x) (abx w y):=by
 have h1:=hx.b
 have h2:=hy.b
 have h3:=hx.e
 have h4:=hy.e
 rw [Q2,Zid,Zto]
 unfold pn
 omega
section
variable {σ:Store} {h:Hdl} {L:List Pt} {n b:Nat} {pm:Ptr}
theorem Zyc(R:σ.Row b 2 [.ptr pm,.slice h]){i1 i2 i3 i4 i5:Int}(hc:¬ i4<i5) :
  Runs Qa 188 [.ptr (some (b,0)),.agg [.int .i64 i1,.int .i64 i2,.int .i64 i3,.int .i64 i4,.int .i64 i5]] σ (.tuple []) (σ.push [.int .i64 i1,.int .i64 i2,.int .i64 i3,.int .i64 i4,.int .i64 i5] 5):=by
 have r0:(σ.push [.int .i64 i1,.int .i64 i2,.int .i64 i3,.int .i64 i4,.int .i64 i5] 5).Row σ.objs.length 5 [.int .i64 i1,.int .i64 i2,.int .i64 i3,.int .i64 i4,.int .i64 i5]:=Store.Row.new
 have f3:=Zd r0 (o:=3) rfl
 have f4:=Zd r0 (o:=4) rfl
 refine rI Tryz.f188 (Ev.of fun k=>?_)
 simp only [Ztb]
 simp only [Qd,f3,f4,decide_eq_true_eq,if_neg hc]
theorem Zt1(S:Srch σ n b pm h L)(hp:σ.prot<=n)(F:∀ x∈L,Fit x)(hs:L.length+1<2^40)(H:Hp.Heap plt L L.length){x:Pt}(fx:Fit x)(hx:x.2.2.2.1<x.2.2.2.2) :
  ∃ h' σ' L',Runs Qa 188 [.ptr (some (b,0)),.agg (pcs x)] σ (.tuple []) σ'/\Mv b h h' σ σ'/\Srch σ' n b pm h' L'/\L'.Perm (L++[x])/\Hp.Heap plt L' L'.length:=by
 have r0:(σ.push (pcs x) 5).Row σ.objs.length 5 (pcs x):=Store.Row.new
 have f0:=Zd r0 (o:=0) rfl
 have f1:=Zd r0 (o:=1) rfl
 have f2:=Zd r0 (o:=2) rfl
 have f3:=Zd r0 (o:=3) rfl
 have f4:=Zd r0 (o:=4) rfl
 have K:=Kp.push (pcs x) 5 (σ:=σ) (Qe _)
 obtain⟨h',σ',L',⟨n1,r1⟩,m,S',P,H'⟩:=Zxc (S.kp K) (by simpa using hp) F hs H fx
 refine⟨h',σ',L',rI Tryz.f188 ⟨n1,fun k hk=>?_⟩,(Mv.kpl K).trans m,S',P,H'⟩
 have r1:=r1 k hk
 simp only at r1
 unfold pcs at r1 f0 f1 f2 f3 f4 ⊢
 have hx':(x.2.2.2.1:Int)<x.2.2.2.2:=by omega
 have pa:Q8 (some (b,0)) 1=some (b,1):=by simp [Q8]
 simp only [Ztb]
 simp only [Qd,f0,f1,f2,f3,f4,decide_eq_true_eq,if_pos hx',pa,r1]
theorem Zt0(S:Srch σ n b pm h L)(hp:σ.prot<=n)(F:∀ x∈L,Fit x)(hs:L.length+1<2^40)(H:Hp.Heap plt L L.length){x:Pt}(fx:Fit x) :
  ∃ h' σ' L',Runs Qa 188 [.ptr (some (b,0)),.agg (pcs x)] σ (.tuple []) σ'/\Mv b h h' σ σ'/\Srch σ' n b pm h' L'/\L'.Perm (L++if 0<pn x then [x] else [])/\Hp.Heap plt L' L'.length:=by
 by_cases c:x.2.2.2.1<x.2.2.2.2
 ·rw [if_pos (by unfold pn; omega)]
  exact Zt1 S hp F hs H fx c
 ·rw [if_neg (by unfold pn; omega),QF]
  have K:=Kp.push (pcs x) 5 (σ:=σ) (Qe _)
  exact⟨h,_,L,Zyc S.R (by omega),Mv.kpl K,S.kp K,List.Perm.refl _,H⟩
end
structure Sst (σ:Store) (n b:Nat) (pm:Ptr) (h:Hdl) (l s:List Int) (w:Nat) (O:List (Int×Int)) (q:Nat):Prop where
 ex:∃ L,Srch σ n b pm h L/\Hp.Heap plt L L.length/\(∀ x∈L,Okp w l s x)/\SI s (2^w) O (L.map (abx w))/\((nsum s (L.map (abx w)):Nat):Int)+sum2 O=s.length/\qsum s (L.map (abx w))=q
theorem SI.opos{s:List Int}{M:Nat}{O:List (Int×Int)}{S:List (Nat×Nat)}(h:SI s M O S):∀ o∈O,0<o.2:=fun o ho=>by
 have:o∈dis s 0 M:=h.perm.mem_iff.1 (QaJ _ ho)
 obtain⟨v,_,_,rfl,hv⟩:=Zik this
 simpa using hv
theorem Zt8{O:List (Int×Int)}(h:∀ o∈O,0<o.2):(O.length:Int)<=sum2 O:=by
 induction O with
 | nil=>simp [sum2]
 | cons o O ih=>
  have:=ih fun x hx=>h x (by simp [hx])
  have:=h o (by simp)
  simp only [sum2,QC,Qa1,Qh] at *
  omega
theorem Sst.kp{σ σ':Store}{n b:Nat}{pm:Ptr}{h:Hdl}{l s:List Int}{w q:Nat}{O:List (Int×Int)}(S:Sst σ n b pm h l s w O q)(k:Kp σ.objs.length σ σ'):Sst σ' n b pm h l s w O q:=by
 obtain⟨L,a,c⟩:=S.ex
 exact⟨L,a.kp k,c⟩
end Go.Ab

namespace Go.Ab
open Go Go.Proofs Go.Ab.Wd Go.Ab.Bs Go.Ab.Sai
theorem Z0m{σ:Store}{b es o:Nat}{l:List AV}{x:Ptr}(r:σ.Row b es l)(h:l[o]?=some (.ptr x)):σ.ldPtr (Q8 (some (b,0)) o)=some x:=by
 have:=r.cell (0+o)
 simp only [Q3] at this
 simp only [Qb3,Q8,Q6,Q3,this,h]
theorem Z5n{k:Nat}(hk:k<=24):shlI .i64 1 (k:Int)=((2^k:Nat):Int):=by
 have:∀ k:Fin 25,shlI .i64 1 ((k.val:Nat):Int)=((2^k.val:Nat):Int):=by decide +kernel
 exact this ⟨k,by omega⟩
theorem st2{σ:Store}{r:Nat}{x y:AV}(R:σ.Row r 2 [x,y])(hp:σ.prot<=r)(u v:Int):σ.stL (some (r,0)) [.int .i64 u,.int .i64 v] 0=some (σ.setO r (.cells [.int .i64 u,.int .i64 v] true 2)):=by
 have:=Zfp [.int .i64 u,.int .i64 v] (o:=0) (i:=0) R hp (by simp) (fun z hz=>by simp at hz; rcases hz with rfl | rfl <;> rfl)
 rw [if_neg (by simp)] at this
 simpa using this
theorem Z6a{σ:Store}(x:Pt)(hp:σ.prot<=σ.objs.length):∃ σ',Qbi (σ.push [.int .i64 0,.int .i64 0,.int .i64 0,.int .i64 0,.int .i64 0] 5) (some (σ.objs.length,0)) (pcs x) 0=some σ'/\Kp σ.objs.length σ σ'/\σ'.Row σ.objs.length 5 (pcs x):=by
 have r0:(σ.push [.int .i64 0,.int .i64 0,.int .i64 0,.int .i64 0,.int .i64 0] 5).Row σ.objs.length 5 [.int .i64 0,.int .i64 0,.int .i64 0,.int .i64 0,.int .i64 0]:=Store.Row.new
 have st:=Zfp (pcs x) (o:=0) (i:=0) r0 (by show σ.prot<=_; omega) (by simp [pcs]) (fun z hz=>by simp [pcs] at hz; rcases hz with rfl | rfl | rfl | rfl | rfl <;> rfl)
 rw [if_neg (by simp [pcs])] at st
 refine⟨(σ.push [.int .i64 0,.int .i64 0,.int .i64 0,.int .i64 0,.int .i64 0] 5).setO σ.objs.length (.cells (pcs x) true 5),?_,(Kp.push _ _ (Qe _)).setO (Qe _),Store.Row.setO_eq (by simp)⟩
 rw [st]; simp [pcs]
theorem Mv.setO{b:Nat}{h h':Hdl}{σ σ':Store}(m:Mv b h h' σ σ'){r:Nat}(hr:σ.objs.length<=r){o:AObj}:Mv b h h' σ (σ'.setO r o):=
 ⟨m.prot,by simpa using m.len,fun x hx hb hh=>by
  show (σ'.objs.set r o)[x]?=_
  rw [Qm,if_neg (by omega)]; exact m.kp x hx hb hh,m.row⟩
theorem Mv.rowk{b es:Nat}{h h':Hdl}{σ σ':Store}(m:Mv b h h' σ σ'){r:Nat}{l:List AV}(R:σ.Row r es l)(h1:r≠b)(h2:h.row≠some r):σ'.Row r es l:=(m.kp r R.lt h1 h2).trans R
theorem Srch.setO{σ:Store}{n b:Nat}{pm:Ptr}{h:Hdl}{L:List Pt}(s:Srch σ n b pm h L){r:Nat}(h1:r≠b)(h2:h.row≠some r){o:AObj}:Srch (σ.setO r o) n b pm h L:=
 ⟨s.nb,s.R.setO_ne h1,s.hb,s.g.keepX fun c hc=>by
  show (σ.objs.set r o)[c]?=_
  rw [Qm,if_neg (show ¬ r=c from fun e=>h2 (e ▸ hc))]⟩
theorem Vec.keepQ{σ σ':Store}{p:Ptr}{B:List Bool}(v:Vec σ p B)(k:∀ x:Nat,x<σ.objs.length->σ'.objs[x]?=σ.objs[x]?):Vec σ' p B:=v.keep k
theorem Zxq{σ0:Store}{p:Ptr}{l:List Int}{w:Nat}(M:Mat σ0 p l w):∃ ps:List Ptr,ps.length=w/\(∀ j,j<w->∃ q,ps[j]?=some q/\Vec σ0 q (lev w l j)) /\
  ∀ σ,Kp σ0.objs.length σ0 σ->σ.prot<=σ.objs.length->∃ ho σ',Runs Qa 55 [.ptr p] σ (.slice ho) σ'/\Kp σ.objs.length σ σ'/\Grow σ' σ.objs.length ho 1 (ptrsL ps):=by
 obtain⟨b,hl,ps,rfl,R,S,lp,V⟩:=M.ex
 refine⟨ps,lp,V,fun σ K hp=>?_⟩
 have e2:=Zg (R.kp K R.lt) (o:=2) rfl
 obtain⟨ho,σ',⟨k1,r1⟩,K',G⟩:=Zuk (Store.Sl.kp S K) hp (by have:=M.wid; omega)
 refine⟨ho,σ',rI Tryz.f55 ⟨k1,fun k hk=>?_⟩,K',G⟩
 have r1:=r1 k hk
 simp only at r1
 simp only [Z4l]
 simp only [stp,Qn,e2,r1]
theorem Z5s:szOf Qa 267=some 5:=by kernel_rfl
section
variable {σ0 σ:Store} {h:Hdl} {n b w q:Nat} {pm:Ptr} {l s:List Int} {O:List (Int×Int)}
theorem Z02(M:Mat σ0 pm l w)(hn:σ0.objs.length=n)(K0:Kp n σ0 σ)(S:Sst σ n b pm h l s w O q)(hp:σ.prot<=n)(hs:s.length<=4194304)(s0:∀ x∈s,0<=x) :
  ∃ h' σ',Mv b h h' σ σ' /\
   ((sum2 O=s.length/\O=rk (dis s 0 (2^w))/\Sst σ' n b pm h' l s w O q/\Runs Qa 190 [.ptr (some (b,0))] σ (.tuple [.agg [.int .i64 0,.int .i64 0],.bool false,.bool false]) σ') \/
   (∃ c m:Int,Sst σ' n b pm h' l s w (O++[(c,m)]) q/\Runs Qa 190 [.ptr (some (b,0))] σ (.tuple [.agg [.int .i64 c,.int .i64 m],.bool true,.bool true]) σ') \/
   (∃ q',q'<q/\Sst σ' n b pm h' l s w O q'/\Runs Qa 190 [.ptr (some (b,0))] σ (.tuple [.agg [.int .i64 0,.int .i64 0],.bool false,.bool true]) σ')):=by
 obtain⟨L,S0,H,OK,si,tot,hq⟩:=S.ex
 have wd:=M.wid
 have sm:=M.small
 have hnb:=S0.nb
 have hbl:=S0.R.lt
 have F:∀ x∈L,Fit x:=fun x hx=>(OK x hx).fit wd.2 sm
 have opos:=Zt8 si.opos
 have ls:L.length<=4194304:=by
  have:=Zqy si.pos
  rw [Qj] at this
  omega
 have pa0:Q8 (some (b,0)) 1=some (b,1):=by simp [Q8]
 have KP:=Kp.push [.int .i64 0,.int .i64 0] 2 (σ:=σ) (Qe _)
 have S1:=S0.kp KP
 have l1:=ld1 S1.R
 have hlen:=Zie S0.g.sl
 by_cases c0:L=[]
 ·subst c0
  obtain⟨σ',e1,k1,R1⟩:=Zo2 (σ:=σ) (u:=0) (v:=0) (by omega)
  have f0:=Zd R1 (o:=0) rfl
  have f1:=Zd R1 (o:=1) rfl
  refine⟨h,σ',Mv.kpl k1,.inl ⟨?_,SI.done si,S.kp k1,rI Tryz.f190 (Ev.of fun k=>?_)⟩⟩
  ·have:nsum s (([]:List Pt).map (abx w))=0:=rfl
   rw [this] at tot; omega
  ·simp only [Zlz]
   simp only [Qd,pa0,l1,hlen,QW,decide_eq_true_eq,if_true,e1,f0,f1,Int.ofNat_zero]
 have h0:0<L.length:=QaR.2 c0
 obtain⟨x,h1,σ1,L1,⟨n1,r1⟩,m1,S2,P,H1,best⟩:=Zzz S1 (by simpa using hp) F (by omega) H h0
 have okx:=OK x (P.mem_iff.2 (by simp))
 have fx:=okx.fit wd.2 sm
 have OK1:∀ y∈L1,Okp w l s y:=fun y hy=>OK y (P.mem_iff.2 (by simp [hy]))
 have hlen1:=P.length_eq
 simp only [Qh] at hlen1
 have si1:=si.congr (P.map (abx w))
 rw [QC] at si1
 have ns1:nsum s (L.map (abx w))=nOf s (abx w x)+nsum s (L1.map (abx w)):=by rw [<-Zev,<-QC]; exact Zgd _ (P.map (abx w))
 have qs1:qsum s (L.map (abx w))=nOf s (abx w x)*(abx w x).1+qsum s (L1.map (abx w)):=by rw [<-Zhv,<-QC]; exact Zgd _ (P.map (abx w))
 have hpos:0<nOf s (abx w x):=si1.pos _ (by simp)
 have m1':Mv b h h1 σ σ1:=(Mv.kpl KP).trans m1
 have g1:∀ {r},h1.row=some r->r<σ1.objs.length:=fun {r} e=>(S2.g.row r e).2
 have len1:σ.objs.length<σ1.objs.length:=by have:=m1.len; simp at this; omega
 have nr:h1.row≠some σ.objs.length:=fun e=>by
  rcases m1.row with r | r
  ·have:=(S0.g.row _ (r ▸ e)).2; omega
  ·have:=r _ e; simp at this; omega
 have Rr:σ1.Row σ.objs.length 2 [.int .i64 0,.int .i64 0]:=m1.rowk Store.Row.new (by omega) (fun e=>by have:=(S0.g.row _ e).2; omega)
 obtain⟨σ2,e2,k2,Rq⟩:=Z6a (σ:=σ1) x (by rw [m1'.prot]; omega)
 have R2:=(S2.kp k2).R
 have pb:=Z0m R2 (o:=0) rfl
 have KN1:Kp n σ σ1:=S0.kpn m1'
 obtain⟨ps,lps,VV,lvr⟩:=Zxq M
 have KN2:Kp σ0.objs.length σ0 σ2:=by rw [hn]; exact (K0.trans KN1).trans (k2.mono (by omega))
 have prot2:σ2.prot<=n:=by rw [k2.prot,m1'.prot]; exact hp
 have len2:=k2.len
 have q1lt:σ1.objs.length<σ2.objs.length:=Rq.lt
 obtain⟨ho,σ3,⟨n2,r2⟩,k3,G3⟩:=lvr σ2 KN2 (by omega)
 have lho:=G3.len
 have lpl:(ptrsL ps).length=w:=by simp [ptrsL,lps]
 have k23:Kp σ1.objs.length σ1 σ3:=k2.trans (k3.mono len2)
 have S3:=S2.kp k23
 have Rq3:=Rq.kp k3 Rq.lt
 have Rr3:σ3.Row σ.objs.length 2 [.int .i64 0,.int .i64 0]:=Rr.kp k23 Rr.lt
 have m3:Mv b h h1 σ σ3:=m1'.trans (Mv.kpl k23)
 have v0:=Zd Rq3 (o:=0) rfl
 have v1:=Zd Rq3 (o:=1) rfl
 have v2:=Zd Rq3 (o:=2) rfl
 have v3:=Zd Rq3 (o:=3) rfl
 have v4:=Zd Rq3 (o:=4) rfl
 have ne0:¬ ((h.len:Int)=0):=by omega
 have prot3:σ3.prot<=n:=by rw [k3.prot]; exact prot2
 have nbn:σ.objs.length≠b:=by omega
 have len3:=k3.len
 have unf:pcs x=[.int .i64 x.1,.int .i64 x.2.1,.int .i64 x.2.2.1,.int .i64 x.2.2.2.1,.int .i64 x.2.2.2.2]:=rfl
 rw [unf] at r1 e2
 by_cases c1:x.1=w
 ·
  have wm:Qb .i64 ((x.2.2.2.2:Int)-x.2.2.2.1)=((nOf s (abx w x):Nat):Int):=by
   have h1:=fx.a
   have h2:=fx.b
   have h3:=okx.b
   rw [Za (by omega) (by omega)]; omega
  have e3:=st2 Rr3 (by omega) x.2.1 (nOf s (abx w x):Nat)
  obtain⟨σ4,h4⟩:∃ σ4,σ4=σ3.setO σ.objs.length (.cells [.int .i64 x.2.1,.int .i64 ((nOf s (abx w x):Nat):Int)] true 2):=⟨_,rfl⟩
  rw [<-h4] at e3
  have R4:σ4.Row σ.objs.length 2 [.int .i64 x.2.1,.int .i64 ((nOf s (abx w x):Nat):Int)]:=by rw [h4]; exact Store.Row.setO_eq Rr3.lt
  have f0:=Zd R4 (o:=0) rfl
  have f1:=Zd R4 (o:=1) rfl
  have ab0:abx w x=(0,x.2.1):=by unfold abx; rw [c1,Qau]
  refine⟨h1,σ4,by rw [h4]; exact m3.setO (Qe _),.inr (.inl ⟨x.2.1,(nOf s (abx w x):Nat),⟨L1,by rw [h4]; exact S3.setO nbn nr,H1,OK1,?_,?_,?_⟩,rI Tryz.f190 ⟨n1+n2,fun k hk=>?_⟩⟩)⟩
  ·rw [ab0] at si1 ⊢
   refine si1.tell s0 fun p hp'=>?_
   obtain⟨y,hy,rfl⟩:=Qp.1 hp'
   rw [<-ab0,<-Z3m (OK1 y hy) okx]
   exact best y hy
  ·rw [Zsn]
   have:sum2 [((x.2.1:Int),((nOf s (abx w x):Nat):Int))]=(nOf s (abx w x):Nat):=by simp [sum2]
   rw [this]; omega
  ·rw [ab0] at qs1; simp only [Nat.mul_zero,Q3] at qs1; omega
  ·have r1:=r1 k (by omega)
   have r2:=r2 k (by omega)
   simp only at r1 r2
   have cw:(x.1:Int)=ho.len:=by omega
   simp only [Zlz]
   simp only [Qd,pa0,l1,decide_eq_true_eq,if_neg ne0,r1,AV.asIfc,if_true,Qa5,Qai,Qh,QW,Qa6,Qa7,AV.cells,QV,if_false,Z5s,e2,pb,r2,Qbq,v0,if_pos cw,v1,v4,v3,wm,e3,f0,f1,Q3,Qbv]
   simp [e2,pb,r2,Qbq,v0,cw,v1,v4,v3,wm,e3,f0,f1]
 ·
  have xw:=okx.lv
  obtain⟨j,hj⟩:∃ j,j=x.1:=⟨_,rfl⟩
  obtain⟨k,hk⟩:∃ k,w=j+(k+1):=⟨w-x.1-1,by omega⟩
  have abk:abx w x=(k+1,x.2.1):=by unfold abx; rw [show w-x.1=k+1 by omega]
  have okp:=okx.p
  rw [show w-x.1=k+1 by omega] at okp
  have okb:=okx.b
  have eN:nOf s (abx w x)=(s.filter (pre (k+1) x.2.1)).length:=by rw [abk]; rfl
  rw [eN] at okb
  have st0:=okp.step (by omega) false
  have st1:=okp.step (by omega) true
  rw [<-Zkr l hk,<-okb] at st0 st1
  simp only [bn,QV,if_false,if_true,Qak,goto] at st0 st1
  obtain⟨qv,hqv,V0⟩:=VV j (by omega)
  have KN3:Kp σ0.objs.length σ0 σ3:=by rw [hn] at KN2 ⊢; exact KN2.trans (k3.mono (by omega))
  have V3:Vec σ3 qv (lev w l j):=V0.kp KN3
  have lb:=Zvc w l j
  have ldv:=Zty G3.sl hqv
  obtain⟨m1_,r3⟩:=Zih V3
  obtain⟨m2_,r4⟩:=Zrw V3
  obtain⟨m3_,r5⟩:=Zdc (V3.keepQ (σ':={ σ3 with prot:=σ3.objs.length }) fun _ _=>rfl) (x.2.2.2.1:Nat)
  obtain⟨m4_,r6⟩:=Zdc (V3.keepQ (σ':={ σ3 with prot:=σ3.objs.length }) fun _ _=>rfl) (x.2.2.2.2:Nat)
  rw [Ql] at r5 r6
  have fl:=fx.l
  have fc:=okx.c
  have fe:=fx.e
  have pj:2^x.1<=2^24:=Qad (by omega) (by omega)
  have pk:2^k<=2^24:=Qad (by omega) (by omega)
  have w1:Qb .i64 ((x.1:Int)+1)=((x.1+1:Nat):Int):=by rw [Za (by omega) (by omega)]; omega
  have w2:Qb .i64 (2*(x.2.1:Int))=((2*x.2.1:Nat):Int):=by rw [Za (by omega) (by omega)]; omega
  have w3:Qb .i64 (((2*x.2.1:Nat):Int)+1)=((2*x.2.1+1:Nat):Int):=by rw [Za (by omega) (by omega)]; omega
  have w4:Qb .i64 (Qb .i64 ((ho.len:Int)-x.1)-1)=((k:Nat):Int):=by rw [Za (x:=(ho.len:Int)-x.1) (by omega) (by omega),Za (by omega) (by omega)]; omega
  have w5:Qb .i64 ((x.2.2.1:Int)+((2^k:Nat):Int))=((x.2.2.1+2^k:Nat):Int):=
   (fun (t:Nat) (ht:t<=2^24)=>by rw [Za (by omega) (by omega)]; omega:∀ t:Nat,t<=2^24->Qb .i64 ((x.2.2.1:Int)+(t:Int))=((x.2.2.1+t:Nat):Int)) (2^k) pk
  have ol:=Zbp (lev w l j) (lev w l j).length
  have zl:zerosTo (lev w l j) (lev w l j).length=(lev w l j).length-onesTo (lev w l j) (lev w l j).length:=by unfold zerosTo; rw [Nat.min_self]
  have w6:Qb .i64 (((lev w l j).length:Int)-(onesTo (lev w l j) (lev w l j).length:Nat))=((zerosTo (lev w l j) (lev w l j).length:Nat):Int):=by rw [Za (by omega) (by omega)]; omega
  have oa:=Zbp (lev w l j) x.2.2.2.1
  have ob:=Zbp (lev w l j) x.2.2.2.2
  have w7:Qb .i64 (((zerosTo (lev w l j) (lev w l j).length:Nat):Int)+(onesTo (lev w l j) x.2.2.2.1:Nat))=((zerosTo (lev w l j) (lev w l j).length+onesTo (lev w l j) x.2.2.2.1:Nat):Int):=by rw [Za (by omega) (by omega)]; omega
  have w8:Qb .i64 (((zerosTo (lev w l j) (lev w l j).length:Nat):Int)+(onesTo (lev w l j) x.2.2.2.2:Nat))=((zerosTo (lev w l j) (lev w l j).length+onesTo (lev w l j) x.2.2.2.2:Nat):Int):=by rw [Za (by omega) (by omega)]; omega
  obtain⟨x1,hx1⟩:∃ y:Pt,y=(x.1+1,2*x.2.1,x.2.2.1,zerosTo (lev w l j) x.2.2.2.1,zerosTo (lev w l j) x.2.2.2.2):=⟨_,rfl⟩
  obtain⟨x2,hx2⟩:∃ y:Pt,y=(x.1+1,2*x.2.1+1,x.2.2.1+2^k,zerosTo (lev w l j) (lev w l j).length+onesTo (lev w l j) x.2.2.2.1,zerosTo (lev w l j) (lev w l j).length+onesTo (lev w l j) x.2.2.2.2):=⟨_,rfl⟩
  have a1:abx w x1=(k,2*x.2.1):=by rw [hx1]; unfold abx; simp only; rw [show w-(x.1+1)=k by omega]
  have a2:abx w x2=(k,2*x.2.1+1):=by rw [hx2]; unfold abx; simp only; rw [show w-(x.1+1)=k by omega]
  have e0:x.2.2.1=x.2.1*2^(k+1):=by have:=okx.e; rw [abk] at this; exact this
  have e1':2*x.2.1*2^k=x.2.1*2^(k+1):=by rw [QaD,Qbd 2 x.2.1,Qbu,Qbd 2 (2^k)]
  have ok1:Okp w l s x1:=by
   refine⟨by rw [hx1]; simp only; omega,by rw [hx1]; simp only; rw [QaD]; omega,?_,?_,?_⟩
   ·rw [a1]; rw [hx1]; unfold loOf; simp only; omega
   ·rw [a1]; rw [hx1]; simp only; rw [st0.2]; rfl
   ·rw [hx1]; simp only; rw [show w-(x.1+1)=k by omega]; exact st0.1
  have ok2:Okp w l s x2:=by
   refine⟨by rw [hx2]; simp only; omega,by rw [hx2]; simp only; rw [QaD]; omega,?_,?_,?_⟩
   ·rw [a2]; rw [hx2]; unfold loOf; simp only; rw [QI,Qbl]; omega
   ·rw [a2]; rw [hx2]; simp only; rw [st1.2]; rfl
   ·rw [hx2]; simp only; rw [show w-(x.1+1)=k by omega]; exact st1.1
  have f1:=ok1.fit wd.2 sm
  have f2:=ok2.fit wd.2 sm
  have pn1:pn x1=nOf s (k,2*x.2.1):=by have:=ok1.b; rw [a1] at this; unfold pn; omega
  have pn2:pn x2=nOf s (k,2*x.2.1+1):=by have:=ok2.b; rw [a2] at this; unfold pn; omega
  obtain⟨h4,σ4,L4,⟨m5_,r7⟩,m4,S4,P4,H4⟩:=Zt0 S3 prot3 (fun y hy=>(OK1 y hy).fit wd.2 sm) (by omega) H1 f1
  have OK4:∀ y∈L4,Okp w l s y:=fun y hy=>by
   rcases Qw.1 (P4.mem_iff.1 hy) with hy | hy
   ·exact OK1 y hy
   ·split at hy
    ·rw [QK] at hy; subst hy; exact ok1
    ·cases hy
  have len4:=m4.len
  have KN4:Kp σ0.objs.length σ0 σ4:=by rw [hn] at KN3 ⊢; exact KN3.trans (S3.kpn m4)
  have V4:Vec σ4 qv (lev w l j):=V0.kp KN4
  have qne:h1.row≠some σ1.objs.length:=fun e=>by have:=g1 e; omega
  have Rq4:=m4.rowk Rq3 (by have:=S2.R.lt; omega) qne
  have Rr4:=m4.rowk Rr3 nbn nr
  have nr4:h4.row≠some σ.objs.length:=fun e=>by
   rcases m4.row with r | r
   ·exact nr (r ▸ e)
   ·have:=r _ e; omega
  have u0:=Zd Rq4 (o:=0) rfl
  have u1:=Zd Rq4 (o:=1) rfl
  have u2:=Zd Rq4 (o:=2) rfl
  have u3:=Zd Rq4 (o:=3) rfl
  have u4:=Zd Rq4 (o:=4) rfl
  obtain⟨m6_,r8⟩:=Zem (V4.keepQ (σ':={ σ4 with prot:=σ4.objs.length }) fun _ _=>rfl) (x.2.2.2.1:Nat)
  obtain⟨m7_,r9⟩:=Zem (V4.keepQ (σ':={ σ4 with prot:=σ4.objs.length }) fun _ _=>rfl) (x.2.2.2.2:Nat)
  rw [Ql] at r8 r9
  have ll4:=P4.length_eq
  have ll4':L4.length<=L1.length+1:=by
   rw [ll4,Qc]; split <;> simp
  obtain⟨h5,σ5,L5,⟨m8_,r10⟩,m5,S5,P5,H5⟩:=Zt0 S4 (by rw [m4.prot]; exact prot3) (fun y hy=>(OK4 y hy).fit wd.2 sm) (by omega) H4 f2
  have OK5:∀ y∈L5,Okp w l s y:=fun y hy=>by
   rcases Qw.1 (P5.mem_iff.1 hy) with hy | hy
   ·exact OK4 y hy
   ·split at hy
    ·rw [QK] at hy; subst hy; exact ok2
    ·cases hy
  have nr5:h5.row≠some σ.objs.length:=fun e=>by
   rcases m5.row with r | r
   ·exact nr4 (r ▸ e)
   ·have:=r _ e; omega
  have Rr5:=m5.rowk Rr4 nbn nr4
  have e3:=st2 Rr5 (by rw [m5.prot,m4.prot]; omega) 0 0
  obtain⟨σ6,h6⟩:∃ σ6,σ6=σ5.setO σ.objs.length (.cells [.int .i64 0,.int .i64 0] true 2):=⟨_,rfl⟩
  rw [<-h6] at e3
  have R6:σ6.Row σ.objs.length 2 [.int .i64 0,.int .i64 0]:=by rw [h6]; exact Store.Row.setO_eq Rr5.lt
  have z0:=Zd R6 (o:=0) rfl
  have z1:=Zd R6 (o:=1) rfl
  have PL:(L5.map (abx w)).Perm (L1.map (abx w)++kid s (k,2*x.2.1)++kid s (k,2*x.2.1+1)):=by
   have t1:((if 0<pn x1 then [x1] else []).map (abx w))=kid s (k,2*x.2.1):=by
    rw [pn1]; unfold kid; split
    ·simp [a1]
    ·rfl
   have t2:((if 0<pn x2 then [x2] else []).map (abx w))=kid s (k,2*x.2.1+1):=by
    rw [pn2]; unfold kid; split
    ·simp [a2]
    ·rfl
   have q1:=P5.map (abx w)
   have q2:=P4.map (abx w)
   rw [Qs,t2] at q1
   rw [Qs,t1] at q2
   exact q1.trans (q2.append_right _)
  rw [abk] at si1 ns1 qs1 hpos
  have nn:=Zgd (nOf s) PL
  have qq:=Zgd (fun p=>nOf s p*p.1) PL
  have ns2:=Zvj s (L1.map (abx w)) k x.2.1
  have qs2:=Zvu s (L1.map (abx w)) k x.2.1
  rw [Zev] at ns2
  rw [Zhv] at qs2
  have nn':nsum s (L5.map (abx w))=nsum s (L1.map (abx w)++kid s (k,2*x.2.1)++kid s (k,2*x.2.1+1)):=nn
  have qq':qsum s (L5.map (abx w))=qsum s (L1.map (abx w)++kid s (k,2*x.2.1)++kid s (k,2*x.2.1+1)):=qq
  refine⟨h5,σ6,by rw [h6]; exact ((m3.trans m4).trans m5).setO (Qe _),.inr (.inr ⟨qsum s (L5.map (abx w)),?_,⟨L5,by rw [h6]; exact S5.setO nbn nr5,H5,OK5,si1.split.congr PL.symm,?_,rfl⟩,rI Tryz.f190 ⟨n1+n2+m1_+m2_+m3_+m4_+m5_+m6_+m7_+m8_,fun K hK=>?_⟩⟩)⟩
  ·simp only at qs1 qs2; omega
  ·omega
  ·have r1:=r1 K (by omega)
   have r2:=r2 K (by omega)
   have r3:=r3 K (by omega)
   have r4:=r4 K (by omega)
   have r5:=r5 K (by omega)
   have r6:=r6 K (by omega)
   have r7:=r7 K (by omega)
   have r8:=r8 K (by omega)
   have r9:=r9 K (by omega)
   have r10:=r10 K (by omega)
   simp only at r1 r2 r3 r4 r5 r6 r7 r8 r9 r10
   have g5:=Zn r5
   have g6:=Zn r6
   have g8:=Zn r8
   have g9:=Zn r9
   have cw:¬ ((x.1:Int)=ho.len):=by omega
   have ci:(0:Int)<=x.1/\(x.1:Int)<ho.len:=by omega
   have ck:(0:Int)<=(k:Nat):=by omega
   rw [hj] at ldv
   unfold pcs at r7 r10
   rw [hx1] at r7
   rw [hx2] at r10
   simp only at r7 r10
   simp only [Zlz]
   simp only [Qd,pa0,l1,decide_eq_true_eq,if_neg ne0,r1,AV.asIfc,if_true,Qa5,Qai,Qh,QW,Qa6,Qa7,AV.cells,QV,if_false,Z5s,e2,pb,r2,Qbq,v0,if_neg cw,if_pos ci,ldv,w4,if_pos ck,r3,r4,v1,v2,v3,v4,g5,g6,w1,w2,r7,u0,u1,u2,u3,u4,g8,g9,w3,Z5n (show k<=24 by omega),w5,w6,w7,w8,r10,e3,z0,z1,Q3,Qbv]
   simp [e2,pb,r2,Qbq,v0,cw,ldv,w4,r3,r4,v1,v2,v3,v4,g5,g6,w1,w2,r7,u0,u1,u2,u3,u4,g8,g9,w3,Z5n (show k<=24 by omega),w5,w6,w7,w8,r10,e3,z0,z1]
end
end Go.Ab

namespace Go.Ab
open Go Go.Proofs Go.Ab.Wd Go.Ab.Bs Go.Ab.Sai
theorem Zic{s:List Int}{w:Nat}(h:∀ x∈s,x.toNat<2^w):nOf s (w,0)=s.length:=by
 unfold nOf; rw [QaQ.2 fun x hx=>Zmm (h x hx)]
theorem Sst.setO{σ:Store}{n b:Nat}{pm:Ptr}{h:Hdl}{l s:List Int}{w q:Nat}{O:List (Int×Int)}(S:Sst σ n b pm h l s w O q){r:Nat}(h1:r≠b)(h2:h.row≠some r){o:AObj}:Sst (σ.setO r o) n b pm h l s w O q:=by
 obtain⟨L,a,c⟩:=S.ex
 exact⟨L,a.setO h1 h2,c⟩
theorem Sst.keepS{σ σ':Store}{n b:Nat}{pm:Ptr}{h:Hdl}{l s:List Int}{w q:Nat}{O:List (Int×Int)}(S:Sst σ n b pm h l s w O q)(k:∀ x,x<σ.objs.length->(x=b\/h.row=some x)->σ'.objs[x]?=σ.objs[x]?):Sst σ' n b pm h l s w O q:=by
 obtain⟨L,a,c⟩:=S.ex
 exact⟨L,⟨a.nb,(k b a.R.lt (.inl rfl)).trans a.R,a.hb,a.g.keepX fun x hx=>k x (a.g.row x hx).2 (.inr hx)⟩,c⟩
theorem Sst.lt{σ:Store}{n b:Nat}{pm:Ptr}{h:Hdl}{l s:List Int}{w q:Nat}{O:List (Int×Int)}(S:Sst σ n b pm h l s w O q):n<=b/\b<σ.objs.length/\h.row≠some b/\∀ x,h.row=some x->n<=x/\x<σ.objs.length:=by
 obtain⟨L,a,c⟩:=S.ex
 exact⟨a.nb,a.R.lt,a.hb,fun x hx=>a.g.row x hx⟩
theorem Sst.kpn{σ σ':Store}{n b:Nat}{pm:Ptr}{h h':Hdl}{l s:List Int}{w q:Nat}{O:List (Int×Int)}(S:Sst σ n b pm h l s w O q)(m:Mv b h h' σ σ'):Kp n σ σ':=by
 obtain⟨L,a,c⟩:=S.ex
 exact a.kpn m
theorem Zzd{σ:Store}{pm:Ptr}{l:List Int}{w:Nat}(M:Mat σ pm l w)(hp:σ.prot<=σ.objs.length)(a b:Int) :
  ∃ h σ',Runs Qa 136 [.ptr pm,.int .i64 a,.int .i64 b] σ (.ptr (some (σ.objs.length,0))) σ'/\Kp σ.objs.length σ σ'/\Sst σ' σ.objs.length σ.objs.length pm h l (seg l a b) w [] ((seg l a b).length*w):=by
 have KP:=Kp.push [.ptr pm,.slice QH] 2 (σ:=σ) (Qe _)
 have M1:=M.kp KP
 have wd:=M.wid
 have sm:=M.small
 obtain⟨n1,r1⟩:=Zku M1
 have S0:Srch (σ.push [.ptr pm,.slice QH] 2) σ.objs.length σ.objs.length pm QH []:=⟨Nat.le_refl _,Store.Row.new,by simp [Hdl.row,QH],Grow.nil _ _ _⟩
 obtain⟨s,hs⟩:∃ s,s=seg l a b:=⟨_,rfl⟩
 have sw:∀ x∈s,x.toNat<2^w:=fun x hx=>M.nat x (Zt4 (hs ▸ hx))
 have st:=SI.start (s:=s) (w:=w)
 by_cases c:max a 0<min b l.length
 ·have lo:segLo a<l.length:=by unfold segLo; omega
  obtain⟨s1,s2,s3⟩:=seg_length (l:=l) (a:=a) (b:=b) lo
  have hlo:((segLo a:Nat):Int)=mx2 a 0:=by rw [Zbx]; unfold segLo; omega
  have hhi:((segHi l a b:Nat):Int)=mn2 b l.length:=by rw [Zbw]; unfold segHi; omega
  have hlt:segLo a<segHi l a b:=by rw [Zbx] at hlo; rw [Zbw] at hhi; omega
  obtain⟨x,hx⟩:∃ x:Pt,x=(0,0,0,segLo a,segHi l a b):=⟨_,rfl⟩
  have ax:abx w x=(w,0):=by rw [hx]; rfl
  have ok:Okp w l s x:=by
   refine⟨by rw [hx]; exact QJ _,by rw [hx]; simp,by rw [ax,hx]; simp [loOf],?_,?_⟩
   ·rw [ax,Zic sw,hs,s1,hx]; simp only; omega
   ·rw [hx]; simp only [Qbc]; rw [hs]; exact Part.top M.nat s2 s3
  have fx:=ok.fit wd.2 sm
  obtain⟨h',σ',L',⟨n2,r2⟩,m,S',P,H⟩:=Zt1 S0 (by simpa using hp) (fun y hy=>by cases hy) (by simp) (fun i i0 i1=>by simp at i1) fx (by rw [hx]; exact hlt)
  rw [QA] at P
  have eL:L'=[x]:=List.perm_singleton.1 P
  subst eL
  have pc:pcs x=[.int .i64 0,.int .i64 0,.int .i64 0,.int .i64 (mx2 a 0),.int .i64 (mn2 b l.length)]:=by
   rw [hx,<-hlo,<-hhi]; rfl
  rw [pc] at r2
  have hk:kid s (w,0)=[(w,0)]:=by unfold kid; rw [if_pos (by rw [Zic sw,hs,s1]; omega)]
  rw [hk] at st
  refine⟨h',σ',rI Tryz.f136 ⟨n1+n2,fun k hk=>?_⟩,KP.trans (S0.kpn m),[x],S',H,fun y hy=>by rw [QK] at hy; subst hy; rw [<-hs]; exact ok,by rw [<-hs,Qaz,ax]; exact st,?_,?_⟩
  ·have r1:=r1 k (by omega)
   have r2:=r2 k (by omega)
   simp only at r1 r2
   simp only [Zs3]
   simp only [Qd,r1,Qai,if_true,r2]
  ·rw [<-hs,Qaz,ax]; simp [nsum,sum2,Zic sw]
  ·rw [<-hs,Qaz,ax]; simp [qsum,Zic sw]
 ·have e:s=[]:=by
   rw [hs]
   apply Qy
   unfold seg segHi segLo
   simp
   omega
  have hk:kid s (w,0)=[]:=by rw [e]; rfl
  rw [hk] at st
  have r2':=Zyc (σ:=σ.push [.ptr pm,.slice QH] 2) S0.R (i1:=0) (i2:=0) (i3:=0) (i4:=mx2 a 0) (i5:=mn2 b l.length) (by rw [Zbx,Zbw]; exact c)
  obtain⟨n2,r2⟩:=r2'
  have K2:=Kp.push [.int .i64 0,.int .i64 0,.int .i64 0,.int .i64 (mx2 a 0),.int .i64 (mn2 b l.length)] 5 (σ:=σ.push [.ptr pm,.slice QH] 2) (Qe _)
  refine⟨Hdl.nil,_,rI Tryz.f136 ⟨n1+n2,fun k hk=>?_⟩,KP.then K2 (by simp),[],S0.kp K2,(fun i i0 i1=>by simp at i1),(fun y hy=>by cases hy),(by rw [<-hs]; exact st),?_,?_⟩
  ·have r1:=r1 k (by omega)
   have r2:=r2 k (by omega)
   simp only at r1 r2
   simp only [Zs3]
   simp only [Qd,r1,Qai,if_true,r2]
  ·rw [<-hs,e]; simp [nsum,sum2]
  ·rw [<-hs,e]; simp [qsum]
section
variable {σ0 σ:Store} {h:Hdl} {n b w q:Nat} {pm:Ptr} {l s:List Int} {O:List (Int×Int)}
theorem Z0c(M:Mat σ0 pm l w)(hn:σ0.objs.length=n)(K0:Kp n σ0 σ)(S:Sst σ n b pm h l s w O q)(hp:σ.prot<=n)(hs:s.length<=4194304)(s0:∀ x∈s,0<=x) :
  ∃ h' σ' c m f,Runs Qa 137 [.ptr (some (b,0))] σ (.tuple [.agg [.int .i64 c,.int .i64 m],.bool f]) σ'/\Mv b h h' σ σ' /\
   ((f=false/\O=rk (dis s 0 (2^w))/\∃ q,Sst σ' n b pm h' l s w O q)\/(f=true/\∃ q,Sst σ' n b pm h' l s w (O++[(c,m)]) q)):=by
 have KP:=Kp.push [.int .i64 0,.int .i64 0] 2 (σ:=σ) (Qe _)
 obtain⟨hnb,hbl,hhb,hrw⟩:=S.lt
 have nbn:σ.objs.length≠b:=by omega
 obtain⟨r,e,h',σ',c,m,f,rfl,mm,R,fin⟩:=EvI.while (f:=fun k s=>QX Qa (gm Qa k) QS k Tryz.f137 [1,0] [2,0] s)
  (fun q st=>∃ h' σ',st=([.ptr (some (σ.objs.length,0)),.ptr (some (b,0))],σ')/\Mv b h h' σ σ'/\h'.row≠some σ.objs.length/\σ'.Row σ.objs.length 2 [.int .i64 0,.int .i64 0]/\Sst σ' n b pm h' l s w O q)
  (fun r=>∃ h' σ' c m f,r=(Qb0,[(3,.bool f),(2,.ptr (some (σ.objs.length,0)))],σ')/\Mv b h h' σ σ'/\σ'.Row σ.objs.length 2 [.int .i64 c,.int .i64 m] /\
   ((f=false/\O=rk (dis s 0 (2^w))/\∃ q,Sst σ' n b pm h' l s w O q)\/(f=true/\∃ q,Sst σ' n b pm h' l s w (O++[(c,m)]) q)))
  (by
   rintro q' st ⟨h1,σ1,rfl,m1,ap1,R1,S1⟩
   have K1:Kp n σ0 σ1:=K0.trans (S.kpn m1)
   have p1:σ1.prot<=n:=by rw [m1.prot]; exact hp
   obtain⟨h2,σ2,m2,cs⟩:=Z02 M hn K1 S1 p1 hs s0
   have R2:=m2.rowk R1 nbn ap1
   have m12:=m1.trans m2
   have ap2:h2.row≠some σ.objs.length:=fun e=>by
    rcases m2.row with r | r
    ·exact ap1 (r ▸ e)
    ·have:=r _ e; have:=R1.lt; omega
   have p2:σ2.prot<=σ.objs.length:=by rw [m2.prot]; omega
   have l12:=m12.len
   have tk:∀ c m:Int,∃ σ3,Qbi (σ2.push [.int .i64 0,.int .i64 0] 2) (some (σ2.objs.length,0)) [.int .i64 c,.int .i64 m] 0=some σ3/\Kp σ2.objs.length σ2 σ3/\σ3.Row σ2.objs.length 2 [.int .i64 c,.int .i64 m]:=fun c m=>Zo2 (by omega)
   rcases cs with ⟨t1,t2,S2,n1,r1⟩ | ⟨c,m,S2,n1,r1⟩ | ⟨q2,hq2,S2,n1,r1⟩
   ·obtain⟨σ3,e3,k3,R3⟩:=tk 0 0
    have f0:=Zd R3 (o:=0) rfl
    have f1:=Zd R3 (o:=1) rfl
    have Rr:=R2.kp k3 R2.lt
    have e4:=st2 Rr (by rw [k3.prot]; exact p2) 0 0
    refine .inr ⟨_,⟨n1,fun k hk=>?_⟩,h2,σ3.setO σ.objs.length (.cells [.int .i64 0,.int .i64 0] true 2),0,0,false,rfl,(m12.trans (Mv.kpl k3)).setO (Qe _),Store.Row.setO_eq Rr.lt,.inl ⟨rfl,t2,_,(S2.kp k3).setO nbn ap2⟩⟩
    have r1:=r1 k hk
    simp only at r1
    simp only [Zjk]
    simp only [stp,r1,Qa5,e3,f0,f1,e4]
   ·obtain⟨σ3,e3,k3,R3⟩:=tk c m
    have f0:=Zd R3 (o:=0) rfl
    have f1:=Zd R3 (o:=1) rfl
    have Rr:=R2.kp k3 R2.lt
    have e4:=st2 Rr (by rw [k3.prot]; exact p2) c m
    refine .inr ⟨_,⟨n1,fun k hk=>?_⟩,h2,σ3.setO σ.objs.length (.cells [.int .i64 c,.int .i64 m] true 2),c,m,true,rfl,(m12.trans (Mv.kpl k3)).setO (Qe _),Store.Row.setO_eq Rr.lt,.inr ⟨rfl,_,(S2.kp k3).setO nbn ap2⟩⟩
    have r1:=r1 k hk
    simp only at r1
    simp only [Zjk]
    simp only [stp,r1,Qa5,e3,f0,f1,e4]
   ·obtain⟨σ3,e3,k3,R3⟩:=tk 0 0
    have f0:=Zd R3 (o:=0) rfl
    have f1:=Zd R3 (o:=1) rfl
    have Rr:=R2.kp k3 R2.lt
    refine .inl ⟨q2,_,hq2,⟨n1,fun k hk=>?_⟩,h2,σ3,rfl,m12.trans (Mv.kpl k3),ap2,Rr,S2.kp k3⟩
    have r1:=r1 k hk
    simp only at r1
    simp only [Zjk]
    simp only [stp,r1,Qa5,e3,f0,f1])
  q _ ⟨h,_,rfl,Mv.kpl KP,(fun e=>by have:=(hrw _ e).2; omega),Store.Row.new,S.kp KP⟩
 obtain⟨n1,e⟩:=Zc e
 have f0:=Zd R (o:=0) rfl
 have f1:=Zd R (o:=1) rfl
 refine⟨h',σ',c,m,f,rI Tryz.f137 ⟨n1,fun k hk=>?_⟩,mm,fin⟩
 have e:=e k hk
 simp only at e
 simp only [Z14]
 rw [e,Qd,Zuy]
 simp only [f0,f1,Qd]
end
end Go.Ab

namespace Go.Ab
open Go Go.Proofs Go.Ab.Wd Go.Ab.Bs Go.Ab.Sai
theorem Znt{σ:Store}{n:Nat}{h:Hdl}{L:List (Int×Int)}(G:Grow σ n h 2 (pairsL L))(hp:σ.prot<=n)(hn:n<=σ.objs.length)(u v:Int)(hl:L.length<2^40) :
  ∃ h' σ',Qbx (σ.push [.int .i64 u,.int .i64 v] 2) h 2 16 [.int .i64 u,.int .i64 v] 1=some (h',σ')/\Kp n σ σ'/\Grow σ' n h' 2 (pairsL (L++[(u,v)])) /\
   (∀ b,b<σ.objs.length->h.row≠some b->σ'.objs[b]?=σ.objs[b]?)/\(h'.row=h.row\/∀ b,h'.row=some b->σ.objs.length<=b):=by
 have G1:=G.kp (Kp.push [.int .i64 u,.int .i64 v] 2 (Qe _))
 have hh:=Zad G.sl
 obtain⟨h',σ',ea,Ka,Sa,Oa,_,fr⟩:=Zbg (xs:=[.int .i64 u,.int .i64 v]) (by_:=16) (m:=1) G1.sl G1.own (by simpa using hp) (by simp; omega) (by omega) (by simp) rfl (by omega) (by omega)
 refine⟨h',σ',ea,(Kp.push _ _ hn).trans Ka,⟨by rw [Zgm]; exact Sa,Oa⟩,fun b hb hr=>?_,?_⟩
 ·rw [fr b (fun c o e' e2=>hr (by simp [Hdl.row,e',e2])) (by simp; omega)]
  simp only [Qbs]; rw [Q4 hb]
 ·rcases Zh5 ea with r | r
  ·exact .inl r
  ·refine .inr fun b hb=>?_
   rw [r] at hb; injection hb with hb; subst hb; simp
theorem Grow.row2{σ:Store}{n:Nat}{h:Hdl}{es:Nat}{l:List AV}(g:Grow σ n h es l):∀ b,h.row=some b->n<=b/\b<σ.objs.length:=fun b e=>by
 cases ha:h.a with
 | none=>simp [Hdl.row,ha] at e
 | some bo=>obtain⟨c,o⟩:=bo; simp [Hdl.row,ha] at e; subst e; exact g.rowLt c o ha
theorem Z35{σ:Store}{pm:Ptr}{l:List Int}{w:Nat}(M:Mat σ pm l w)(hp:σ.prot<=σ.objs.length)(a b k:Int) :
  ∃ ho σ',Runs Qa 75 [.ptr pm,.int .i64 a,.int .i64 b,.int .i64 k] σ (.slice ho) σ'/\Kp σ.objs.length σ σ'/\Grow σ' σ.objs.length ho 2 (pairsL ((rk (dis (seg l a b) 0 (2^w))).take k.toNat)):=by
 obtain⟨s,hs⟩:∃ s,s=seg l a b:=⟨_,rfl⟩
 have sm:=M.small
 have s0:∀ x∈s,0<=x:=fun x hx=>(M.rng x (Zt4 (hs ▸ hx))).1
 have ssm:s.length<=4194304:=by
  rw [hs]; unfold seg; rw [QB,Qk]; omega
 obtain⟨h0,σ1,⟨n1,r1⟩,K1,S1⟩:=Zzd M hp a b
 rw [<-hs] at S1 ⊢
 obtain⟨r,e,ho,σ',rfl,KK,GG⟩:=EvI.while (f:=fun kk st=>QX Qa (gm Qa kk) QS kk Tryz.f75 [1,1,1,0,0] [10,9,3] st)
  (fun m st=>∃ ho h σ' O q,m=k.toNat-O.length/\st=([.slice ho,.ptr (some (σ.objs.length,0)),.int .i64 k],σ')/\Kp σ.objs.length σ σ'/\Grow σ' σ.objs.length ho 2 (pairsL O)/\Sst σ' σ.objs.length σ.objs.length pm h l s w O q /\
   O.length<=k.toNat/\ho.row≠some σ.objs.length/\∀ x,ho.row=some x->h.row≠some x)
  (fun r=>∃ ho σ',r=(QD 0,[(10,.slice ho)],σ')/\Kp σ.objs.length σ σ'/\Grow σ' σ.objs.length ho 2 (pairsL ((rk (dis s 0 (2^w))).take k.toNat)))
  (by
   rintro m st ⟨ho,h,σ2,O,q,rfl,rfl,K2,G2,S2,hO,nb,ap⟩
   have hl:=Zad G2.sl
   have si:=S2.ex
   have tak:O=(rk (dis s 0 (2^w))).take O.length:=by obtain⟨_,_,_,_,si,_⟩:=si; exact si.take
   have osm:O.length<=s.length:=by
    obtain⟨_,_,_,_,si,tot,_⟩:=si
    have:=Zt8 si.opos
    omega
   have p2:σ2.prot<=σ.objs.length:=by rw [K2.prot]; exact hp
   have l2:=K2.len
   by_cases c:(O.length:Int)<k
   ·obtain⟨h3,σ3,cc,mm,f,⟨n2,r2⟩,m3,cs⟩:=Z0c M rfl K2 S2 p2 ssm s0
    have K3:=K2.trans (S2.kpn m3)
    have l3:=m3.len
    have G3:Grow σ3 σ.objs.length ho 2 (pairsL O):=G2.keepX fun x hx=>m3.kp x (G2.row2 x hx).2 (fun e=>nb (e ▸ hx)) (ap x hx)
    obtain⟨σ4,e4,k4,R4⟩:=Zo2 (σ:=σ3) (u:=cc) (v:=mm) (by rw [m3.prot]; omega)
    have f0:=Zd R4 (o:=0) rfl
    have f1:=Zd R4 (o:=1) rfl
    have K4:Kp σ.objs.length σ σ4:=K3.trans (k4.mono (by omega))
    have G4:=G3.kp k4
    have l4:=k4.len
    have cl:(ho.len:Int)<k:=by omega
    rcases cs with ⟨rfl,eO,_⟩ | ⟨rfl,q3,S3⟩
    ·refine .inr ⟨_,⟨n2,fun kk hk=>?_⟩,ho,σ4,rfl,K4,?_⟩
     ·have r2:=r2 kk hk
      simp only at r2
      simp only [Zf0]
      simp only [stp,cl,r2,Qa5,e4]
     ·rw [<-eO,Qo (by omega)]; exact G4
    ·have S4:=S3.kp k4
     have rd2:=Z1a σ4 (.int .i64 cc) (.int .i64 mm) (some 1)
     obtain⟨ho',σ5,e5,k5,G5,fr,hr⟩:=Znt G4 (by rw [K4.prot]; exact hp) K4.len cc mm (by omega)
     have ol:(O++[(cc,mm)]).length=O.length+1:=by simp
     have rl:∀ x,ho.row=some x->x<σ2.objs.length:=fun x hx=>(G2.row2 x hx).2
     have ap3:∀ x,ho.row=some x->h3.row≠some x:=fun x hx e=>by
      rcases m3.row with r | r
      ·exact ap x hx (r ▸ e)
      ·have:=r x e; have:=rl x hx; omega
     refine .inl ⟨k.toNat-(O++[(cc,mm)]).length,_,by omega,⟨n2,fun kk hk=>?_⟩,ho',h3,σ5,O++[(cc,mm)],q3,rfl,rfl,K4.trans k5,G5,S4.keepS fun x hx hbr=>?_,by omega,fun e=>?_,fun x hx e=>?_⟩
     ·have r2:=r2 kk hk
      simp only at r2
      simp only [Zf0]
      simp only [stp,cl,r2,Qa5,e4,f0,f1,rd2,e5]
     ·refine fr x hx fun e=>?_
      rcases hbr with rfl | hbr
      ·exact nb e
      ·exact ap3 x e hbr
     ·rcases hr with r | r
      ·exact nb (r ▸ e)
      ·have:=r _ e; have:=S2.lt; omega
     ·rcases hr with r | r
      ·exact ap3 x (r ▸ hx) e
      ·have:=r x hx; have:=(S4.lt.2.2.2 x e).2; omega
   ·have cl:¬ ((ho.len:Int)<k):=by omega
    refine .inr ⟨_,Ev.of fun kk=>?_,ho,σ2,rfl,K2,?_⟩
    ·simp only [Zf0]
     simp only [stp,cl]
    ·rw [show k.toNat=O.length by omega,<-tak]; exact G2)
  k.toNat _ ⟨Hdl.nil,h0,σ1,[],_,by simp,rfl,K1,Grow.nil _ _ _,S1,by simp,by simp [Hdl.row,QH],fun x hx=>by simp [Hdl.row,QH] at hx⟩
 obtain⟨n2,e⟩:=Zc e
 refine⟨ho,σ',rI Tryz.f75 ⟨n1+n2,fun kk hk=>?_⟩,KK,GG⟩
 have r1:=r1 kk (by omega)
 have e:=e kk (by omega)
 simp only at r1 e
 simp only [Z4u]
 simp only [Qd,r1,AV.asPtr,e]
 rw [Zp8]
end Go.Ab

namespace Go.Ab
open Go Go.Proofs Go.Ab.Wd Go.Ab.Bs Go.Ab.Sai
theorem Zi7(L:List (Int×Int)):pairsL L=(L.map fun p=>[Qbt .i64 p.1,Qbt .i64 p.2]).flatten:=rfl
theorem Znu{σ:Store}{n:Nat}{h:Hdl}{L:List (Int×Int)}(g:Grow σ n h 2 (pairsL L)){m:Nat}(hm:m<=L.length) :
  ∃ h',σ.sub h 2 none (some (m:Int)) none=some h'/\Grow σ n h' 2 (pairsL (L.take m))/\h'.row=h.row:=by
 rw [Zi7] at g
 obtain⟨h',e,g',r⟩:=Zna g (fun x hx=>by obtain⟨y,_,rfl⟩:=Qp.1 hx; rfl) (by omega) (m:=m) (by simpa using hm)
 refine⟨h',e,?_,r⟩
 rw [Zi7,Qa2]; exact g'
end Go.Ab

namespace Go.Ab
open Go Go.Proofs Go.Ab.Wd Go.Ab.Bs Go.Ab.Sai
theorem Z0n{σ:Store}{b es o:Nat}{l:List AV}{x:Ptr}(r:σ.Row b es l)(h:l[o]?=some (.ptr x)):σ.ldPtr (Q8 (some (b,0)) o)=some x:=by
 have:=r.cell (0+o)
 simp only [Q3] at this
 simp only [Qb3,Q8,Q6,Q3,this,h]
structure Lst (σ:Store) (p:Ptr) (l:List Int):Prop where
 ex:∃ (b:Nat) (hd hb:Hdl) (pt:Ptr),p=some (b,0)/\σ.Row b 3 [.slice hd,.slice hb,.ptr pt]/\σ.Ints hd l/\σ.Ints hb (bkIL l)/\Tab σ pt (bkIL l)
 small:l.length<=4194304
theorem Lst.keep{σ σ':Store}{p:Ptr}{l:List Int}(t:Lst σ p l)(k:∀ x:Nat,x<σ.objs.length->σ'.objs[x]?=σ.objs[x]?):Lst σ' p l:=by
 obtain⟨b,hd,hb,pt,e,R,D,B,T⟩:=t.ex
 have kk:∀ {h:Hdl} {L:List AV},σ.Sl h 1 L->σ'.Sl h 1 L:=fun {h L} s=>by
  refine⟨s.len,?_⟩
  rcases s.row with h1 | ⟨b,o,cs,rw,h1,h2,h3⟩
  ·exact .inl h1
  ·exact .inr ⟨b,o,cs,rw,h1,(k b (Qg.1 h2).1).trans h2,h3⟩
 exact⟨⟨b,hd,hb,pt,e,(k b R.lt).trans R,kk D,kk B,T.keep k⟩,t.small⟩
theorem Zsa{σ:Store}{h:Hdl}{l:List Int}(hT:σ.Ints h l)(hp:σ.prot<=σ.objs.length)(hn:l.length<=4194304) :
  ∃ p σ',Runs Qa 69 [.slice h] σ (.tuple [.ptr p,.int .i64 0]) σ'/\Kp σ.objs.length σ σ'/\(∀ σ'':Store,(∀ x,σ.objs.length<=x->x<σ'.objs.length->σ''.objs[x]?=σ'.objs[x]?)->Lst σ'' p l):=by
 obtain⟨h2,σ1,⟨n1,r1⟩,K1,B1,b1_⟩:=Zgy hT hp (by omega)
 have b1:=fun x hx=>(b1_ x hx).1
 have b1l:=fun x hx=>(b1_ x hx).2
 have hp1:σ1.prot<=σ1.objs.length:=by rw [K1.prot]; have:=K1.len; omega
 obtain⟨pt,σ2,⟨n2,r2⟩,K2,T2⟩:=Zk8 B1 hp1 (by rw [Zai]; exact hn)
 have hp2:σ2.prot<=σ2.objs.length:=by rw [K2.prot]; have:=K2.len; omega
 have hT2:σ2.Ints h l:=Store.Sl.kp (Store.Sl.kp hT K1) K2
 obtain⟨h3,σ3,⟨n3,r3⟩,K3,G3⟩:=Zft hT2 hp2 (by omega)
 obtain⟨σ4,h4⟩:∃ s,s=σ3.push [.slice h3,.slice h2,.ptr pt] 3:=⟨_,rfl⟩
 have K4:Kp σ3.objs.length σ3 σ4:=by rw [h4]; exact Kp.push _ _ (Qe _)
 have R4:σ4.Row σ3.objs.length 3 [.slice h3,.slice h2,.ptr pt]:=by rw [h4]; exact Store.Row.new
 have b1lt:∀ x,h2.row=some x->x<σ4.objs.length:=fun x hx=>by
  have:x<σ1.objs.length:=b1l x hx
  have:=K2.len; have:=K3.len; have:=K4.len; omega
 have l1:=K1.len
 have l2:=K2.len
 have l3:=K3.len
 have K24:Kp σ2.objs.length σ2 σ4:=K3.trans (K4.mono l3)
 have D4:Grow σ4 σ2.objs.length h3 1 (intsL l):=Grow.kp G3 K4
 have B4:σ4.Ints h2 (bkIL l):=Store.Sl.kp (Store.Sl.kp B1 K2) K24
 refine⟨some (σ3.objs.length,0),σ4,rI Tryz.f69 ⟨n1+n2+n3,fun k hk=>?_⟩,(K1.trans (K2.mono l1)).trans (K24.mono (by omega)),fun σ'' kq=>⟨⟨σ3.objs.length,h3,h2,pt,rfl,(kq _ (by omega) R4.lt).trans R4,?_,?_,?_⟩,hn⟩⟩
 ·have r1:=r1 k (by omega)
  have r2:=r2 k (by omega)
  have r3:=r3 k (by omega)
  simp only at r1 r2 r3
  simp only [Z4q]
  simp only [stp,r1,r2,r3,<-h4]
 ·exact Zar D4.sl fun x hx=>kq x (by have:=(Zf D4 x hx).1; omega) (Zf D4 x hx).2
 ·exact Zar B4 fun x hx=>kq x (b1 x hx) (b1lt x hx)
 ·exact T2 σ'' fun x hx hx2=>(kq x (by omega) (by have:=K24.len; omega)).trans (K24.keep x hx2)
section
variable {σ:Store} {p:Ptr} {l:List Int}
theorem Z0v(Ls:Lst σ p l)(hp:σ.prot<=σ.objs.length)(a b:Int) :
  ∃ ho σ',Runs Qa 135 [.ptr p,.int .i64 a,.int .i64 b,.int .i64 l.length] σ (.slice ho) σ'/\Kp σ.objs.length σ σ'/\GrowI σ' σ.objs.length ho (dOf [] (seg l a b)):=by
 obtain⟨bb,hd,hb,pt,rfl,R,D,B,T⟩:=Ls.ex
 have sm:=Ls.small
 obtain⟨A,hA⟩:∃ A,A=max a 0:=⟨_,rfl⟩
 obtain⟨E,hE⟩:∃ E:Int,E=min b l.length:=⟨_,rfl⟩
 have ld:=D.ilen
 have lb:=B.ilen
 rw [Zai] at lb
 have mA:mx2 a 0=A:=by rw [Zbx,hA]
 have mE:mn2 b hd.len=E:=by rw [Zbw,hE,ld]
 have A0:0<=A:=by omega
 have En:E<=l.length:=by omega
 have e0:=Zg R (o:=0) rfl
 obtain⟨m,hm⟩:∃ m,m=σ.objs.length:=⟨_,rfl⟩
 obtain⟨todo0,ht0⟩:∃ h:Hdl,h=⟨some (m,0),1,some 1⟩:=⟨_,rfl⟩
 obtain⟨σ1,h1⟩:∃ s,s=σ.push [.int .i64 A,.int .i64 E] 2:=⟨_,rfl⟩
 have K1:Kp m σ σ1:=by rw [h1,hm]; exact Kp.push _ _ (Qe _)
 have R1:σ1.Row m 2 [.int .i64 A,.int .i64 E]:=by rw [h1,hm]; exact Store.Row.new
 have G1:Grow σ1 m todo0 2 (pairsL [(A,E)]):=by
  rw [ht0]
  refine⟨R1.sl (by simp),⟨fun b' o' e=>?_,fun e=>by simp at e⟩⟩
  simp only [Qbm.injEq,Prod.mk.injEq] at e
  obtain⟨rfl,rfl⟩:=e
  exact⟨Nat.le_refl _,_,R1,by simp,fun c hc=>by simp at hc; subst hc; simp⟩
 obtain⟨r,e,out,σ',I,rfl,K,GO,nd,hI⟩:=EvI.while (f:=fun k s=>QX Qa (gm Qa k) QS k Tryz.f135 [1,1,1,1,0,1,0] [10,9,3,1,0] s)
  (fun μ st=>∃ (I:List Int) (S:List (Int×Int)) (todo out:Hdl) (σ':Store),μ=2*(l.length-I.length)+S.length/\st=([.slice todo,.slice out,.int .i64 l.length,.int .i64 A,.ptr (some (bb,0))],σ')/\Kp m σ σ'/\Grow σ' m todo 2 (pairsL S)/\GrowI σ' m out (I.map (rd l))/\SomeI l A E I S/\S.length<=I.length+1/\∀ x,out.row=some x->todo.row≠some x)
  (fun r=>∃ (out:Hdl) (σ':Store) (I:List Int),r=(QD 0,[(9,.slice out)],σ')/\Kp m σ σ'/\GrowI σ' m out (I.map (rd l))/\I.Nodup/\∀ i,fo l A E i ↔ i∈I)
  (by
   rintro μ st ⟨I,S,todo,out,σ',rfl,rfl,K,GT,GO,SI,sl,ap⟩
   have lt:=Zad GT.sl
   have lo:=GO.ints.ilen
   rw [Qj] at lo
   have lens:=SI.len A0 En
   rw [Qc] at lens
   have lm:=K.len
   have pr:σ'.prot<=m:=by rw [K.prot,hm]; exact hp
   by_cases c1:S=[]
   ·subst c1
    have x1:¬ (0:Int)<todo.len:=by rw [lt]; simp
    refine .inr ⟨_,Ev.of fun k=>?_,out,σ',I,rfl,K,GO,SI.done A0 En (.inl rfl)⟩
    simp only [Za6]
    simp only [decide_eq_true_eq,if_neg x1]
   obtain⟨S',⟨u,v⟩,hS⟩:∃ S' s,S=S'++[s]:=⟨S.dropLast,S.getLast c1,(Qaq c1).symm⟩
   subst hS
   rw [Qc,Qr] at lt
   have x1:(0:Int)<todo.len:=by omega
   by_cases c2:l.length<=I.length
   ·have x2:¬ (out.len:Int)<l.length:=by omega
    refine .inr ⟨_,Ev.of fun k=>?_,out,σ',I,rfl,K,GO,SI.done A0 En (.inr c2)⟩
    simp only [Za6]
    simp only [decide_eq_true_eq,if_pos x1,if_neg x2]
   have x2:(out.len:Int)<l.length:=by omega
   have spv:=SI.sp (u,v) (by simp)
   simp only at spv
   rw [Qc,Qr] at sl
   have w1:Qb .i64 ((todo.len:Int)-1)=((S'.length:Nat):Int):=by rw [Za (by omega) (by omega)]; omega
   have x3:(0:Int)<=((S'.length:Nat):Int)/\((S'.length:Nat):Int)<todo.len:=by omega
   obtain⟨d0,d1⟩:=Zea GT.sl (i:=S'.length) (u:=u) (v:=v) (by simp)
   obtain⟨σ2,e2,k2,R2⟩:=Zo2 (σ:=σ') (u:=u) (v:=v) (by omega)
   have f0:=Zd R2 (o:=0) rfl
   have f1:=Zd R2 (o:=1) rfl
   have GT2:=GT.kp k2
   have GO2:=Grow.kp GO k2
   have K2:Kp m σ σ2:=K.trans (k2.mono (by omega))
   obtain⟨todo',e3,GT3,tr⟩:=Znu GT2 (m:=S'.length) (by simp)
   rw [QaN] at GT3
   have k02:Kp σ.objs.length σ σ2:=hm ▸ K2
   have Rc:=R.kp k02 R.lt
   have g1:=Zg Rc (o:=1) rfl
   have g0:=Zg Rc (o:=0) rfl
   have g2:=Z0n Rc (o:=2) rfl
   have D2:σ2.Ints hd l:=Store.Sl.kp D k02
   have B2:σ2.Ints hb (bkIL l):=Store.Sl.kp B k02
   obtain⟨i,⟨n1,r1⟩,hi⟩:=Zi1 (T.kp k02) (x:=u) (y:=v)
   rw [Zai,show max u 0=u by omega,show min v (l.length:Int)=v by omega] at hi
   have ap2:∀ x,out.row=some x->todo'.row≠some x:=fun x hx=>by rw [tr]; exact ap x hx
   have low2:=k2.len
   rcases hi with ⟨q1,rfl⟩ | ⟨q1,q2,q3⟩
   ·have SI':=SI.drop fun i h1 h2=>by omega
    refine .inl ⟨2*(l.length-I.length)+S'.length,_,by rw [Qc,Qr]; omega,⟨n1,fun k hk=>?_⟩,I,S',todo',out,σ2,rfl,rfl,K2,GT3,GO2,SI',by omega,ap2⟩
    have r1:=r1 k hk
    simp only at r1
    simp only [Za6]
    simp only [decide_eq_true_eq,if_pos x1,if_pos x2,w1,if_pos x3,d0,d1,Qd,e2,e3,g2,f0,f1,r1,Qai,if_true,if_pos (show (-1:Int)<0 by omega)]
   ·have x4:¬ i<0:=by omega
    have x5:(0:Int)<=i/\i<hb.len:=by omega
    have x6:(0:Int)<=i/\i<hd.len:=by omega
    obtain⟨j,hj⟩:∃ j:Nat,i=j:=⟨i.toNat,by omega⟩
    have rb:=B2.rd (i:=i) (by omega) (by rw [Zai]; omega)
    have bv:rd (bkIL l) i=bkI l i.toNat:=by rw [hj,Ql]; exact Zmo (by omega)
    rw [bv] at rb
    by_cases c3:A<=bkI l i.toNat
    ·have SI':=SI.drop fun t h1 h2=>fun hf=>by
      have:=q3 t h1 h2
      have e:rd (bkIL l) t=bkI l t.toNat:=by
       have:=Zmo (l:=l) (i:=t.toNat) (by omega)
       rw [show ((t.toNat:Nat):Int)=t by omega] at this; exact this
      rw [bv,e] at this
      have:=hf.2.2
      omega
     refine .inl ⟨2*(l.length-I.length)+S'.length,_,by rw [Qc,Qr]; omega,⟨n1,fun k hk=>?_⟩,I,S',todo',out,σ2,rfl,rfl,K2,GT3,GO2,SI',by omega,ap2⟩
     have r1:=r1 k hk
     simp only at r1
     simp only [Za6]
     simp only [decide_eq_true_eq,if_pos x1,if_pos x2,w1,if_pos x3,d0,d1,Qd,e2,e3,g2,f0,f1,r1,Qai,if_true,if_neg x4,g1,if_pos x5,rb,if_pos c3]
    ·have fi:fo l A E i:=⟨by omega,by omega,by omega⟩
     have SI':=SI.take q1 q2 fi
     have rdd:=D2.rd (i:=i) (by omega) (by omega)
     obtain⟨out',σ3,e4,k3,G3,fr3,hr3⟩:=Grow.app1X GO2 (by rw [K2.prot,hm]; exact hp) (by omega) (v:=.int .i64 (rd l i)) rfl (bs:=8) (by omega) (by rw [intsL_length,Qj]; omega)
     have e5:intsL (I.map (rd l))++[Qbt .i64 (rd l i)]=intsL ((I++[i]).map (rd l)):=by simp [intsL]
     rw [e5] at G3
     have one:out.row≠some σ'.objs.length:=fun e=>by have:=(Zf GO _ e).2; omega
     have R3:σ3.Row σ'.objs.length 2 [.int .i64 u,.int .i64 v]:=(fr3 _ R2.lt one).trans R2
     have h0:=Zd R3 (o:=0) rfl
     have h1:=Zd R3 (o:=1) rfl
     have GT4:Grow σ3 m todo' 2 (pairsL S'):=GT3.keepX fun x hx=>fr3 x (Zf GT3 x hx).2 (fun e=>ap2 x e hx)
     have K3:Kp m σ σ3:=K2.trans k3
     have lm3:=K3.len
     have w2:Qb .i64 (i+1)=i+1:=Za (by omega) (by omega)
     have rdp:Qbz (σ3.push [.int .i64 u,.int .i64 i,.int .i64 (i+1),.int .i64 v] 2) ⟨some (σ3.objs.length,0),2,some 2⟩ 2=some [.int .i64 u,.int .i64 i,.int .i64 (i+1),.int .i64 v]:=
      (Store.Row.new.sl (by rfl)).read
     have GT5:=GT4.kp (Kp.push [.int .i64 u,.int .i64 i,.int .i64 (i+1),.int .i64 v] 2 (Qe _))
     have lt5:=Zad GT4.sl
     obtain⟨todo'',σ4,e6,k4,S4,O4,_,fr4⟩:=Zbg (xs:=[.int .i64 u,.int .i64 i,.int .i64 (i+1),.int .i64 v]) (by_:=16) (m:=2) GT5.sl GT5.own (by show σ3.prot<=m; rw [K3.prot,hm]; exact hp) (by simp; omega) (by omega) (by simp) rfl (by omega) (by omega)
     have e7:pairsL S'++[Qbt .i64 u,.int .i64 i,.int .i64 (i+1),.int .i64 v]=pairsL (S'++[(u,i),(i+1,v)]):=by rw [Zgm]; rfl
     rw [e7] at S4
     have K4:Kp m σ σ4:=(K3.trans (Kp.push _ _ (by omega))).trans k4
     have outlt:∀ x,out'.row=some x->x<σ3.objs.length:=fun x hx=>(Zf G3 x hx).2
     have apo:∀ x,out'.row=some x->todo'.row≠some x:=fun x hx e=>by
      rcases hr3 with r | r
      ·exact ap2 x (r ▸ hx) e
      ·have:=r x hx; have:=(Zf GT3 x e).2; omega
     have GO4:Grow σ4 m out' 1 (intsL ((I++[i]).map (rd l))):=G3.keepX fun x hx=>by
      rw [fr4 x (fun c o e' e2=>apo x hx (by simp [Hdl.row,e',e2])) (by have:=outlt x hx; simp; omega)]
      simp only [Qbs]; rw [Q4 (outlt x hx)]
     have apo2:∀ x,out'.row=some x->todo''.row≠some x:=fun x hx e=>by
      rcases Zh5 e6 with r | r
      ·exact apo x hx (r ▸ e)
      ·rw [r] at e; injection e with e; have:=outlt x hx; simp at e; omega
     refine .inl ⟨2*(l.length-(I++[i]).length)+(S'++[(u,i),(i+1,v)]).length,_,by simp; omega,⟨n1,fun k hk=>?_⟩,I++[i],S'++[(u,i),(i+1,v)],todo'',out',σ4,rfl,rfl,K4,⟨S4,O4⟩,GO4,SI',by simp; omega,apo2⟩
     have r1:=r1 k hk
     simp only at r1
     simp only [Za6]
     simp only [decide_eq_true_eq,if_pos x1,if_pos x2,w1,if_pos x3,d0,d1,Qd,e2,e3,g2,f0,f1,r1,Qai,if_true,if_neg x4,g1,if_pos x5,rb,if_neg c3,g0,if_pos x6,rdd,Zbf,e4,h0,h1,w2,rdp,e6])
  (2*(l.length-0)+1) _ ⟨[],[(A,E)],todo0,QH,σ1,rfl,rfl,K1,G1,Grow.nil _ _ _,SomeI.start l A E,by simp,fun x hx=>by simp [Hdl.row,QH] at hx⟩
 obtain⟨n1,e⟩:=Zc e
 have lI:I.length<=l.length:=by
  have:=Zu (m:=rngN 0 l.length) nd fun x hx=>by
   rw [Zd8]; have:=(hI x).2 hx; unfold fo at this; omega
  have len:∀ (n:Nat) (u:Int),(rngN u n).length=n:=fun n=>by
   induction n with
   | zero=>intro u; rfl
   | succ n ih=>intro u; rw [rngN,Qh,ih]
  rw [len] at this; exact this
 obtain⟨σs,⟨n2,r2⟩,Ks,Gs,_⟩:=Zsj GO (by rw [K.prot,hm]; exact hp) (by rw [Qj]; omega)
 have fin:=Zn0 A0 En nd hI
 have sg:seg l A E=seg l a b:=by
  unfold seg segLo segHi
  rw [show max A 0=max a 0 by omega,show max (max a 0) (min E (l.length:Int))=max (max a 0) (min b l.length) by omega]
 rw [fin,sg] at Gs
 refine⟨out,σs,rI Tryz.f135 ⟨n1+n2,fun k hk=>?_⟩,hm ▸ (K.trans Ks),hm ▸ Gs⟩
 have e:=e k (by omega)
 have r2:=r2 k (by omega)
 simp only at e r2
 simp only [Z13]
 simp only [stp,Qn,e0,mA,mE,<-hm,<-ht0,<-h1,e]
 rw [Zj7]
 simp only [r2,Qd]
theorem Zuu(Ls:Lst σ p l)(hp:σ.prot<=σ.objs.length)(a b:Int) :
  ∃ ho σ',Runs Qa 73 [.ptr p,.int .i64 a,.int .i64 b] σ (.slice ho) σ'/\Kp σ.objs.length σ σ'/\GrowI σ' σ.objs.length ho (dOf [] (seg l a b)):=by
 obtain⟨ho,σ',⟨n1,r1⟩,K,G⟩:=Z0v Ls hp a b
 obtain⟨bb,hd,hb,pt,rfl,R,D,B,T⟩:=Ls.ex
 have e0:=Zg R (o:=0) rfl
 have ld:=D.ilen
 refine⟨ho,σ',rI Tryz.f73 ⟨n1,fun k hk=>?_⟩,K,G⟩
 have r1:=r1 k hk
 simp only at r1
 simp only [Z4s]
 simp only [stp,Qn,e0,ld,r1]
end
end Go.Ab

namespace Go.Ab
open Go Go.Proofs Go.Ab.Wd Go.Ab.Bs Go.Ab.Sai
theorem Store.Sl.keepL{σ σ':Store}{h:Hdl}{es:Nat}{l:List AV}(s:σ.Sl h es l)(k:∀ x:Nat,x<σ.objs.length->σ'.objs[x]?=σ.objs[x]?):σ'.Sl h es l:=by
 refine⟨s.len,?_⟩
 rcases s.row with h1 | ⟨b,o,cs,rw,h1,h2,h3⟩
 ·exact .inl h1
 ·exact .inr ⟨b,o,cs,rw,h1,(k b (Qg.1 h2).1).trans h2,h3⟩
theorem Store.Sl.lo{σ σ':Store}{h:Hdl}{es:Nat}{l:List AV}(s:σ.Sl h es l)(k:∀ x:Nat,h.row=some x->x<σ.objs.length->σ'.objs[x]?=σ.objs[x]?):σ'.Sl h es l:=by
 refine⟨s.len,?_⟩
 rcases s.row with h1 | ⟨b,o,cs,rw,h1,h2,h3⟩
 ·exact .inl h1
 ·exact .inr ⟨b,o,cs,rw,h1,(k b (by simp [Hdl.row,h1]) (Qg.1 h2).1).trans h2,h3⟩
structure Dcs (σ:Store) (h:Hdl) (D:List (List Int)):Prop where
 ex:∃ hs:List Hdl,σ.Sl h 1 (hs.map Qae)/\hs.length=D.length/\∀ (i:Nat) (d:List Int),D[i]?=some d->∃ g,hs[i]?=some g/\Store.Nums .u8 σ g d
theorem Dcs.keep{σ σ':Store}{h:Hdl}{D:List (List Int)}(t:Dcs σ h D)(k:∀ x:Nat,x<σ.objs.length->σ'.objs[x]?=σ.objs[x]?):Dcs σ' h D:=by
 obtain⟨hs,s,l,g⟩:=t.ex
 exact⟨hs,s.keepL k,l,fun i d hi=>by obtain⟨g1,e,n⟩:=g i d hi; exact⟨g1,e,n.keepL k⟩⟩
theorem Dcs.kp{σ σ':Store}{h:Hdl}{D:List (List Int)}(t:Dcs σ h D)(k:Kp σ.objs.length σ σ'):Dcs σ' h D:=t.keep k.keep
theorem Dcs.len{σ:Store}{h:Hdl}{D:List (List Int)}(t:Dcs σ h D):h.len=D.length:=by
 obtain⟨hs,s,l,g⟩:=t.ex
 have:=s.len
 rw [Qj] at this; omega
theorem Dcs.get{σ:Store}{h:Hdl}{D:List (List Int)}(t:Dcs σ h D){i:Nat}{d:List Int}(hi:D[i]?=some d):∃ g,σ.ldSl (h.idx (i:Int) 1)=some g/\Store.Nums .u8 σ g d:=by
 obtain⟨hs,s,l,g⟩:=t.ex
 obtain⟨g1,e,n⟩:=g i d hi
 refine⟨g1,?_,n⟩
 have:σ.cell (h.idx (i:Int) 1)=some (.slice g1):=Store.Sl.at s (by omega) (by rw [Ql,QP,e]; rfl)
 simp only [Qb4,this]
def bts:List (List Int)->Nat
 | []=>0
 | d::r=>d.length+bts r
theorem Zbb:∀ D:List (List Int),tot D=bts D+D.length
 | []=>rfl
 | d::r=>by simp only [tot,bts,Qh,Zbb r]; omega
theorem Zjz(A B:List (List Int)):bts (A++B)=bts A+bts B:=by
 induction A with
 | nil=>simp [bts]
 | cons d A ih=>simp only [QR,bts,ih]; omega
theorem Zae{α:Type}{D:List α}{i:Nat}{d:α}(h:D[i]?=some d):D.take (i+1)=D.take i++[d]:=by
 obtain⟨hl,e⟩:=Qg.1 h
 rw [List.take_add_one,h]; rfl
theorem Zdy{D:List (List Int)}{i:Nat}{d:List Int}(h:D[i]?=some d):bts (D.take (i+1))=bts (D.take i)+d.length/\bts (D.take i)+d.length<=bts D:=by
 have e:bts (D.take (i+1))=bts (D.take i)+d.length:=by rw [Zae h,Zjz]; simp [bts]
 refine⟨e,?_⟩
 rw [<-e]
 have:=Zjz (D.take (i+1)) (D.drop (i+1))
 rw [Qv] at this; omega
def okD(D:List (List Int)):Prop:=D.length<=256/\bts D<=65536
def starts(D:List (List Int)):List Int:=(QN D.length).map fun i=>(tot (D.take i):Int)
theorem Zam(D:List (List Int)):(starts D).length=D.length:=by simp [starts]
theorem Zsm(D:List (List Int))(d:List Int):starts (D++[d])=starts D++[(tot D:Int)]:=by
 unfold starts
 rw [Qc,Qr,QaG,Qs]
 congr 1
 ·refine Q9 fun i hi=>?_
  rw [Qan (by have:=QaO.1 hi; omega)]
 ·simp
structure Txt (σ:Store) (p:Ptr) (D:List (List Int)):Prop where
 ex:∃ (b:Nat) (hd hs:Hdl),p=some (b,0)/\σ.Row b 3 [.slice hd,.slice hs,.int .i64 (tot D)]/\Dcs σ hd D/\σ.Ints hs (starts D)
 ok:okD D
theorem Txt.keep{σ σ':Store}{p:Ptr}{D:List (List Int)}(t:Txt σ p D)(k:∀ x:Nat,x<σ.objs.length->σ'.objs[x]?=σ.objs[x]?):Txt σ' p D:=by
 obtain⟨b,hd,hs,e,R,d,s⟩:=t.ex
 exact⟨⟨b,hd,hs,e,(k b R.lt).trans R,d.keep k,s.keepL k⟩,t.ok⟩
theorem Txt.kp{σ σ':Store}{p:Ptr}{D:List (List Int)}(t:Txt σ p D)(k:Kp σ.objs.length σ σ'):Txt σ' p D:=t.keep k.keep
structure TxI (σ:Store) (n:Nat) (D:List (List Int)) (i:Nat) (s1:Store):Prop where
 kk:Kp n σ s1
 few:bts (D.take i)<=65536
 ex:∃ (hd hs:Hdl) (gs:List Hdl),s1.Row n 3 [.slice hd,.slice hs,.int .i64 (tot (D.take i))]/\Grow s1 (n+1) hd 1 (gs.map Qae)/\Grow s1 (n+1) hs 1 (intsL (starts (D.take i))) /\
  (∀ x,hd.row=some x->hs.row≠some x)/\gs.length=i /\
  ∀ (j:Nat) (d:List Int),j<i->D[j]?=some d->∃ g,gs[j]?=some g/\Store.Nums .u8 s1 g d/\∀ x,g.row=some x->n<x/\x<s1.objs.length/\hd.row≠some x/\hs.row≠some x
theorem Zuj{σ:Store}{h:Hdl}{l:List Int}(s:Store.Nums .u8 σ h l)(hp:σ.prot<=σ.objs.length)(hc:l.length<2^40) :
  ∃ h' σ',Runs Qa 100 [.slice h] σ (.slice h') σ'/\Kp σ.objs.length σ σ'/\GrowN .u8 σ' σ.objs.length h' l:=by
 obtain⟨h',σ',k,g,e⟩:=Zdj (bs:=1) s hp (Znp _ _) (by omega) (by simp; omega)
 exact⟨h',σ',rI Tryz.f100 (Ev.of fun m=>by rw [Z1o]; exact e),k,g⟩
theorem Kp.unq{σ σ':Store}{n m:Nat}(k:Kp n { σ with prot:=m } σ'):Kp n σ { σ' with prot:=σ.prot }:=⟨rfl,k.len,k.keep⟩
theorem Grow.prot{σ:Store}{n:Nat}{h:Hdl}{es m:Nat}{l:List AV}(g:Grow σ n h es l):Grow { σ with prot:=m } n h es l:=g.keep fun _ _ _=>rfl
theorem Store.Sl.prot{σ:Store}{h:Hdl}{es m:Nat}{l:List AV}(s:σ.Sl h es l):Store.Sl { σ with prot:=m } h es l:=s.keep fun _ _ _=>rfl
section
variable {σ:Store} {h:Hdl} {D:List (List Int)}
theorem Zy1(hD:Dcs σ h D)(hp:σ.prot<=σ.objs.length)(hn:D.length<=256){i:Nat}{d:List Int}(hi:D[i]?=some d)(fit:bts (D.take i)+d.length<=65536){s1:Store}(I:TxI σ σ.objs.length D i s1) :
  ∃ s2,Ev (fun k=>QX Qa (gm Qa k) QS k Tryz.f61 [1,1,1,0,1,0] [14,13,12,4] ([.int .i64 i,.int .i64 h.len,.slice h,.ptr (some (σ.objs.length,0))],s1)) (.inl ([.int .i64 (i+1:Nat),.int .i64 h.len,.slice h,.ptr (some (σ.objs.length,0))],s2))/\TxI σ σ.objs.length D (i+1) s2:=by
 obtain⟨n,hn_⟩:∃ n,n=σ.objs.length:=⟨_,rfl⟩
 have K:=I.kk
 obtain⟨hd,hs,gs,R,Gd,Gs,ap,lg,gj⟩:=I.ex
 rw [<-hn_] at K R Gd Gs gj ⊢
 have il:i<D.length:=(Qg.1 hi).1
 have hlen:=hD.len
 have D1:Dcs s1 h D:=hD.kp (hn_ ▸ K)
 obtain⟨g0,e0,N0⟩:=D1.get hi
 have lg0:=Zak N0
 have lm:=K.len
 have Rlt:=R.lt
 have pr:s1.prot<=n:=by rw [K.prot]; omega
 have tb:tot (D.take i)=bts (D.take i)+i:=by rw [Zbb,Qk]; omega
 have r0:=Zg R (o:=0) rfl
 have r1:=Zg R (o:=1) rfl
 have r2:=Zd R (o:=2) rfl
 have ld:=Gd.len
 rw [Qj,lg] at ld
 have ls:=Gs.ints.ilen
 rw [Zam,Qk,Qq (by omega)] at ls
 have w1:Qb .i64 (((tot (D.take i):Nat):Int)-(hd.len:Int))=((bts (D.take i):Nat):Int):=by rw [Za (by omega) (by omega)]; omega
 have w2:Qb .i64 ((65536:Int)-((bts (D.take i):Nat):Int))=((65536-bts (D.take i):Nat):Int):=by have:=I.few; rw [Za (by omega) (by omega)]; omega
 have c1:¬ (((65536-bts (D.take i):Nat):Int)<(g0.len:Int)):=by omega
 obtain⟨hs2,s2,a1,k2,G2,fr2,hr2⟩:=Grow.app1X Gs (by omega) (by omega) (v:=.int .i64 (tot (D.take i))) rfl (bs:=8) (by omega) (by rw [intsL_length,Zam,Qk]; omega)
 have e2:intsL (starts (D.take i))++[Qbt .i64 (tot (D.take i))]=intsL (starts (D.take (i+1))):=by rw [Zae hi,Zsm]; simp [intsL]
 rw [e2] at G2
 have nr:hs.row≠some n:=fun e=>by have:=(Zf Gs _ e).1; omega
 have ndr:hd.row≠some n:=fun e=>by have:=(Zf Gd _ e).1; omega
 have lm2:=k2.len
 have R2:s2.Row n 3 [.slice hd,.slice hs,.int .i64 (tot (D.take i))]:=(fr2 n Rlt nr).trans R
 have pr2:s2.prot<=n:=by rw [k2.prot]; exact pr
 have Gd2:Grow s2 (n+1) hd 1 (gs.map Qae):=Gd.keepX fun x hx=>fr2 x (Zf Gd x hx).2 (fun e=>ap x hx e)
 have ap2:∀ x,hd.row=some x->hs2.row≠some x:=fun x hx e=>by
  rcases hr2 with r | r
  ·rw [r] at e; exact ap x hx e
  ·have:=r x e; have:=(Zf Gd x hx).2; omega
 have t3:=Zw R2 (o:=1) pr2 (by simp) (v:=.slice hs2) rfl
 obtain⟨s3,h3⟩:∃ s,s=s2.setO n (.cells ([Qae hd,.slice hs,.int .i64 (tot (D.take i))].set 1 (.slice hs2)) true 3):=⟨_,rfl⟩
 rw [<-h3] at t3
 have R3:s3.Row n 3 [.slice hd,.slice hs2,.int .i64 (tot (D.take i))]:=by rw [h3]; exact Store.Row.setO_eq R2.lt
 have off3:∀ x,x≠n->s3.objs[x]?=s2.objs[x]?:=fun x hx=>by rw [h3]; show (s2.objs.set n _)[x]?=_; rw [Qm,if_neg (Ne.symm hx)]
 have l3:s3.objs.length=s2.objs.length:=by rw [h3]; simp
 have p3:s3.prot=s2.prot:=by rw [h3]; rfl
 have Gd3:Grow s3 (n+1) hd 1 (gs.map Qae):=Gd2.keepX fun x hx=>off3 x (by have:=(Zf Gd2 x hx).1; omega)
 have Gs3:Grow s3 (n+1) hs2 1 (intsL (starts (D.take (i+1)))):=G2.keepX fun x hx=>off3 x (by have:=(Zf G2 x hx).1; omega)
 have q0:=Zg R3 (o:=0) rfl
 have k13:∀ x,x<n->s3.objs[x]?=s1.objs[x]?:=fun x hx=>(off3 x (by omega)).trans (k2.keep x (by omega))
 have k03:∀ x,x<n->s3.objs[x]?=σ.objs[x]?:=fun x hx=>(k13 x hx).trans (K.keep x hx)
 have D3:Dcs s3 h D:=hD.keep fun x hx=>k03 x (by omega)
 have N3:Store.Nums .u8 s3 g0 d:=by
  obtain⟨hs',S',L',G'⟩:=hD.ex
  obtain⟨g',q1,q2⟩:=G' i d hi
  have q3:Store.Nums .u8 s3 g' d:=Store.Sl.keepL q2 fun x hx=>k03 x (by omega)
  have q4:=S'.keepL (σ':=s1) fun x hx=>K.keep x (by omega)
  have:s1.cell (h.idx (i:Int) 1)=some (.slice g'):=Store.Sl.at q4 (by omega) (by rw [Ql,QP,q1]; rfl)
  simp only [Qb4,this] at e0
  injection e0 with e0; subst e0; exact q3
 obtain⟨gq,s4',⟨n4,r4⟩,k4',G4'⟩:=Zuj (σ:={ s3 with prot:=s3.objs.length }) N3.prot (Qe _) (by omega)
 obtain⟨s4,h4⟩:∃ s,s=({ s4' with prot:=s3.prot }:Store):=⟨_,rfl⟩
 have K4:Kp s3.objs.length s3 s4:=h4 ▸ k4'.unq
 have G4:GrowN .u8 s4 s3.objs.length gq d:=by rw [h4]; exact Grow.prot G4'
 have lm4:=K4.len
 have R4:=R3.kp K4 R3.lt
 have Gd4:=Gd3.kp K4
 have Gs4:=Gs3.kp K4
 have pr4:s4.prot<=n:=by rw [K4.prot,p3]; exact pr2
 obtain⟨hd5,s5,a5,k5,G5,fr5,hr5⟩:=Grow.app1X Gd4 (by omega) (by omega) (v:=.slice gq) rfl (bs:=24) (by omega) (by rw [Qj,lg]; omega)
 have e5:gs.map Qae++[Qae gq]=(gs++[gq]).map Qae:=by simp
 rw [e5] at G5
 have lm5:=k5.len
 have R5:s5.Row n 3 [.slice hd,.slice hs2,.int .i64 (tot (D.take i))]:=(fr5 n R4.lt ndr).trans R4
 have Gs5:Grow s5 (n+1) hs2 1 (intsL (starts (D.take (i+1)))):=Gs4.keepX fun x hx=>fr5 x (Zf Gs4 x hx).2 (fun e=>ap2 x e hx)
 have pr5:s5.prot<=n:=by rw [k5.prot]; exact pr4
 have t6:=Zw R5 (o:=0) pr5 (by simp) (v:=.slice hd5) rfl
 obtain⟨s6,h6⟩:∃ s,s=s5.setO n (.cells ([Qae hd,.slice hs2,.int .i64 (tot (D.take i))].set 0 (.slice hd5)) true 3):=⟨_,rfl⟩
 rw [<-h6] at t6
 have R6:s6.Row n 3 [.slice hd5,.slice hs2,.int .i64 (tot (D.take i))]:=by rw [h6]; exact Store.Row.setO_eq R5.lt
 have off6:∀ x,x≠n->s6.objs[x]?=s5.objs[x]?:=fun x hx=>by rw [h6]; show (s5.objs.set n _)[x]?=_; rw [Qm,if_neg (Ne.symm hx)]
 have l6:s6.objs.length=s5.objs.length:=by rw [h6]; simp
 have p6:s6.prot=s5.prot:=by rw [h6]; rfl
 have q2:=Zd R6 (o:=2) rfl
 have w3:Qb .i64 ((g0.len:Int)+1)=((d.length+1:Nat):Int):=by rw [Za (by omega) (by omega)]; omega
 have tt:tot (D.take (i+1))=tot (D.take i)+(d.length+1):=by rw [Zae hi,Zbr]; simp [tot]
 have w4:Qb .i64 (((tot (D.take i):Nat):Int)+((d.length+1:Nat):Int))=((tot (D.take (i+1)):Nat):Int):=by rw [Za (by omega) (by omega)]; omega
 have t7:=Zw R6 (o:=2) (by rw [p6]; exact pr5) (by simp) (v:=.int .i64 (tot (D.take (i+1)))) rfl
 obtain⟨s7,h7⟩:∃ s,s=s6.setO n (.cells ([Qae hd5,.slice hs2,.int .i64 (tot (D.take i))].set 2 (.int .i64 (tot (D.take (i+1))))) true 3):=⟨_,rfl⟩
 rw [<-h7] at t7
 have R7:s7.Row n 3 [.slice hd5,.slice hs2,.int .i64 (tot (D.take (i+1)))]:=by rw [h7]; exact Store.Row.setO_eq R6.lt
 have off7:∀ x,x≠n->s7.objs[x]?=s5.objs[x]?:=fun x hx=>by rw [h7]; show (s6.objs.set n _)[x]?=_; rw [Qm,if_neg (Ne.symm hx)]; exact off6 x hx
 have l7:s7.objs.length=s5.objs.length:=by rw [h7]; simp [l6]
 have w5:=Zq il (by omega)
 refine⟨s7,⟨n4,fun k hk=>?_⟩,⟨⟨?_,by omega,fun x hx=>?_⟩,by have:=(Zdy hi).1; omega,hd5,hs2,gs++[gq],R7,?_,?_,fun x hx e=>?_,by simp [lg],fun j d' hj hj'=>?_⟩⟩
 ·have r4:=Zsv (r4 k hk)
  rw [<-h4] at r4
  simp only [Ze4]
  simp only [stp,show (i:Int)<h.len by omega,show (0:Int)<=i by omega,e0,r2,r0,w1,w2,c1,r1,Zbf,a1,t3,q0,r4,a5,t6,q2,w3,w4,t7,w5]
 ·rw [h7]; show s6.prot=_; rw [p6,k5.prot,K4.prot,p3,k2.prot,K.prot]
 ·rw [off7 x (by omega),k5.keep x (by omega),K4.keep x (by omega)]; exact k03 x hx
 ·exact G5.keepX fun x hx=>off7 x (by have:=(Zf G5 x hx).1; omega)
 ·exact Gs5.keepX fun x hx=>off7 x (by have:=(Zf Gs5 x hx).1; omega)
 ·rcases hr5 with r | r
  ·rw [r] at hx; exact ap2 x hx e
  ·have:=r x hx; have:=(Zf Gs4 x e).2; omega
 ·have hs_lt:∀ x,hs2.row=some x->x<s2.objs.length:=fun x hx=>(Zf G2 x hx).2
  have hd5_new:∀ x,hd5.row=some x->hd.row=some x\/s4.objs.length<=x:=fun x hx=>by
   rcases hr5 with r | r
   ·exact .inl (r ▸ hx)
   ·exact .inr (r x hx)
  by_cases c:j<i
  ·obtain⟨g,b1,b2,b3⟩:=gj j d' c hj'
   refine⟨g,by rw [Q4 (by omega)]; exact b1,?_,fun x hx=>?_⟩
   ·refine Store.Sl.lo b2 fun x hx hxl=>?_
    obtain⟨b4,b5,b6,b7⟩:=b3 x hx
    rw [off7 x (by omega),fr5 x (by omega) b6,K4.keep x (by omega),off3 x (by omega),fr2 x (by omega) b7]
   ·obtain⟨b4,b5,b6,b7⟩:=b3 x hx
    refine⟨b4,by omega,fun e=>?_,fun e=>?_⟩
    ·rcases hd5_new x e with q | q
     ·exact b6 q
     ·omega
    ·rcases hr2 with r | r
     ·exact b7 (r ▸ e)
     ·have:=r x e; omega
  ·have:j=i:=by omega
   subst this
   rw [hi] at hj'; injection hj' with hj'; subst hj'
   refine⟨gq,by rw [Qaa (by omega),lg]; simp,?_,fun x hx=>?_⟩
   ·refine Store.Sl.lo (Grow.sl G4) fun x hx hxl=>?_
    have:=(Zf G4 x hx).1
    rw [off7 x (by omega),fr5 x (by omega) (fun e=>by have:=(Zf Gd3 x e).2; omega)]
   ·have h1:=Zf G4 x hx
    refine⟨by omega,by omega,fun e=>?_,fun e=>by have:=hs_lt x e; omega⟩
    rcases hd5_new x e with q | q
    ·have:=(Zf Gd3 x q).2; omega
    ·omega
theorem Zss(hD:Dcs σ h D)(hp:σ.prot<=σ.objs.length)(hl:∀ d∈D,d.length<2^40) :
  (okD D/\∃ p σ',Runs Qa 61 [.slice h] σ (.tuple [.ptr p,.int .i64 0]) σ'/\Kp σ.objs.length σ σ'/\p.isNone=false/\∀ σ'':Store,(∀ x,σ.objs.length<=x->x<σ'.objs.length->σ''.objs[x]?=σ'.objs[x]?)->Txt σ'' p D) \/
  (¬ okD D/\∃ σ',Runs Qa 61 [.slice h] σ (.tuple [.ptr none,.int .i64 80]) σ'/\Kp σ.objs.length σ σ'):=by
 have hlen:=hD.len
 by_cases c0:256<D.length
 ·refine .inr ⟨fun h=>by have:=h.1; omega,σ,rI Tryz.f61 (Ev.of fun k=>?_),Kp.refl _ _⟩
  simp only [Zw0]
  simp only [stp,show (256:Int)<h.len by omega]
 obtain⟨n,hn_⟩:∃ n,n=σ.objs.length:=⟨_,rfl⟩
 obtain⟨s0,h0⟩:∃ s,s=σ.push [.slice QH,.slice QH,.int .i64 0] 3:=⟨_,rfl⟩
 have K0:Kp n σ s0:=by rw [h0,hn_]; exact Kp.push _ _ (Qe _)
 have R0:s0.Row n 3 [.slice QH,.slice QH,.int .i64 0]:=by rw [h0,hn_]; exact Store.Row.new
 obtain⟨r,e,hr⟩:=EvI.upX (f:=fun k s=>QX Qa (gm Qa k) QS k Tryz.f61 [1,1,1,0,1,0] [14,13,12,4] s) D.length
  (fun i st=>∃ s1,st=([.int .i64 i,.int .i64 h.len,.slice h,.ptr (some (n,0))],s1)/\TxI σ n D i s1)
  (fun r=>(∃ s1,bts D<=65536/\r=(QD 0,[(4,.ptr (some (n,0)))],s1)/\TxI σ n D D.length s1)\/(∃ s1,¬ bts D<=65536/\r=(Qb0,[(3,.int .i64 80),(2,.ptr none)],s1)/\Kp n σ s1))
  (by
   rintro i st hi ⟨s1,rfl,I⟩
   obtain⟨d,hd⟩:∃ d,D[i]?=some d:=⟨_,Qi hi⟩
   by_cases fit:bts (D.take i)+d.length<=65536
   ·subst hn_
    obtain⟨s2,e,I2⟩:=Zy1 hD hp (by omega) hd fit I
    exact .inl ⟨_,e,s2,rfl,I2⟩
   ·have K:=I.kk
    obtain⟨hd',hs',gs,R,Gd,Gs,ap,lg,gj⟩:=I.ex
    have D1:Dcs s1 h D:=hD.kp (hn_ ▸ K)
    obtain⟨g0,e0,N0⟩:=D1.get hd
    have lg0:=Zak N0
    have r0:=Zg R (o:=0) rfl
    have r2:=Zd R (o:=2) rfl
    have ld:=Gd.len
    rw [Qj,lg] at ld
    have tb:tot (D.take i)=bts (D.take i)+i:=by rw [Zbb,Qk]; omega
    have few:=I.few
    have w1:Qb .i64 (((tot (D.take i):Nat):Int)-(hd'.len:Int))=((bts (D.take i):Nat):Int):=by rw [Za (by omega) (by omega)]; omega
    have w2:Qb .i64 ((65536:Int)-((bts (D.take i):Nat):Int))=((65536-bts (D.take i):Nat):Int):=by rw [Za (by omega) (by omega)]; omega
    have c1:((65536-bts (D.take i):Nat):Int)<(g0.len:Int):=by omega
    refine .inr ⟨_,Ev.of fun k=>?_,.inr ⟨s1,fun hh=>by have:=(Zdy hd).2; omega,rfl,K⟩⟩
    simp only [Ze4]
    simp only [stp,show (i:Int)<h.len by omega,show (0:Int)<=i by omega,e0,r2,r0,w1,w2,c1])
  (by
   rintro st ⟨s1,rfl,I⟩
   refine⟨_,Ev.of fun k=>?_,.inl ⟨s1,by have:=I.few; rw [Qo (Qe _)] at this; exact this,rfl,I⟩⟩
   simp only [Ze4]
   simp only [stp,show ¬ ((D.length:Int)<h.len) by omega])
  (QJ _) (s:=([.int .i64 0,.int .i64 h.len,.slice h,.ptr (some (n,0))],s0))
  ⟨s0,rfl,K0,by simp [bts],QH,QH,[],R0,Grow.nil _ _ _,Grow.nil _ _ _,fun x hx=>by simp [Hdl.row,QH] at hx,rfl,fun j d hj=>by omega⟩
 obtain⟨n1,e⟩:=Zc e
 have fin:∀ {v:AV} {s1:Store},(∀ k,n1<=k->contF Qa (gm Qa k) QS k Tryz.f61 [1,1,1,0,1,0] r=some (v,s1))->Runs Qa 61 [.slice h] σ v s1:=fun {v s1} hc=>by
  refine rI Tryz.f61 ⟨n1,fun k hk=>?_⟩
  have e:=e k hk
  simp only at e
  have hc:=hc k hk
  simp only [Zw0]
  simp only [stp,show ¬ ((256:Int)<h.len) by omega,<-hn_,<-h0,e,hc]
 rcases hr with ⟨s1,ok,rfl,I⟩ | ⟨s1,bad,rfl,K⟩
 ·have K:=I.kk
  obtain⟨hd,hs,gs,R,Gd,Gs,ap,lg,gj⟩:=I.ex
  rw [Qo (Qe _)] at R Gs
  refine .inl ⟨⟨by omega,ok⟩,some (n,0),s1,fin fun k hk=>by rw [Zos],hn_ ▸ K,rfl,fun σ'' kq=>⟨⟨n,hd,hs,rfl,(kq n (by omega) R.lt).trans R,⟨gs,?_,lg,fun j d hj=>?_⟩,?_⟩,⟨by omega,ok⟩⟩⟩
  ·exact Zar Gd.sl fun x hx=>kq x (by have:=(Zf Gd x hx).1; omega) (Zf Gd x hx).2
  ·obtain⟨g,b1,b2,b3⟩:=gj j d (Qg.1 hj).1 hj
   exact⟨g,b1,Zar b2 fun x hx=>kq x (by have:=b3 x hx; omega) (b3 x hx).2.1⟩
  ·exact Zar Gs.sl fun x hx=>kq x (by have:=(Zf Gs x hx).1; omega) (Zf Gs x hx).2
 ·exact .inr ⟨fun h=>bad h.2,s1,fin fun k hk=>by rw [Zor],hn_ ▸ K⟩
end
end Go.Ab

namespace Go.Ab
open Go Go.Proofs Go.Ab.Wd Go.Ab.Bs Go.Ab.Sai
theorem Zla{σ:Store}{g:FuncId}{a c:List AV}{P:Nat->Bool}{n:Nat}(hn:n<2^40)(hP:∀ i,i<n->Runs Qa g (a++[.int .i64 i]++c) σ (.bool (P i)) σ)(mono:∀ i j,i<=j->P i=true->P j=true) :
  ∃ r:Nat,Runs Qa 193 [.int .i64 n,.func g a c] σ (.int .i64 r) σ/\r<=n/\(∀ i,i<r->P i=false)/\(r<n->P r=true):=by
 obtain⟨q,e,r,rfl,h1,h2,h3⟩:=EvI.while (f:=fun k s=>QX Qa (gm Qa k) QS k Tryz.f193 [1,1,0,0] [6,5,1] s)
  (fun m s=>∃ lo hi:Nat,m=hi-lo/\s=([.int .i64 hi,.int .i64 lo,.func g a c],σ)/\lo<=hi/\hi<=n/\(∀ i,i<lo->P i=false)/\(hi<n->P hi=true))
  (fun q=>∃ r:Nat,q=(QD 0,[(5,.int .i64 r)],σ)/\r<=n/\(∀ i,i<r->P i=false)/\(r<n->P r=true))
  (by
   rintro m s ⟨lo,hi,rfl,rfl,h1,h2,h3,h4⟩
   by_cases c1:lo<hi
   ·have c1':(lo:Int)<hi:=by omega
    obtain⟨mid,hm⟩:∃ mid,mid=(lo+hi) / 2:=⟨_,rfl⟩
    have wm:Qb .i64 (shrI .u64 (Qb .u64 (Qb .i64 ((lo:Int)+hi))) 1)=(mid:Int):=by
     rw [Za (x:=(lo:Int)+hi) (by omega) (by omega),Zx (by omega) (by omega)]
     have:shrI .u64 ((lo+hi:Nat):Int) 1=(((lo+hi) / 2:Nat):Int):=Zal (s:=1) (by omega)
     rw [show ((lo:Int)+hi)=((lo+hi:Nat):Int) by omega,this,<-hm,Za (by omega) (by omega)]
    obtain⟨n1,r1⟩:=hP mid (by omega)
    have w1:Qb .i64 ((mid:Int)+1)=((mid+1:Nat):Int):=by rw [Za (by omega) (by omega)]; omega
    cases hb:P mid with
    | true=>
     refine .inl ⟨mid-lo,_,by omega,⟨n1,fun k hk=>?_⟩,lo,mid,rfl,rfl,by omega,by omega,h3,fun _=>hb⟩
     have r1:=r1 k hk
     rw [hb] at r1
     simp only at r1
     simp only [Zfy]
     simp only [stp,c1',wm,r1]
    | false=>
     refine .inl ⟨hi-(mid+1),_,by omega,⟨n1,fun k hk=>?_⟩,mid+1,hi,rfl,rfl,by omega,by omega,fun i hi'=>?_,h4⟩
     ·have r1:=r1 k hk
      rw [hb] at r1
      simp only at r1
      simp only [Zfy]
      simp only [stp,c1',wm,r1,w1]
     ·cases hc:P i with
      | false=>rfl
      | true=>have:=mono i mid (by omega) hc; rw [hb] at this; cases this
   ·have c1':¬ (lo:Int)<hi:=by omega
    have e:lo=hi:=by omega
    subst e
    exact .inr ⟨(QD 0,[(5,.int .i64 lo)],σ),Ev.of fun k=>by simp only [Zfy]; simp only [stp,c1'],lo,rfl,h2,h3,h4⟩)
  n ([.int .i64 n,.int .i64 0,.func g a c],σ) ⟨0,n,by omega,rfl,by omega,Qe _,fun i hi=>by omega,fun h=>by omega⟩
 refine⟨r,rI Tryz.f193 ?_,h1,h2,h3⟩
 exact (Ev.bind (Zc e) (Ev.of fun k=>Zpy (gm Qa k) k σ _)).congr fun k=>by rw [Z2n]
theorem Z0f{σ:Store}{p:Ptr}{B:List Bool}{g:FuncId}{f:Nat->Nat}(v:Vec σ p B)(hf:∀ (σ':Store) (i:Int),Vec σ' p B->Runs Qa g [.ptr p,.int .i64 i] σ' (.int .i64 (f i.toNat)) σ')(f0:f 0=0)(mono:∀ i j,i<=j->f i<=f j)(fb:f B.length<=B.length)(k:Int) :
  ∃ (r:Int) (σ':Store),Runs Qa 222 [.ptr p,.int .i64 k,.int .i64 (f B.length),.func g [.ptr p] []] σ (.int .i64 r) σ'/\Kp σ.objs.length σ σ'/\((0<=k/\k<f B.length)->0<=r/\r<B.length/\(f r.toNat:Int)<=k/\k<f (r.toNat+1))/\(¬ (0<=k/\k<f B.length)->r=-1):=by
 obtain⟨σ1,h1⟩:∃ s,s=(σ.push [.int .i64 k] 1).push [.func g [.ptr p] []] 1:=⟨_,rfl⟩
 have K1:Kp σ.objs.length σ σ1:=by rw [h1]; exact (Kp.push _ _ (Qe _)).push' (by simp)
 have R0:σ1.Row σ.objs.length 1 [.int .i64 k]:=by rw [h1]; exact Store.Row.new.push
 have R1:σ1.Row (σ.objs.length+1) 1 [.func g [.ptr p] []]:=by
  rw [h1]; have:=(Store.Row.new:((σ.push [.int .i64 k] 1).push [.func g [.ptr p] []] 1).Row _ 1 _); simpa using this
 have e0:σ1.ldInt .i64 (some (σ.objs.length,0))=some k:=by simp only [Qb1,R0.cell]; simp
 have e1:σ1.ldFn (some (σ.objs.length+1,0))=some (g,[.ptr p],[]):=by simp only [Store.ldFn,R1.cell]; simp
 have v1:=v.kp K1
 have sm:=v.small
 have lpush:(σ.push [.int .i64 k] 1).objs.length=σ.objs.length+1:=by simp
 by_cases c1:k<0
 ·refine⟨-1,σ1,rI Tryz.f222 (Ev.of fun m=>?_),K1,fun h=>by omega,fun _=>rfl⟩
  simp only [Zl4]
  simp only [stp,<-h1,e0,c1]
 by_cases c2:(f B.length:Int)<=k
 ·refine⟨-1,σ1,rI Tryz.f222 (Ev.of fun m=>?_),K1,fun h=>by omega,fun _=>rfl⟩
  simp only [Zl4]
  simp only [stp,<-h1,e0,c1,c2]
 obtain⟨r,⟨n2,r2⟩,h2,h3,h4⟩:=Zla (σ:=σ1) (g:=239) (a:=[]) (c:=[.ptr (some (σ.objs.length+1,0)),.ptr (some (σ.objs.length,0))]) (P:=fun i=>decide (k<f (i+1))) (n:=B.length) (by omega)
  (fun i hi=>by
   obtain⟨n3,r3⟩:=hf { σ1 with prot:=σ1.objs.length } (i+1:Nat) (v1.keep fun _ _=>rfl)
   rw [Ql] at r3
   have w1:Qb .i64 ((i:Int)+1)=((i+1:Nat):Int):=by rw [Za (by omega) (by omega)]; omega
   refine rI Tryz.f239 ⟨n3,fun m hm=>?_⟩
   have r3:=r3 m hm
   simp only at r3
   have r3:=Zn r3
   show evBody Qa (gm Qa m) QS m Tryz.f239 [.int .i64 i,.ptr (some (σ.objs.length+1,0)),.ptr (some (σ.objs.length,0))] σ1=_
   simp only [Z2z]
   simp only [stp,e1,w1,QR,QA,QF,r3,e0])
  (fun i j hij h=>by have:=mono (i+1) (j+1) (by omega); simp at h ⊢; omega)
 obtain⟨b,hw,ha,ws,ah,rfl,R,_⟩:=v1.ex
 have en:=Zd R (o:=0) rfl
 have hr:r<B.length:=by
  rcases Nat.lt_or_ge r B.length with h | h
  ·exact h
  ·have er:r=B.length:=by omega
   have:0<B.length:=by
    rcases QM B.length with h0 | h0
    ·rw [h0,f0] at c2; omega
    ·exact h0
   have:=h3 (B.length-1) (by omega)
   rw [show B.length-1+1=B.length by omega] at this
   simp at this; omega
 have hk:=h4 hr
 simp only [decide_eq_true_eq] at hk
 have hl:(f r:Int)<=k:=by
  rcases QM r with h0 | h0
  ·rw [h0,f0]; omega
  ·have:=h3 (r-1) (by omega)
   rw [show r-1+1=r by omega] at this
   simp at this; omega
 refine⟨r,σ1,rI Tryz.f222 ⟨n2,fun m hm=>?_⟩,K1,fun _=>⟨by omega,by omega,by simpa using hl,by simpa using hk⟩,fun h=>by omega⟩
 have r2:=r2 m hm
 simp only at r2
 simp only [Zl4]
 simp only [stp,<-h1,e0,c1,c2,en,lpush,r2]
theorem Zcn(B:List Bool){i j:Nat}(h:i<=j):zerosTo B i<=zerosTo B j:=by
 by_cases c:j<=B.length
 ·rw [Zdq,Zdq]; exact Zm9 B false h c
 ·rw [Zli B (i:=j) (by omega)]
  by_cases d:i<=B.length
  ·rw [Zdq,Zdq]; exact Zm9 B false d (Qe _)
  ·rw [Zli B (by omega)]; exact Qe _
theorem Zsi{σ:Store}{p:Ptr}{B:List Bool}(v:Vec σ p B){i:Nat}(hi:i<B.length)(hb:bitAt B i=false) :
  ∃ σ',Runs Qa 186 [.ptr p,.int .i64 (zerosTo B i)] σ (.int .i64 i) σ'/\Kp σ.objs.length σ σ':=by
 obtain⟨n0,r0⟩:=Zih v
 obtain⟨n1,r1⟩:=Zrw v
 have sm:=v.small
 have ol:=Zbp B B.length
 have zz:zerosTo B 0=0:=by simp [zerosTo]
 have zl:zerosTo B B.length<=B.length:=by unfold zerosTo; omega
 obtain⟨r,σ',⟨n2,r2⟩,K,h1,_⟩:=Z0f (g:=224) (f:=zerosTo B) v (fun σ' i v'=>Zdc v' i) zz (fun i j h=>Zcn B h) zl (zerosTo B i:Nat)
 have s1:=Zc2 B i
 rw [if_neg (by simp [hb])] at s1
 have s2:zerosTo B (i+1)=zerosTo B i+1:=by
  have:=Zcb B i
  unfold zerosTo; omega
 have m1:=Zcn B (i:=i+1) (j:=B.length) (by omega)
 obtain⟨g0,g1,g2,g3⟩:=h1 ⟨by omega,by omega⟩
 have e:r=i:=by
  rcases Nat.lt_trichotomy r.toNat i with h | h | h
  ·have:=Zcn B (i:=r.toNat+1) (j:=i) (by omega); omega
  ·omega
  ·have:=Zcn B (i:=i+1) (j:=r.toNat) (by omega); omega
 subst e
 have w1:Qb .i64 ((B.length:Int)-(onesTo B B.length:Nat))=(zerosTo B B.length:Nat):=by unfold zerosTo; rw [Za (by omega) (by omega)]; omega
 refine⟨σ',rI Tryz.f186 ⟨n0+n1+n2,fun m hm=>?_⟩,K⟩
 have r0:=r0 m (by omega)
 have r1:=r1 m (by omega)
 have r2:=r2 m (by omega)
 simp only at r0 r1 r2
 simp only [Z2l]
 simp only [stp,r0,r1,w1,r2]
end Go.Ab

namespace Go.Ab
open Go Go.Proofs Go.Ab.Wd Go.Ab.Bs Go.Ab.Sai
section
variable {σ:Store} {p:Ptr} {D:List (List Int)}
theorem Zv5(T:Txt σ p D):Runs Qa 114 [.ptr p] σ (.int .i64 D.length) σ:=by
 obtain⟨b,hd,hs,rfl,R,Dd,S⟩:=T.ex
 have e0:=Zg R (o:=0) rfl
 have l:=Dd.len
 refine rI Tryz.f114 (Ev.of fun k=>?_)
 simp only [Z1r]
 simp only [stp,Qn,e0,l]
theorem Zn7(T:Txt σ p D):Runs Qa 92 [.ptr p] σ (.int .i64 (tot D)) σ:=by
 obtain⟨b,hd,hs,rfl,R,Dd,S⟩:=T.ex
 have e0:=Zd R (o:=2) rfl
 refine rI Tryz.f92 (Ev.of fun k=>?_)
 simp only [Z4y]
 simp only [stp,Qn,e0]
theorem Zrv(T:Txt σ p D):Runs Qa 64 [.ptr p] σ (.int .i64 (D.length+256:Nat)) σ:=by
 obtain⟨b,hd,hs,rfl,R,Dd,S⟩:=T.ex
 have e0:=Zg R (o:=0) rfl
 have l:=Dd.len
 have:=T.ok.1
 have w:Qb .i64 ((D.length:Int)+256)=((D.length+256:Nat):Int):=by rw [Za (by omega) (by omega)]; omega
 refine rI Tryz.f64 (Ev.of fun k=>?_)
 simp only [Z4n]
 simp only [stp,Qn,e0,l,w]
theorem Zn8{h:Hdl}{q:List Int}(T:Txt σ p D)(hp:σ.prot<=σ.objs.length)(N:Store.Nums .u8 σ h q)(hn:q.length<2^40)(hb:∀ x∈q,0<=x/\x<256) :
  ∃ ho σ',Runs Qa 83 [.ptr p,.slice h] σ (.slice ho) σ'/\Kp σ.objs.length σ σ'/\GrowI σ' σ.objs.length ho (q.map fun b=>(D.length:Int)+b):=by
 have lq:=Zak N
 obtain⟨n,hn_⟩:∃ n,n=σ.objs.length:=⟨_,rfl⟩
 obtain⟨bb,hd0,hs0,e0,_⟩:=T.ex
 subst e0
 have d256:=T.ok.1
 obtain⟨r,e,ho,σ',rfl,K,G⟩:=EvI.up (f:=fun k s=>QX Qa (gm Qa k) QS k Tryz.f83 [1,1,1,0,1,0] [12,11,10,5,0] s) q.length
  (fun i st=>∃ ho s1,st=([.int .i64 i,.int .i64 h.len,.slice h,.slice ho,.ptr (some (bb,0))],s1)/\Kp n σ s1/\GrowI s1 n ho ((q.take i).map fun b=>(D.length:Int)+b))
  (fun r=>∃ ho s1,r=(QD 0,[(5,.slice ho)],s1)/\Kp n σ s1/\GrowI s1 n ho (q.map fun b=>(D.length:Int)+b))
  (by
   rintro i st hi ⟨ho,s1,rfl,K,G⟩
   have lm:=K.len
   have T1:=T.kp (hn_ ▸ K)
   obtain⟨b1,hd,hs,eb,R,Dd,S⟩:=T1.ex
   have r0:=Zg R (o:=0) rfl
   rw [<-eb] at r0
   have ld:=Dd.len
   have N1:Store.Nums .u8 s1 h q:=Store.Sl.kp N (hn_ ▸ K)
   have rx:=Zdt N1 (i:=(i:Int)) (by omega) (by omega)
   have bx:=hb _ (Ze (l:=q) (i:=(i:Int)) (by omega) (by omega))
   have w1:Qb .i64 (rd q (i:Nat))=rd q (i:Nat):=Za (by omega) (by omega)
   have w2:Qb .i64 ((hd.len:Int)+rd q (i:Nat))=(D.length:Int)+rd q (i:Nat):=by rw [Za (by omega) (by omega)]; omega
   obtain⟨h2,s2,a2,k2,G2⟩:=G.app (by rw [K.prot,hn_]; exact hp) (by omega) ((D.length:Int)+rd q (i:Nat)) (by simp; omega)
   have w3:=Zq hi (by omega)
   refine⟨_,Ev.of fun k=>?_,h2,s2,rfl,K.trans k2,?_⟩
   ·simp only [Zir]
    simp only [stp,show (i:Int)<h.len by omega,show (0:Int)<=i by omega,rx,r0,w1,w2,Zbf,a2,w3]
   ·rw [Zj hi,Qs]; exact G2)
  (by
   rintro st ⟨ho,s1,rfl,K,G⟩
   rw [Qo (Qe _)] at G
   refine⟨_,Ev.of fun k=>?_,ho,s1,rfl,K,G⟩
   simp only [Zir]
   simp only [stp,show ¬ ((q.length:Int)<h.len) by omega])
  (s:=([.int .i64 0,.int .i64 h.len,.slice h,.slice QH,.ptr (some (bb,0))],σ)) ⟨Hdl.nil,σ,rfl,Kp.refl _ _,Grow.nil _ _ _⟩
 obtain⟨n1,e⟩:=Zc e
 refine⟨ho,σ',rI Tryz.f83 ⟨n1,fun k hk=>?_⟩,hn_ ▸ K,hn_ ▸ G⟩
 have e:=e k hk
 simp only at e
 simp only [Z4x]
 simp only [stp,Qn,e]
 rw [Zot]
def Byts(D:List (List Int)):Prop:=∀ d∈D,∀ x∈d,(0:Int)<=x/\x<256
theorem GrowI.appL{σ:Store}{n:Nat}{h:Hdl}{l xs:List Int}(g:GrowI σ n h l)(hp:σ.prot<=n)(hn:n<=σ.objs.length)(hc:l.length+xs.length<2^42) :
  ∃ h' σ',Qbx σ h 1 8 (intsL xs) xs.length=some (h',σ')/\Kp n σ σ'/\GrowI σ' n h' (l++xs):=by
 have hl:=g.ints.ilen
 obtain⟨h',σ',e,k,s,o,_⟩:=Zbg (xs:=intsL xs) (by_:=8) (m:=xs.length) (Grow.sl g) g.own hp hn (by omega) (by simp) (Zhi _) (by omega) (by omega)
 exact⟨h',σ',e,k,⟨by rw [Zd5]; exact s,o⟩⟩
theorem Zy3(T:Txt σ p D)(hp:σ.prot<=σ.objs.length)(hb:Byts D) :
  ∃ ho σ',Runs Qa 62 [.ptr p] σ (.slice ho) σ'/\Kp σ.objs.length σ σ'/\GrowI σ' σ.objs.length ho (syms D):=by
 obtain⟨n,hn_⟩:∃ n,n=σ.objs.length:=⟨_,rfl⟩
 obtain⟨bb,hd0,hs0,e0,_⟩:=T.ex
 subst e0
 have ok:=T.ok
 obtain⟨n0,r0⟩:=Zv5 T
 have snoc:∀ (i:Nat) (d:List Int),D[i]?=some d->symF D.length 0 (D.take (i+1))=symF D.length 0 (D.take i)++d.map (fun b=>(D.length:Int)+b)++[(i:Int)]:=fun i d h=>by
  have il:=(Qg.1 h).1
  rw [Zae h,Zfb,Qk,Qq (by omega),QaA]
  simp [symF]
 obtain⟨r,e,ho,σ',rfl,K,G⟩:=EvI.up (f:=fun k s=>QX Qa (gm Qa k) QS k Tryz.f62 [1,1,0,1,0] [7,6,3,0] s) D.length
  (fun i st=>∃ ho s1,st=([.int .i64 i,.int .i64 D.length,.slice ho,.ptr (some (bb,0))],s1)/\Kp n σ s1/\GrowI s1 n ho (symF D.length 0 (D.take i)))
  (fun r=>∃ ho s1,r=(QD 0,[(3,.slice ho)],s1)/\Kp n σ s1/\GrowI s1 n ho (syms D))
  (by
   rintro i st hi ⟨ho,s1,rfl,K,G⟩
   obtain⟨d,hd⟩:∃ d,D[i]?=some d:=⟨_,Qi hi⟩
   have dm:d∈D:=QaK hd
   have lm:=K.len
   have T1:=T.kp (hn_ ▸ K)
   obtain⟨b1,hdd,hs,eb,R,Dd,S⟩:=T1.ex
   have f0:=Zg R (o:=0) rfl
   rw [<-eb] at f0
   have ld:=Dd.len
   obtain⟨g0,e0,N0⟩:=Dd.get hd
   have bt:=(Zdy hd).2
   have p1:s1.prot<=n:=by rw [K.prot,hn_]; exact hp
   obtain⟨h2,s2,⟨n2,r2⟩,k2,G2⟩:=Zn8 T1 (by omega) N0 (by have:=ok.2; omega) (hb d dm)
   have lm2:=k2.len
   have Gs:=G.kp k2
   have l2:=G2.ints.ilen
   rw [Qj] at l2
   have rd2:s2.readSl h2 1=some (intsL (d.map fun b=>(D.length:Int)+b)):=(Grow.sl G2).read
   have st:tot (D.take i)+tot (D.drop i)=tot D:=by rw [<-Zbr,Qv]
   have sd:tot (D.take (i+1))=tot (D.take i)+(d.length+1):=by rw [Zae hd,Zbr]; simp [tot]
   have st2:tot (D.take (i+1))+tot (D.drop (i+1))=tot D:=by rw [<-Zbr,Qv]
   have tb:=Zbb D
   obtain⟨h3,s3,a3,k3,G3⟩:=GrowI.appL (xs:=d.map fun b=>(D.length:Int)+b) Gs (by rw [k2.prot]; exact p1) (by omega) (by rw [Zc3,Qj]; have:=ok.2; have:=ok.1; omega)
   rw [Qj] at a3
   have lm3:=k3.len
   obtain⟨h4,s4,a4,k4,G4⟩:=G3.app (by rw [k3.prot,k2.prot]; exact p1) (by omega) (i:Int) (by rw [Qc,Zc3,Qj]; have:=ok.2; have:=ok.1; omega)
   have w3:=Zq hi (by have:=ok.1; omega)
   have i0:(i:Int)<D.length:=by omega
   refine⟨_,⟨n2,fun k hk=>?_⟩,h4,s4,rfl,((K.then k2 (by omega)).trans k3).trans k4,?_⟩
   ·have r2:=r2 k hk
    simp only at r2
    simp only [Zkd]
    simp only [stp,i0,show (i:Int)<hdd.len by omega,show (0:Int)<=i by omega,f0,e0,r2,rd2,l2,a3,Zbf,a4,w3]
   ·rw [snoc i d hd]; exact G4)
  (by
   rintro st ⟨ho,s1,rfl,K,G⟩
   rw [Qo (Qe _)] at G
   refine⟨_,Ev.of fun k=>?_,ho,s1,rfl,K,G⟩
   simp only [Zkd]
   simp only [stp,Qa3])
  (s:=([.int .i64 0,.int .i64 D.length,.slice QH,.ptr (some (bb,0))],σ)) ⟨Hdl.nil,σ,rfl,Kp.refl _ _,Grow.nil _ _ _⟩
 obtain⟨n1,e⟩:=Zc e
 refine⟨ho,σ',rI Tryz.f62 ⟨n0+n1,fun k hk=>?_⟩,hn_ ▸ K,hn_ ▸ G⟩
 have e:=e k (by omega)
 have r0:=r0 k (by omega)
 simp only at e r0
 simp only [Z4m]
 simp only [stp,r0,e]
 rw [Zp6]
theorem Zsz:∀ (D:List (List Int)) (i:Int) (j:Nat) (d:List Int) (x:Int),D[j]?=some d->(tot (D.take j):Int)<=x->x<=tot (D.take j)+d.length->docF i D x=(i+j,x-tot (D.take j))
 | [],i,j,d,x,h,_,_=>by simp at h
 | e::r,i,0,d,x,h,h1,h2=>by
  simp at h; subst h
  simp only [Qay,tot] at h1 h2 ⊢
  simp only [docF]
  rw [if_pos (by omega)]
  congr 1 <;> omega
 | e::r,i,j+1,d,x,h,h1,h2=>by
  simp only [QaP,tot] at h1 h2 ⊢
  simp only [docF]
  rw [if_neg (by omega),Zsz r (i+1) j d (x-(e.length+1)) (by simpa using h) (by omega) (by omega)]
  congr 1 <;> omega
theorem Zny{D:List (List Int)}{i:Nat}(h:i<D.length):rd (starts D) i=(tot (D.take i):Int):=by
 rw [Zb (by rw [Zam]; exact h)]
 simp [starts]
theorem Zoz(D:List (List Int)){i j:Nat}(h:i<=j):tot (D.take i)<=tot (D.take j):=by
 have:D.take j=D.take i++(D.drop i).take (j-i):=by rw [<-List.take_add]; congr 1; omega
 rw [this,Zbr]; omega
theorem Zn6(T:Txt σ p D)(hp:σ.prot<=σ.objs.length){x:Int}(x0:0<=x)(x1:x<tot D) :
  ∃ σ',Runs Qa 77 [.ptr p,.int .i64 x] σ (.tuple [.int .i64 (docF 0 D x).1,.int .i64 (docF 0 D x).2]) σ'/\Kp σ.objs.length σ σ':=by
 obtain⟨n1,r1⟩:=Zn7 T
 obtain⟨b,hd,hs,rfl,R,Dd,S⟩:=T.ex
 have ok:=T.ok
 have tb:=Zbb D
 have ls:=S.ilen
 rw [Zam] at ls
 have e1:=Zg R (o:=1) rfl
 have w1:Qb .i64 (x+1)=x+1:=Za (by omega) (by have:=ok.1; have:=ok.2; omega)
 obtain⟨s2,h2⟩:∃ s,s=(σ.push [.slice hs] 1).push [.int .i64 (x+1)] 1:=⟨_,rfl⟩
 have k2:Kp σ.objs.length σ s2:=by rw [h2]; exact (Kp.push _ _ (Qe _)).push' (by simp)
 have len1:(σ.push [Qae hs] 1).objs.length=σ.objs.length+1:=by simp
 have R1:s2.Row σ.objs.length 1 [.slice hs]:=by rw [h2]; exact Store.Row.push Store.Row.new
 have R2:s2.Row (σ.objs.length+1) 1 [.int .i64 (x+1)]:=by rw [h2,<-len1]; exact Store.Row.new
 have S2:s2.Ints hs (starts D):=Store.Sl.kp S k2
 have c0:s2.ldSl (some (σ.objs.length,0))=some hs:=by
  have:=Zg R1 (o:=0) rfl
  simpa [Q8] using this
 have c1:s2.ldInt .i64 (some (σ.objs.length+1,0))=some (x+1):=by
  have:=Zd R2 (o:=0) rfl
  simpa [Q8] using this
 obtain⟨P,hP⟩:∃ P:Nat->Bool,P=fun i=>decide (D.length<=i) || decide (x+1<=(tot (D.take i):Int)):=⟨_,rfl⟩
 obtain⟨r,⟨n3,r3⟩,hr,lo,hi⟩:=Zla (σ:=s2) (g:=194) (a:=[]) (c:=[.ptr (some (σ.objs.length,0)),.ptr (some (σ.objs.length+1,0))]) (P:=P) (n:=D.length) (by have:=ok.1; omega)
  (fun i hi=>by
   refine rI Tryz.f194 (Ev.of fun k=>?_)
   have rx:=S2.rd (i:=(i:Int)) (by omega) (by rw [Zam]; omega)
   rw [Zny hi] at rx
   have rl:(0:Int)<=(i:Int)/\(i:Int)<hs.len:=by omega
   have ep:P i=decide (x+1<=(tot (D.take i):Int)):=by rw [hP]; simp only [show ¬ D.length<=i by omega,decide_false,Qbw]
   simp only [QA,QR,Z2o]
   rw [ep]
   simp only [Qd,c0,if_pos rl,rx,c1])
  (fun i j hij h=>by
   rw [hP] at h ⊢
   simp only [QaF,decide_eq_true_eq] at h ⊢
   have:=Zoz D hij
   omega)
 have dpos:0<D.length:=by
  cases D with
  | nil=>simp [tot] at x1; omega
  | cons=>simp
 have rpos:0<r:=by
  rcases QM r with h | h
  ·exfalso
   subst h
   have:=hi (by omega)
   rw [hP] at this
   simp only [Qay,tot,QaF,decide_eq_true_eq] at this
   omega
  ·exact h
 obtain⟨d,hd'⟩:∃ d,D[r-1]?=some d:=⟨_,Qi (by omega)⟩
 have q1:(tot (D.take (r-1)):Int)<=x:=by
  have:=lo (r-1) (by omega)
  rw [hP] at this
  simp only [Bool.or_eq_false_iff,decide_eq_false_iff_not] at this; omega
 have q2:x<=tot (D.take (r-1))+d.length:=by
  have sd:tot (D.take (r-1+1))=tot (D.take (r-1))+(d.length+1):=by rw [Zae hd',Zbr]; simp [tot]
  rw [show r-1+1=r by omega] at sd
  by_cases c:r<D.length
  ·have:=hi c
   rw [hP] at this
   simp only [show ¬ D.length<=r by omega,decide_false,Qbw,decide_eq_true_eq] at this
   omega
  ·rw [Qo (by omega)] at sd; omega
 have fin:=Zsz D 0 (r-1) d x hd' q1 q2
 rw [QaA] at fin
 have w3:Qb .i64 ((r:Int)-1)=((r-1:Nat):Int):=by have:=ok.1; rw [Za (by omega) (by omega)]; omega
 have w4:Qb .i64 (x-(tot (D.take (r-1)):Int))=x-(tot (D.take (r-1)):Int):=Za (by omega) (by have:=ok.1; have:=ok.2; omega)
 have f1:=Zg (R.kp k2 R.lt) (o:=1) rfl
 have rx:=S2.rd (i:=((r-1:Nat):Int)) (by omega) (by rw [Zam]; omega)
 have rx2:s2.ldInt .i64 (Qby hs ((r-1:Nat):Int) 1)=some (tot (D.take (r-1)):Int):=by
  rw [rx,Zny (D:=D) (i:=r-1) (by omega)]
 have S1:Runs Qa 142 [.slice hs,.int .i64 (x+1)] σ (.int .i64 r) s2:=by
  refine rI Tryz.f142 ⟨n3,fun k hk=>?_⟩
  have r3:=r3 k hk
  simp only at r3
  simp only [Z17]
  simp only [stp,<-h2,c0,ls,len1,r3]
 obtain⟨n4,r4⟩:=S1
 refine⟨s2,rI Tryz.f77 ⟨n1+n4,fun k hk=>?_⟩,k2⟩
 have r1:=r1 k (by omega)
 have r4:=r4 k (by omega)
 simp only at r1 r4
 rw [fin]
 simp only [Z4v]
 simp only [stp,show ¬ (x<0) by omega,r1,show ¬ ((tot D:Nat):Int)<=x by omega,e1,w1,r4,f1,w3,show (0:Int)<=((r-1:Nat):Int) by omega,show ((r-1:Nat):Int)<hs.len by omega,rx2,w4]
def daOf(D:List (List Int))(sa:List Int):List Int:=sa.map fun x=>(docF 0 D x).1
theorem Zr2{h:Hdl}{sa:List Int}(T:Txt σ p D)(hp:σ.prot<=σ.objs.length)(S:σ.Ints h sa)(perm:IsPerm (tot D) sa) :
  ∃ ho σ',Runs Qa 65 [.ptr p,.slice h] σ (.tuple [.slice ho,.int .i64 0]) σ'/\Kp σ.objs.length σ σ'/\σ'.Ints ho (daOf D sa)/\σ'.Has ho:=by
 have ok:=T.ok
 have tb:=Zbb D
 have ls:=S.ilen
 have lsa:=perm.len
 obtain⟨h1,s1,⟨n1,r1⟩,k1,S1,H1⟩:=Zjw S hp (by have:=ok.1; have:=ok.2; omega)
 have pb:permB sa=true:=by
  unfold permB
  rw [Q7,Qbj,decide_eq_true_eq]
  refine⟨fun x hx=>?_,perm.nd⟩
  have:=perm.rng x hx
  rw [Q7,decide_eq_true_eq,decide_eq_true_eq]; omega
 rw [if_pos pb] at r1
 have T1:=T.kp k1
 obtain⟨n2,r2⟩:=Zn7 T1
 obtain⟨bb,hd0,hs0,e0,_⟩:=T.ex
 subst e0
 have lm1:=k1.len
 obtain⟨m,hm⟩:∃ m,m=s1.objs.length:=⟨_,rfl⟩
 obtain⟨s2,h2⟩:∃ s,s=s1.push (mkCells [.int .i64 0] h.len) 1:=⟨_,rfl⟩
 have k2:Kp m s1 s2:=by rw [h2,hm]; exact Kp.push _ _ (Qe _)
 obtain⟨ho,hho⟩:∃ h':Hdl,h'=⟨some (m,0),h.len,some h.len⟩:=⟨_,rfl⟩
 have p1:s1.prot<=σ.objs.length:=by rw [k1.prot]; exact hp
 have set_da:∀ i,i<sa.length->(daOf D (sa.take i)++Qf (sa.length-i) 0).set i (docF 0 D (rd sa (i:Nat))).1=daOf D (sa.take (i+1))++Qf (sa.length-(i+1)) 0:=fun i hi=>by
  have e:sa.length-i=(sa.length-(i+1))+1:=by omega
  have l1:(daOf D (sa.take i)).length=i:=by simp [daOf]; omega
  rw [Qbn,if_neg (by omega),e,Qar,l1,Qau,Qax,Zj hi]
  simp [daOf]
 obtain⟨r,e,σ',rfl,K,R⟩:=EvI.up (f:=fun k s=>QX Qa (gm Qa k) QS k Tryz.f65 [1,1,1,1,0,1,0] [32,31,30,8,0] s) sa.length
  (fun i st=>∃ s3,st=([.int .i64 i,.int .i64 h.len,.slice h,.slice ho,.ptr (some (bb,0))],s3)/\Kp m s1 s3/\s3.Row m 1 (intsL (daOf D (sa.take i)++Qf (sa.length-i) 0)))
  (fun r=>∃ s3,r=(QD 0,[(8,.slice ho)],s3)/\Kp m s1 s3/\s3.Row m 1 (intsL (daOf D sa)))
  (by
   rintro i st hi ⟨s3,rfl,K,R⟩
   have T3:=T1.kp (hm ▸ K)
   have S3:s3.Ints h sa:=Store.Sl.kp (Store.Sl.kp S k1) (hm ▸ K)
   have rx:=S3.rd (i:=(i:Int)) (by omega) (by omega)
   have rr:=perm.rng _ (Ze (l:=sa) (i:=(i:Int)) (by omega) (by omega))
   have lm3:=K.len
   have p3:s3.prot<=σ.objs.length:=by rw [K.prot]; exact p1
   obtain⟨s4,⟨n4,r4⟩,k4⟩:=Zn6 T3 (by omega) rr.1 rr.2
   have R4:=R.kp k4 R.lt
   have lr:(daOf D (sa.take i)++Qf (sa.length-i) 0).length=sa.length:=by simp [daOf]; omega
   have st:=Zfq R4 (by rw [k4.prot]; omega) (i:=(i:Int)) (by omega) (by rw [intsL_length,lr]; omega) (v:=.int .i64 (docF 0 D (rd sa (i:Nat))).1) rfl (len:=h.len) (cp:=some h.len)
   rw [<-hho,Ql,Zdn,set_da i hi] at st
   have w:=Zq hi (by have:=ok.1; have:=ok.2; omega)
   refine⟨_,⟨n4,fun k hk=>?_⟩,_,rfl,(K.then k4 (by omega)).setO (Qe _),Store.Row.setO_eq R4.lt⟩
   have r4:=r4 k hk
   simp only at r4
   have iho:(i:Int)<ho.len:=by rw [hho]; simp only; omega
   simp only [Zg7]
   simp only [stp,show (i:Int)<h.len by omega,show (0:Int)<=i by omega,rx,r4,iho,st,w])
  (by
   rintro st ⟨s3,rfl,K,R⟩
   rw [Qau,QaS,QF,Qo (Qe _)] at R
   refine⟨_,Ev.of fun k=>?_,s3,rfl,K,R⟩
   simp only [Zg7]
   simp only [stp,show ¬ ((sa.length:Int)<h.len) by omega])
  (s:=([.int .i64 0,.int .i64 h.len,.slice h,.slice ho,.ptr (some (bb,0))],s2))
  ⟨s2,rfl,k2,by
   have:=(Store.Row.new:(s1.push (mkCells [.int .i64 0] h.len) 1).Row s1.objs.length 1 _)
   rw [Zac,ls] at this
   rw [h2,hm,Zac,ls]
   simpa [daOf] using this⟩
 obtain⟨n3,e⟩:=Zc e
 have c1:((0:Int)<=h.len/\(h.len:Int)<=h.len)/\(h.len:Int)*((8:Nat):Int)<=281474976710656:=by have:=ok.1; have:=ok.2; omega
 refine⟨ho,σ',rI Tryz.f65 ⟨n1+n2+n3,fun k hk=>?_⟩,k1.trans (K.mono (by omega)),?_,fun x hx=>?_⟩
 ·have r1:=r1 k (by omega)
  have r2:=r2 k (by omega)
  have e:=e k (by omega)
  simp only at r1 r2 e
  have c2:((h.len:Nat):Int)=(tot D:Nat):=by omega
  simp only [Z4o]
  simp only [stp,Qn,r1,r2,c2,if_pos (c2 ▸ c1),Ql]
  rw [show tot D=h.len by omega,<-hm,<-hho,<-h2]
  simp only [e,Qd]
  rw [Zl7]
 ·rw [hho]
  exact R.sl (by simp [daOf]; omega)
 ·rw [hho] at hx
  simp [Hdl.row] at hx
  have:=R.lt; omega
end
end Go.Ab

namespace Go.Ab
open Go Go.Proofs Go.Ab.Wd Go.Ab.Bs Go.Ab.Sai
theorem Znk{σ:Store}{h h':Hdl}{t sa:List Int}{a b:Nat}(e1:σ.ldSl (some (a,0))=some h)(e2:σ.ldSl (some (b,0))=some h')(T:σ.Ints h t)(A:σ.Ints h' (inv sa))(hl:sa.length=t.length){x:Int}(x0:0<=x)(x1:x<=t.length) :
  Runs Qa 175 [.int .i64 x,.ptr (some (a,0)),.ptr (some (b,0))] σ (.int .i64 (rk9 t sa x)) σ:=by
 have lt:=T.ilen
 have la:=A.ilen
 rw [Za3] at la
 refine rI Tryz.f175 (Ev.of fun k=>?_)
 simp only [Z2d]
 unfold rk9
 by_cases c:x=t.length
 ·simp only [stp,e1,lt,c]
 ·have rx:=A.rd x0 (by rw [Za3]; omega)
  simp only [stp,e1,lt,c,e2,x0,show x<(h'.len:Int) by omega,rx]
theorem Zvy{σ:Store}{h h' hv:Hdl}{t:List Int}(T:σ.Ints h t)(S:σ.Ints h' (saOf t))(A:σ.Ints hv (inv (saOf t)))(hn:t.length<=2^44) :
  ∃ σ',Runs Qa 119 [.slice h,.slice h',.slice hv] σ (.bool true) σ'/\Kp σ.objs.length σ σ':=by
 have SA:=Zi t
 have ls:=SA.perm.len
 have lh:=T.ilen
 have lS:=S.ilen
 obtain⟨s2,h2⟩:∃ s,s=(σ.push [.slice h] 1).push [.slice hv] 1:=⟨_,rfl⟩
 have k2:Kp σ.objs.length σ s2:=by rw [h2]; exact (Kp.push _ _ (Qe _)).push' (by simp)
 have len1:(σ.push [Qae h] 1).objs.length=σ.objs.length+1:=by simp
 have R1:s2.Row σ.objs.length 1 [.slice h]:=by rw [h2]; exact Store.Row.push Store.Row.new
 have R2:s2.Row (σ.objs.length+1) 1 [.slice hv]:=by rw [h2,<-len1]; exact Store.Row.new
 have c0:s2.ldSl (some (σ.objs.length,0))=some h:=by
  have:=Zg R1 (o:=0) rfl
  simpa [Q8] using this
 have c1:s2.ldSl (some (σ.objs.length+1,0))=some hv:=by
  have:=Zg R2 (o:=0) rfl
  simpa [Q8] using this
 have T2:s2.Ints h t:=Store.Sl.kp T k2
 have S2:s2.Ints h' (saOf t):=Store.Sl.kp S k2
 have A2:s2.Ints hv (inv (saOf t)):=Store.Sl.kp A k2
 obtain⟨r,e,rfl⟩:=EvI.while (f:=fun k s=>QX Qa (gm Qa k) QS k Tryz.f119 [1,1,0,1,0] [8,7,3,1] s)
  (fun m st=>∃ i:Nat,m=t.length+1-i/\1<=i/\st=([.int .i64 i,.func 175 [] [.ptr (some (σ.objs.length,0)),.ptr (some (σ.objs.length+1,0))],.ptr (some (σ.objs.length,0)),.slice h'],s2))
  (fun r=>r=(QD 0,[],s2))
  (by
   rintro m st ⟨i,rfl,i1,rfl⟩
   by_cases c:i<t.length
   ·have w1:Qb .i64 ((i:Int)-1)=(i:Int)-1:=Za (by omega) (by omega)
    have ra:=S2.rd (i:=(i:Int)-1) (by omega) (by omega)
    have rb:=S2.rd (i:=(i:Int)) (by omega) (by omega)
    have qa:=SA.perm.rng _ (Ze (l:=saOf t) (i:=(i:Int)-1) (by omega) (by omega))
    have qb:=SA.perm.rng _ (Ze (l:=saOf t) (i:=(i:Int)) (by omega) (by omega))
    obtain⟨ok1,ok2⟩:=Zyg SA (i:=(i:Int)) (by omega) (by omega)
    obtain⟨a,ha⟩:∃ a,a=rd (saOf t) ((i:Int)-1):=⟨_,rfl⟩
    obtain⟨b,hb⟩:∃ b,b=rd (saOf t) (i:Int):=⟨_,rfl⟩
    rw [<-ha] at ra qa ok1 ok2
    rw [<-hb] at rb qb ok1 ok2
    have ta:=T2.rd (i:=a) qa.1 qa.2
    have tb:=T2.rd (i:=b) qb.1 qb.2
    have la:a<(h.len:Int):=by omega
    have lb:b<(h.len:Int):=by omega
    have wa:Qb .i64 (a+1)=a+1:=Za (by omega) (by omega)
    have wb:Qb .i64 (b+1)=b+1:=Za (by omega) (by omega)
    obtain⟨n1,r1⟩:=Znk c0 c1 T2 A2 ls (x:=a+1) (by omega) (by omega)
    obtain⟨n2,r2⟩:=Znk c0 c1 T2 A2 ls (x:=b+1) (by omega) (by omega)
    have w:=Zq c (by omega)
    refine .inl ⟨t.length+1-(i+1),_,by omega,⟨n1+n2,fun k hk=>?_⟩,i+1,rfl,by omega,rfl⟩
    have r1:=r1 k (by omega)
    have r2:=r2 k (by omega)
    simp only at r1 r2
    simp only [Zin]
    by_cases c3:rd t a=rd t b
    ·have ok3:=ok2 c3
     simp only [stp,show (i:Int)<h'.len by omega,w1,show (0:Int)<=(i:Int)-1 by omega,show (i:Int)-1<h'.len by omega,ra,show (0:Int)<=(i:Int) by omega,rb,c0,qa.1,la,ta,qb.1,lb,tb,c3,Qa3,wa,r1,wb,r2,ok3,w]
    ·simp only [stp,show (i:Int)<h'.len by omega,w1,show (0:Int)<=(i:Int)-1 by omega,show (i:Int)-1<h'.len by omega,ra,show (0:Int)<=(i:Int) by omega,rb,c0,qa.1,la,ta,qb.1,lb,tb,ok1,c3,w]
   ·refine .inr ⟨_,Ev.of fun k=>?_,rfl⟩
    simp only [Zin]
    simp only [stp,show ¬ ((i:Int)<h'.len) by omega])
  (t.length+1-1) ([.int .i64 1,.func 175 [] [.ptr (some (σ.objs.length,0)),.ptr (some (σ.objs.length+1,0))],.ptr (some (σ.objs.length,0)),.slice h'],s2) ⟨1,rfl,Qe _,rfl⟩
 obtain⟨n1,e⟩:=Zc e
 refine⟨s2,rI Tryz.f119 ⟨n1,fun k hk=>?_⟩,k2⟩
 have e:=e k hk
 simp only at e
 simp only [Z1w]
 simp only [<-h2,len1,e,Qd]
 rw [Zoi]
theorem Zu9{σ:Store}{h h':Hdl}{t:List Int}(T:σ.Ints h t)(S:σ.Ints h' (saOf t))(hp:σ.prot<=σ.objs.length)(hn:t.length<=4194304) :
  ∃ ho σ',Runs Qa 66 [.slice h,.slice h'] σ (.tuple [.slice ho,.int .i64 0]) σ'/\Kp σ.objs.length σ σ'/\σ'.Ints ho (lcpA t (saOf t))/\σ'.Has ho:=by
 have SA:=Zi t
 have ls:=SA.perm.len
 have lh:=T.ilen
 have lS:=S.ilen
 obtain⟨hv,s1,⟨n1,r1⟩,k1,V1,H1⟩:=Zjw S hp (by omega)
 have pb:permB (saOf t)=true:=by
  unfold permB
  rw [Q7,Qbj,decide_eq_true_eq]
  refine⟨fun x hx=>?_,SA.perm.nd⟩
  have:=SA.perm.rng x hx
  rw [Q7,decide_eq_true_eq,decide_eq_true_eq]; omega
 rw [if_pos pb] at r1 V1
 have lm1:=k1.len
 obtain⟨m,hm⟩:∃ m,m=s1.objs.length:=⟨_,rfl⟩
 obtain⟨s2,h2⟩:∃ s,s=s1.push (mkCells [.int .i64 0] h.len) 1:=⟨_,rfl⟩
 have k2:Kp m s1 s2:=by rw [h2,hm]; exact Kp.push _ _ (Qe _)
 obtain⟨ho,hho⟩:∃ h':Hdl,h'=⟨some (m,0),h.len,some h.len⟩:=⟨_,rfl⟩
 have R2:s2.Row m 1 (intsL (lcpTo t (saOf t) 0)):=by
  have:=(Store.Row.new:(s1.push (mkCells [.int .i64 0] h.len) 1).Row s1.objs.length 1 _)
  rw [Zac,lh] at this
  rw [h2,hm,Zac,lh,Zvb SA]
  exact this
 have k02:Kp σ.objs.length σ s2:=k1.trans (k2.mono (by omega))
 have T2:s2.Ints h t:=Store.Sl.kp T k02
 have S2:s2.Ints h' (saOf t):=Store.Sl.kp S k02
 have V2:s2.Ints hv (inv (saOf t)):=Store.Sl.kp V1 (hm ▸ k2)
 obtain⟨s3,⟨n3,r3⟩,k3⟩:=Zvy T2 S2 V2 (by omega)
 have R3:=R2.kp k3 R2.lt
 have lm2:=R2.lt
 have T3:s3.Ints h t:=Store.Sl.kp T2 k3
 have S3:s3.Ints h' (saOf t):=Store.Sl.kp S2 k3
 have V3:s3.Ints hv (inv (saOf t)):=Store.Sl.kp V2 k3
 have lV:=V3.ilen
 rw [Za3] at lV
 have p3:s3.prot<=m:=by rw [k3.prot,k2.prot,k1.prot]; omega
 have lm3:=k3.len
 have hne:h.row≠some m\/h.len=0:=by
  rcases T.lt with h0 | ⟨b,o,e,hb⟩
  ·exact .inr h0
  ·exact .inl fun e'=>by simp [Hdl.row,e] at e'; omega
 have sle:∀ {g:Hdl} {l:List Int} {s s':Store},s.Ints g l->(∀ x,x≠m->s'.objs[x]?=s.objs[x]?)->(g.row≠some m\/g.len=0)->s'.Ints g l:=fun {g l s s'} H k hr=>by
  refine⟨Store.Sl.len H,?_⟩
  rcases Store.Sl.row H with h1 | ⟨b,o,cs,rw,h1,h2,h3⟩
  ·exact .inl h1
  ·rcases hr with hr | hr
   ·exact .inr ⟨b,o,cs,rw,h1,(k b (fun e=>hr (by simp [Hdl.row,h1,e]))).trans h2,h3⟩
   ·exact .inl hr
 have hne':h'.row≠some m\/h'.len=0:=by
  rcases S.lt with h0 | ⟨b,o,e,hb⟩
  ·exact .inr h0
  ·exact .inl fun e'=>by simp [Hdl.row,e] at e'; omega
 have hneV:hv.row≠some m\/hv.len=0:=.inl fun e'=>by have:=H1 m e'; omega
 obtain⟨r,e,σ',rfl,K,R⟩:=EvI.up (f:=fun k s=>QX Qa (gm Qa k) QS k Tryz.f66 [1,1,1,1,1,1,0,1,0] [59,58,57,10,8,1,0] s) t.length
  (fun p st=>∃ (n:Nat) (s4:Store),st=([.int .i64 p,.int .i64 hv.len,.slice hv,.int .i64 n,.slice ho,.slice h',.slice h],s4)/\s4.prot=s3.prot/\s4.objs.length=s3.objs.length/\(∀ x,x≠m->s4.objs[x]?=s3.objs[x]?)/\s4.Row m 1 (intsL (lcpTo t (saOf t) p))/\(p<t.length->rd (inv (saOf t)) p≠0->n<=hgt t (saOf t) p)/\n<=t.length)
  (fun r=>∃ s4,r=(QD 2,[(8,.slice ho)],s4)/\Kp m s3 s4/\s4.Row m 1 (intsL (lcpA t (saOf t))))
  (by
   rintro p st hi ⟨n,s4,rfl,e1,e2,e3,R,hn1,hn2⟩
   have T4:=sle T3 e3 hne
   have S4:=sle S3 e3 hne'
   have V4:=sle V3 e3 hneV
   have P:=Zcg SA.perm (p:=(p:Int)) (by omega) (by omega)
   obtain⟨i,hi_⟩:∃ i,i=rd (inv (saOf t)) (p:Int):=⟨_,rfl⟩
   have rv:=V4.rd (i:=(p:Int)) (by omega) (by rw [Za3]; omega)
   rw [<-hi_] at rv
   rw [<-hi_] at P hn1
   have w:=Zq hi (by omega)
   have px:(p:Int)<hv.len:=by omega
   have p0:(0:Int)<=p:=by omega
   by_cases c:i=0
   ·refine⟨_,Ev.of fun k=>?_,0,s4,rfl,e1,e2,e3,?_,fun _ _=>QJ _,by omega⟩
    ·simp only [Zcr]
     rw [c] at rv
     simp only [stp,px,p0,rv,w]
     rfl
    ·rw [show ((p+1:Nat):Int)=(p:Int)+1 by omega,Zko SA (by omega) (by omega) (by rw [<-hi_]; exact c)]; exact R
   ·obtain⟨q,hq⟩:∃ q,q=rd (saOf t) (i-1):=⟨_,rfl⟩
    have qr:=SA.perm.rng _ (Ze (l:=saOf t) (i:=i-1) (by omega) (by omega))
    rw [<-hq] at qr
    have rq:=S4.rd (i:=i-1) (by omega) (by omega)
    rw [<-hq] at rq
    have wi:Qb .i64 (i-1)=i-1:=Za (by omega) (by omega)
    obtain⟨H,hH⟩:∃ H,H=hgt t (saOf t) p:=⟨_,rfl⟩
    have hHl:H=lcp (t.drop (p:Int).toNat) (t.drop q.toNat):=by rw [hH]; unfold hgt; rw [<-hi_,<-hq]
    have lle:=Ze6 t (p:Int) q
    rw [<-hHl] at lle
    have mxe:mx2 (p:Int) q=max (p:Int) q:=Zbx _ _
    obtain⟨r5,e5,rfl⟩:=EvI.while (f:=fun k s=>QX Qa (gm Qa k) QS k Tryz.f66 [1,1,1,1,1,1,0,1,0,0,1,1,0,0,1,1,1,0,0] [59,58,57,13,12,11,10,8,1,0] s)
     (fun μ st=>∃ m':Nat,μ=H-m'/\m'<=H/\st=([.int .i64 p,.int .i64 hv.len,.slice hv,.int .i64 q,.int .i64 i,.int .i64 p,.int .i64 m',.slice ho,.slice h',.slice h],s4))
     (fun r=>r=(QD 4,[(59,.int .i64 p),(58,.int .i64 hv.len),(57,.slice hv),(12,.int .i64 i),(10,.int .i64 H),(8,.slice ho),(1,.slice h'),(0,.slice h)],s4))
     (by
      rintro μ st ⟨m',rfl,mH,rfl⟩
      have wm:Qb .i64 (max (p:Int) q+m')=max (p:Int) q+m':=Za (by omega) (by omega)
      by_cases cH:m'<H
      ·obtain⟨g1,g2,g3⟩:=Z4e t (p:Int) q (by omega) qr.1 m' (by rw [<-hHl]; exact cH)
       have wp:Qb .i64 ((p:Int)+m')=(p:Int)+m':=Za (by omega) (by omega)
       have wq:Qb .i64 (q+(m':Int))=q+m':=Za (by omega) (by omega)
       have tp:=T4.rd (i:=(p:Int)+m') (by omega) (by omega)
       have tq:=T4.rd (i:=q+m') (by omega) (by omega)
       have wn:Qb .i64 ((m':Int)+1)=((m'+1:Nat):Int):=by rw [Za (by omega) (by omega)]; omega
       refine .inl ⟨H-(m'+1),_,by omega,Ev.of fun k=>?_,m'+1,rfl,by omega,rfl⟩
       simp only [Zbk]
       simp only [stp,mxe,wm,show max (p:Int) q+(m':Int)<(h.len:Int) by omega,wp,show (0:Int)<=(p:Int)+m' by omega,show (p:Int)+m'<(h.len:Int) by omega,tp,wq,show (0:Int)<=q+(m':Int) by omega,show q+(m':Int)<(h.len:Int) by omega,tq,g3,wn]
      ·have e:m'=H:=by omega
       subst e
       refine .inr ⟨_,Ev.of fun k=>?_,rfl⟩
       simp only [Zbk]
       by_cases cl:max (p:Int) q+(m':Int)<(h.len:Int)
       ·have hs:=Zzg t (p:Int) q (by omega) qr.1 (by rw [<-hHl]; omega) (by rw [<-hHl]; omega)
        rw [<-hHl] at hs
        have wp:Qb .i64 ((p:Int)+m')=(p:Int)+m':=Za (by omega) (by omega)
        have wq:Qb .i64 (q+(m':Int))=q+m':=Za (by omega) (by omega)
        have tp:=T4.rd (i:=(p:Int)+m') (by omega) (by omega)
        have tq:=T4.rd (i:=q+m') (by omega) (by omega)
        simp only [stp,mxe,wm,cl,wp,show (0:Int)<=(p:Int)+m' by omega,show (p:Int)+m'<(h.len:Int) by omega,tp,wq,show (0:Int)<=q+(m':Int) by omega,show q+(m':Int)<(h.len:Int) by omega,tq,hs]
       ·simp only [stp,mxe,wm,cl])
     (H-n) _ ⟨n,rfl,by rw [hH]; exact hn1 (by omega) c,rfl⟩
    obtain⟨n5,e5⟩:=Zc e5
    have lr:=Zr t (saOf t) p
    have st:=Zfq R (by rw [e1]; exact p3) (i:=i) P.1 (by rw [intsL_length,lr]; omega) (v:=.int .i64 H) rfl (len:=h.len) (cp:=some h.len)
    have hv_:rd (lcpA t (saOf t)) i=(H:Nat):=by rw [hi_,Z46 SA (by omega) (by omega) (by rw [<-hi_]; exact c),hH]
    have ls2:=Zva SA (p:=(p:Int)) (by omega) (by omega)
    rw [<-hi_,hv_] at ls2
    rw [<-hho,Zdn,<-ls2] at st
    have wH:Qb .i64 ((H:Int)-1)=(H:Int)-1:=Za (by omega) (by omega)
    have mx1:mx2 ((H:Int)-1) 0=((H-1:Nat):Int):=by rw [Zbx]; omega
    have io:i<(ho.len:Int):=by rw [hho]; simp only; omega
    refine⟨_,⟨n5,fun k hk=>?_⟩,H-1,s4.setO m (.cells (intsL (lcpTo t (saOf t) ((p:Int)+1))) true 1),rfl,e1,by simp [e2],fun x hx=>?_,?_,fun h1 h2=>?_,by omega⟩
    ·have e5:=e5 k hk
     simp only at e5
     simp only [Zcr]
     simp only [stp,px,p0,rv,c,wi,show (0:Int)<=i-1 by omega,show i-1<(h'.len:Int) by omega,rq,e5]
     simp only [Zde]
     simp only [stp,P.1,io,st,w,wH,mx1]
    ·show (s4.objs.set m _)[x]?=_
     rw [Qm,if_neg (Ne.symm hx)]; exact e3 x hx
    ·rw [show ((p+1:Nat):Int)=(p:Int)+1 by omega]
     exact Store.Row.setO_eq R.lt
    ·have:=Z53 SA (p:=(p:Int)) (by omega) (by omega) (by rw [<-hi_]; exact c) (by rw [show (p:Int)+1=((p+1:Nat):Int) by omega]; exact h2)
     rw [show ((p+1:Nat):Int)=(p:Int)+1 by omega,hH]; omega)
  (by
   rintro st ⟨n,s4,rfl,e1,e2,e3,R,_,_⟩
   rw [Zxi SA] at R
   refine⟨_,Ev.of fun k=>?_,s4,rfl,⟨e1,by omega,fun b hb=>e3 b (by omega)⟩,R⟩
   simp only [Zcr]
   simp only [stp,show ¬ ((t.length:Int)<hv.len) by omega])
  (s:=([.int .i64 0,.int .i64 hv.len,.slice hv,.int .i64 0,.slice ho,.slice h',.slice h],s3)) ⟨0,s3,rfl,rfl,rfl,fun _ _=>rfl,R3,fun _ _=>QJ _,QJ _⟩
 obtain⟨n4,e⟩:=Zc e
 have c1:((0:Int)<=h.len/\(h.len:Int)<=h.len)/\(h.len:Int)*((8:Nat):Int)<=281474976710656:=by omega
 refine⟨ho,σ',rI Tryz.f66 ⟨n1+n3+n4,fun k hk=>?_⟩,(k02.then k3 (by have:=k02.len; omega)).trans (K.mono (by omega)),?_,fun x hx=>?_⟩
 ·have r1:=r1 k (by omega)
  have r3:=r3 k (by omega)
  have e:=e k (by omega)
  simp only at r1 r3 e
  have c2:((h'.len:Nat):Int)=(h.len:Nat):=by omega
  simp only [Z4p]
  simp only [stp,r1,c2,if_pos c1,Ql]
  rw [<-hm,<-hho,<-h2]
  simp only [r3,Qd,AV.asBool,Bool.not_true,QV,if_false,e]
  rw [Zjl]
  simp only [Bool.true_eq_false,if_false]
 ·rw [hho]
  exact R.sl (by simp [Zc1]; omega)
 ·rw [hho] at hx
  simp [Hdl.row] at hx
  have:=R.lt; omega
end Go.Ab

namespace Go.Ab
open Go Go.Proofs Go.Ab.Wd Go.Ab.Bs Go.Ab.Sai
theorem Z3f{lc:List Int}{n:Nat}{a b m p i j:Int}(hL:∀ k,a<k->k<b->m<=rd lc k)(hA:a=0\/rd lc a<m)(hB:b=n\/rd lc b<m)(a0:0<=a)(p0:0<=p)(pi:p<i)(iN:i<n)(h:IsB lc (p+1) (i+1) j) :
  (a<j/\j<b) ↔ (a<=p/\i<b):=by
 rcases h with ⟨q1,_⟩ | ⟨q1,q2,q3⟩
 ·omega
 constructor
 ·rintro⟨h1,h2⟩
  have hj:=hL j h1 h2
  refine⟨?_,?_⟩
  ·by_cases c:a<=p
   ·exact c
   ·exfalso
    have:=q3 a (by omega) (by omega)
    rcases hA with e | e <;> omega
  ·by_cases c:i<b
   ·exact c
   ·exfalso
    have:=q3 b (by omega) (by omega)
    rcases hB with e | e <;> omega
 ·rintro⟨h1,h2⟩
  omega
def twice(l:List Int)(a b:Nat):Nat:=((Q5 a (b-a)).filter fun i=>decide ((a:Int)<=bkI l i)).length
def once(l:List Int)(a b:Nat):Nat:=((Q5 a (b-a)).filter fun i=>decide (bkI l i<(a:Int))).length
theorem Zvm(l:List Int){a b:Nat}(h:a<=b):once l a b+twice l a b=b-a:=by
 unfold once twice
 have:∀ L:List Nat,(L.filter fun i=>decide (bkI l i<(a:Int))).length+(L.filter fun i=>decide ((a:Int)<=bkI l i)).length=L.length:=fun L=>by
  induction L with
  | nil=>rfl
  | cons x L ih=>
   simp only [Qa4,Qh]
   by_cases c:bkI l x<(a:Int)
   ·have d:¬ (a:Int)<=bkI l x:=by omega
    simp [c,d]; omega
   ·have d:(a:Int)<=bkI l x:=by omega
    simp [c,d]; omega
 rw [this,List.length_range']
end Go.Ab

namespace Go.Ab
open Go Go.Proofs Go.Ab.Wd Go.Ab.Bs Go.Ab.Sai
def laidAt(ok:Nat->Bool)(lo:Nat->Int)(n:Nat)(j:Int):Nat:=((QN n).filter fun i=>ok i&&decide (lo i=j)).length
theorem Zqd{p q r:Nat->Bool}(h1:∀ x,r x=(p x || q x))(h2:∀ x,p x=true->q x=true->False):∀ L:List Nat,(L.filter p).length+(L.filter q).length=(L.filter r).length
 | []=>rfl
 | x::L=>by
  have ih:=Zqd h1 h2 L
  have e:=h1 x
  have d:=h2 x
  simp only [Qa4]
  cases hp:p x <;> cases hq:q x <;> rw [hp,hq] at e <;> simp at e <;> simp [e] <;> first | omega | exact (d hp hq).elim
theorem Zqm(ok:Nat->Bool)(lo:Nat->Int)(n:Nat)(a:Nat):∀ m:Nat,((Q5 a m).map fun j:Nat=>laidAt ok lo n (j:Int)).sum=((QN n).filter fun i=>ok i&&(decide ((a:Int)<=lo i)&&decide (lo i<((a+m:Nat):Int)))).length
 | 0=>by
  simp only [List.range'_zero,QaZ,Qbe]
  rw [QG.2 fun i _=>by simp]; rfl
 | m+1=>by
  have e:Q5 a (m+1)=Q5 a m++[a+m]:=by rw [List.range'_concat]; simp
  rw [e,Qs,Qbo,Zqm ok lo n a m]
  simp only [QC,QaZ,Qa1,Qbe,Qak]
  unfold laidAt
  refine Zqd (fun x=>?_) (fun x h1 h2=>?_) _
  ·cases ok x
   ·rfl
   ·rw [Q2]; simp; omega
  ·simp at h1 h2; omega
theorem Zu7{l lc:List Int}{m:Int}{a b:Nat}(hab:a<b)(hb:b<=l.length){lo:Nat->Int}(hlo:∀ i,i<l.length->0<=bkI l i->IsB lc (bkI l i+1) ((i:Int)+1) (lo i))
  (hL:∀ k:Int,(a:Int)<k->k<b->m<=rd lc k) (hA:(a:Int)=0\/rd lc a<m) (hB:(b:Int)=l.length\/rd lc b<m) :
  ((Q5 (a+1) (b-1-a)).map fun j:Nat=>laidAt (fun i=>decide (0<=bkI l i)) lo l.length (j:Int)).sum=twice l a b:=by
 rw [Zqm,show a+1+(b-1-a)=b by omega]
 have e1:((QN l.length).filter fun i=>decide (0<=bkI l i)&&(decide (((a+1:Nat):Int)<=lo i)&&decide (lo i<(b:Int))))=(QN l.length).filter fun i=>decide ((a:Int)<=bkI l i)&&decide (i<b):=by
  refine QQ fun i hi=>?_
  have hi':=QaO.1 hi
  have bl:=Zo0 l i
  by_cases c:0<=bkI l i
  ·have q:=Z3f hL hA hB (by omega) c bl.2 (by omega) (hlo i hi' c)
   rw [Q2]
   simp only [Q7,decide_eq_true_eq]
   omega
  ·rw [Q2]
   simp only [Q7,decide_eq_true_eq]
   omega
 rw [e1]
 unfold twice
 have e2:QN l.length=Q5 0 a++(Q5 a (b-a)++Q5 b (l.length-b)):=by
  rw [Qao]
  have h1:=Qap (s:=a) (m:=b-a) (n:=l.length-b)
  rw [show a+(b-a)=b by omega] at h1
  rw [h1]
  have h2:=Qap (s:=0) (m:=a) (n:=b-a+(l.length-b))
  rw [Q3] at h2
  rw [h2,show a+(b-a+(l.length-b))=l.length by omega]
 rw [e2,Qz,Qz]
 rw [QG.2 (fun i hi=>by
  have:=(QE.1 hi).2
  have:=Zo0 l i
  simp only [Q7,decide_eq_true_eq]; omega),QA]
 have e3:(Q5 b (l.length-b)).filter (fun i=>decide ((a:Int)<=bkI l i)&&decide (i<b))=[]:=QG.2 fun i hi=>by
  have:=(QE.1 hi).1
  simp only [Q7,decide_eq_true_eq]; omega
 rw [e3,QF]
 congr 1
 refine QQ fun i hi=>?_
 have:=QE.1 hi
 rw [Q2]
 simp only [Q7,decide_eq_true_eq]
 omega
end Go.Ab

namespace Go.Ab
open Go Go.Proofs Go.Ab.Wd Go.Ab.Bs Go.Ab.Sai
def com:List Int->List Int->Nat
 | x::a,y::b=>if x=y then com a b+1 else 0
 | _,_=>0
theorem Zh7:∀ {P a b:List Int},P <+: a->(P <+: b ↔ P.length<=com a b)
 | [],a,b,_=>⟨fun _=>QJ _,fun _=>List.nil_prefix⟩
 | x::P,[],b,h=>by simp at h
 | x::P,y::a,[],h=>by simp [com]
 | x::P,y::a,z::b,h=>by
  rw [List.cons_prefix_cons] at h ⊢
  obtain⟨rfl,h⟩:=h
  have ih:=Zh7 (b:=b) h
  unfold com
  by_cases c:x=z
  ·rw [if_pos c]; simp only [Qh]; rw [ih]; simp [c]
  ·rw [if_neg c]; simp [c]
theorem Zpa:∀ a b:List Int,com a b=com b a
 | [],[]=>rfl
 | [],_::_=>rfl
 | _::_,[]=>rfl
 | x::a,y::b=>by
  unfold com
  by_cases c:x=y
  ·rw [if_pos c,if_pos c.symm,Zpa a b]
  ·rw [if_neg c,if_neg fun e=>c e.symm]
theorem Z3u{n:Nat}{suf:Nat->List Int}{lc:List Int}{P:List Int}{a b:Nat}(hP:∀ i,i<n->(a<=i/\i<b ↔ P <+: suf i))(hab:a<b)(hb:b<=n)
  (hlc:∀ k:Nat,0<k->k<n->rd lc (k:Nat)=(com (suf (k-1)) (suf k):Nat)) :
  (∀ k:Int,(a:Int)<k->k<b->(P.length:Int)<=rd lc k)/\((a:Int)=0\/rd lc a<P.length)/\((b:Int)=n\/rd lc b<P.length):=by
 refine⟨fun k h1 h2=>?_,?_,?_⟩
 ·obtain⟨j,rfl⟩:∃ j:Nat,k=j:=⟨k.toNat,by omega⟩
  rw [hlc j (by omega) (by omega)]
  have p1:=(hP (j-1) (by omega)).1 ⟨by omega,by omega⟩
  have p2:=(hP j (by omega)).1 ⟨by omega,by omega⟩
  have:=(Zh7 p1).1 p2
  omega
 ·rcases QM a with rfl | h0
  ·exact .inl rfl
  ·right
   rw [hlc a h0 (by omega),Zpa]
   have p2:=(hP a (by omega)).1 ⟨by omega,hab⟩
   have p1:¬ P <+: suf (a-1):=fun h=>by have:=(hP (a-1) (by omega)).2 h; omega
   rw [Zh7 p2] at p1
   omega
 ·by_cases c:b=n
  ·exact .inl (by rw [c])
  ·right
   rw [hlc b (by omega) (by omega)]
   have p1:=(hP (b-1) (by omega)).1 ⟨by omega,by omega⟩
   have p2:¬ P <+: suf b:=fun h=>by have:=(hP b (by omega)).2 h; omega
   rw [Zh7 p1] at p2
   omega
end Go.Ab

namespace Go.Ab
open Go Go.Proofs Go.Ab.Wd Go.Ab.Bs Go.Ab.Sai
theorem Zx0{l:List Int}{a b:Nat}(h:a<=b)(hb:b<=l.length):once l a b=(dOf [] (seg l a b)).length:=by
 obtain⟨I,hI_⟩:∃ I:List Int,I=((Q5 a (b-a)).filter fun i=>decide (bkI l i<(a:Int))).map fun i:Nat=>(i:Int):=⟨_,rfl⟩
 have nd:I.Nodup:=by
  rw [hI_]
  exact Zb2 (f:=fun i:Nat=>(i:Int)) (fun x y e=>by have e':(x:Int)=y:=e; omega) ((List.nodup_range').sublist QaT)
 have hI:∀ i,fo l a b i ↔ i∈I:=fun i=>by
  rw [hI_,Qp]
  unfold fo
  constructor
  ·rintro⟨h1,h2,h3⟩
   refine⟨i.toNat,Qaj.2 ⟨List.mem_range'_1.2 ⟨by omega,by omega⟩,by simpa using h3⟩,by omega⟩
  ·rintro⟨j,hj,rfl⟩
   obtain⟨h1,h2⟩:=Qaj.1 hj
   have:=QE.1 h1
   refine⟨by omega,by omega,?_⟩
   rw [Ql]; simpa using h2
 have:=Zn0 (A:=(a:Int)) (B:=(b:Int)) (by omega) (by omega) nd hI
 rw [<-this,Zax,Qj,hI_,Qj]
 rfl
end Go.Ab

namespace Go.Ab
open Go Go.Proofs Go.Ab.Wd Go.Ab.Bs Go.Ab.Sai
theorem Zsx:∀ a b:List Int,com a b=Bs.lcp a b
 | [],b=>by cases b <;> simp [com,Bs.lcp]
 | x::a,[]=>by simp [com,Bs.lcp]
 | x::a,y::b=>by simp only [com,Bs.lcp,Zsx a b]
def talB(d:List Nat):List Bool:=d.flatMap fun c=>Qf c true++[false]
theorem Zc4(a b:List Nat):talB (a++b)=talB a++talB b:=by simp [talB]
theorem Zc5:∀ d:List Nat,(talB d).length=d.sum+d.length
 | []=>rfl
 | c::d=>by
  have:=Zc5 d
  have e:talB (c::d)=Qf c true++[false]++talB d:=by simp [talB]
  rw [e,Qc,Qc,QO,Qr,Qa1,Qh]
  omega
theorem Zn5:∀ d:List Nat,((talB d).filter id).length=d.sum
 | []=>rfl
 | c::d=>by
  have:=Zn5 d
  have e:talB (c::d)=Qf c true++[false]++talB d:=by simp [talB]
  rw [e,Qz,Qz,Qc,Qc,this]
  simp
theorem Z0y{α:Type}{d:List α}{i:Nat}{c:α}(h:d[i]?=some c):d=d.take i++c::d.drop (i+1):=by
 obtain⟨hl,e⟩:=Qg.1 h
 have:=Qv i d
 rw [Qah hl,e] at this
 exact this.symm
theorem Z34{d:List Nat}{i:Nat}{c:Nat}(h:d[i]?=some c):(d.take i).sum+i+c<(talB d).length/\bitAt (talB d) ((d.take i).sum+i+c)=false/\zerosTo (talB d) ((d.take i).sum+i+c)=i:=by
 have hl:=(Qg.1 h).1
 have e:talB d=(talB (d.take i)++Qf c true)++([false]++talB (d.drop (i+1))):=by
  conv=>lhs; rw [Z0y h,Zc4]
  simp [talB]
 have ln:(talB (d.take i)++Qf c true).length=(d.take i).sum+i+c:=by
  rw [Qc,Zc5,QO,Qk]; omega
 have lt:(talB d).length=(d.take i).sum+i+c+(1+(talB (d.drop (i+1))).length):=by rw [e,Qc,ln,Qc]; rfl
 refine⟨by omega,?_,?_⟩
 ·unfold bitAt
  rw [e,Qaa (by omega),ln]
  simp
 ·unfold zerosTo onesTo
  have e2:((talB (d.take i)++Qf c true).filter id).length=(d.take i).sum+c:=by
   rw [Qz,Qc,Zn5]; simp
  rw [lt,Qq (by omega),e,<-ln,QaN,e2,ln]
  omega
def lays(ok:Nat->Bool)(f:Nat->Int)(n i:Nat):List Nat:=(QN n).map fun j:Nat=>laidAt ok f i (j:Int)
theorem Zi0(ok:Nat->Bool)(f:Nat->Int)(n i:Nat):(lays ok f n i).length=n:=by simp [lays]
theorem Ziz(ok:Nat->Bool)(f:Nat->Int)(i:Nat)(j:Int):laidAt ok f (i+1) j=laidAt ok f i j+if ok i=true/\f i=j then 1 else 0:=by
 unfold laidAt
 rw [QaG,Qz,Qc]
 congr 1
 by_cases c:ok i=true/\f i=j
 ·rw [if_pos c,List.filter_cons_of_pos (by simp [c.1,c.2])]; rfl
 ·rw [if_neg c,List.filter_cons_of_neg (by simpa using c)]; rfl
theorem Zql{ok:Nat->Bool}{f g:Nat->Int}{i:Nat}(h:∀ x,x<i->f x=g x)(j:Int):laidAt ok f i j=laidAt ok g i j:=by
 unfold laidAt
 congr 1
 refine QQ fun x hx=>?_
 rw [h x (QaO.1 hx)]
theorem Zxh{ok:Nat->Bool}{f:Nat->Int}{n i:Nat}(h:ok i=false):lays ok f n (i+1)=lays ok f n i:=by
 unfold lays
 refine Q9 fun j _=>?_
 rw [Ziz,if_neg (by simp [h])]; rfl
theorem Zz3{ok:Nat->Bool}{f:Nat->Int}{n i:Nat}{v:Int}(h:ok i=true)(v0:0<=v)(v1:v<n) :
  lays ok (fun x=>if x=i then v else f x) n (i+1)=(lays ok f n i).set v.toNat ((lays ok f n i).getD v.toNat 0+1)/\(lays ok f n i).getD v.toNat 0=laidAt ok f i v:=by
 have g:(lays ok f n i).getD v.toNat 0=laidAt ok f i v:=by
  unfold lays
  rw [Q0,QP,List.getElem?_range (by omega)]
  simp only [Q6,Qa8]
  rw [show ((v.toNat:Nat):Int)=v by omega]
 refine⟨?_,g⟩
 rw [g]
 apply Qaf (by simp [lays])
 intro j h1 h2
 simp only [lays,Qj,Qbf] at h1
 rw [List.getElem_set]
 simp only [lays,Qa9,QaW]
 rw [Ziz,Zql (g:=f) (fun x hx=>by rw [if_neg (by omega)])]
 by_cases c:v.toNat=j
 ·rw [if_pos c,if_pos ⟨h,by simp only [if_true]; omega⟩,show (j:Int)=v by omega]
 ·rw [if_neg c,if_neg (fun hh=>by have:=hh.2; simp only [if_true] at this; omega)]; rfl
theorem Z33{l:List Nat}{j:Nat}(h:j<l.length)(c:Nat):(l.set j c).sum+l.getD j 0=l.sum+c:=by
 induction l generalizing j with
 | nil=>simp at h
 | cons x l ih=>
  cases j with
  | zero=>simp; omega
  | succ j=>
   simp only [Qh] at h
   have:=ih (j:=j) (by omega)
   simp only [QaU,Qa1,List.getD_cons_succ]; omega
structure Links (l lc:List Int) (d:List Nat):Prop where
 len:d.length=l.length
 ex:∃ f:Nat->Int,d=lays (fun i=>decide (0<=bkI l i)) f l.length l.length/\∀ i,i<l.length->0<=bkI l i->IsB lc (bkI l i+1) ((i:Int)+1) (f i)
theorem Zz4{l lc:List Int}{d:List Nat}(L:Links l lc d){a b:Nat}(hab:a<b)(hb:b<=l.length) :
  ∃ f:Nat->Int,(∀ i,i<l.length->0<=bkI l i->IsB lc (bkI l i+1) ((i:Int)+1) (f i))/\(d.take b).sum=(d.take (a+1)).sum+((Q5 (a+1) (b-1-a)).map fun j:Nat=>laidAt (fun i=>decide (0<=bkI l i)) f l.length (j:Int)).sum:=by
 obtain⟨f,rfl,hf⟩:=L.ex
 refine⟨f,hf,?_⟩
 unfold lays
 rw [<-Qa2,<-Qa2,Qbp,Qbp,Qq hb,Qq (by omega),<-Qbo,<-Qs]
 congr 2
 rw [Qao,Qao]
 have:=Qap (s:=0) (m:=a+1) (n:=b-1-a)
 rw [Q3,show a+1+(b-1-a)=b by omega] at this
 exact this.symm
theorem Zvd{l lc:List Int}{d:List Nat}(L:Links l lc d){m:Int}{a b:Nat}(hab:a<b)(hb:b<=l.length)
  (hL:∀ k:Int,(a:Int)<k->k<b->m<=rd lc k) (hA:(a:Int)=0\/rd lc a<m) (hB:(b:Int)=l.length\/rd lc b<m) :
  (d.take b).sum=(d.take (a+1)).sum+twice l a b:=by
 obtain⟨f,hf,e⟩:=Zz4 L hab hb
 rw [e,Zu7 hab hb hf hL hA hB]
end Go.Ab

namespace Go.Ab
open Go Go.Proofs Go.Ab.Wd Go.Ab.Bs Go.Ab.Sai
structure Tal (σ:Store) (p:Ptr) (l lc:List Int):Prop where
 ex:∃ (b:Nat) (pv:Ptr) (d:List Nat),p=some (b,0)/\σ.Row b 2 [.int .i64 l.length,.ptr pv]/\Vec σ pv (talB d)/\Links l lc d
 small:l.length<=2097152
theorem Tal.keep{σ σ':Store}{p:Ptr}{l lc:List Int}(t:Tal σ p l lc)(k:∀ x:Nat,x<σ.objs.length->σ'.objs[x]?=σ.objs[x]?):Tal σ' p l lc:=by
 obtain⟨b,pv,d,e,R,V,L⟩:=t.ex
 exact⟨⟨b,pv,d,e,(k b R.lt).trans R,V.keep k,L⟩,t.small⟩
def natsI(d:List Nat):List Int:=d.map fun c:Nat=>(c:Int)
theorem Zd9(d:List Nat):(natsI d).length=d.length:=by simp [natsI]
theorem Zrg{d:List Nat}{v:Int}(h0:0<=v):rd (natsI d) v=(d.getD v.toNat 0:Nat):=by
 unfold rd natsI
 rw [Q0,Q0,QP]
 cases d[v.toNat]? <;> rfl
theorem Zxw(d:List Nat)(j c:Nat):(natsI d).set j (c:Int)=natsI (d.set j c):=by simp [natsI,Qbb]
section
variable {σ:Store} {h h':Hdl} {l lc:List Int}
theorem Zso{s3:Store}{m:Nat}{pt:Ptr}{hb ho:Hdl}(hTab:∀ s':Store,(∀ x,x≠m->s'.objs[x]?=s3.objs[x]?)->Tab s' pt lc)(B:s3.Ints hb (bkIL l))(hbm:hb.row≠some m)(R:s3.Row m 1 (intsL (Qf l.length 0)))
  (pr:s3.prot<=m) (hlc:lc.length=l.length) (hn:l.length<=2097152) (hho:ho=⟨some (m,0),l.length,some l.length⟩) (hx:Hdl) :
  ∃ s4 d,EvI (fun k s=>QX Qa (gm Qa k) QS k Tryz.f70 [1,1,1,1,1,0,1,0] [45,44,43,9,8,6,0] s)
   ([.int .i64 0,.int .i64 l.length,.slice hb,.int .i64 l.length,.slice ho,.ptr pt,.slice hx],s3) (QD 0,[(9,.int .i64 (l.length+d.sum:Nat)),(8,.slice ho),(0,.slice hx)],s4)/\Kp m s3 s4/\s4.objs.length=s3.objs.length/\(∀ x,x≠m->s4.objs[x]?=s3.objs[x]?)/\s4.Row m 1 (intsL (natsI d))/\Links l lc d/\d.sum<=l.length:=by
 have lb:=B.ilen
 rw [Zai] at lb
 obtain⟨r,e,s4,d,rfl,e1,e2,e3,R4,L,sm⟩:=EvI.up (f:=fun k s=>QX Qa (gm Qa k) QS k Tryz.f70 [1,1,1,1,1,0,1,0] [45,44,43,9,8,6,0] s) l.length
  (fun i st=>∃ (s4:Store) (f:Nat->Int),st=([.int .i64 i,.int .i64 l.length,.slice hb,.int .i64 (l.length+(lays (fun i=>decide (0<=bkI l i)) f l.length i).sum:Nat),.slice ho,.ptr pt,.slice hx],s4)/\s4.prot=s3.prot/\s4.objs.length=s3.objs.length/\(∀ x,x≠m->s4.objs[x]?=s3.objs[x]?) /\
   s4.Row m 1 (intsL (natsI (lays (fun i=>decide (0<=bkI l i)) f l.length i)))/\(∀ j,j<i->0<=bkI l j->IsB lc (bkI l j+1) ((j:Int)+1) (f j))/\(lays (fun i=>decide (0<=bkI l i)) f l.length i).sum<=i)
  (fun r=>∃ (s4:Store) (d:List Nat),r=(QD 0,[(9,.int .i64 (l.length+d.sum:Nat)),(8,.slice ho),(0,.slice hx)],s4)/\s4.prot=s3.prot/\s4.objs.length=s3.objs.length/\(∀ x,x≠m->s4.objs[x]?=s3.objs[x]?)/\s4.Row m 1 (intsL (natsI d))/\Links l lc d/\d.sum<=l.length)
  (by
   rintro i st hi ⟨s4,f,rfl,e1,e2,e3,R4,hf,sm⟩
   have B4:s4.Ints hb (bkIL l):=Zar B fun x hx=>e3 x (fun e=>hbm (e ▸ hx))
   have rb:=B4.rd (i:=(i:Int)) (by omega) (by rw [Zai]; omega)
   rw [Zmo hi] at rb
   have bl:=Zo0 l i
   have w:=Zq hi (by omega)
   have i0:(i:Int)<l.length:=by omega
   by_cases c:0<=bkI l i
   ·have T4:=hTab s4 e3
    have w1:Qb .i64 (bkI l i+1)=bkI l i+1:=Za (by omega) (by omega)
    obtain⟨v,⟨n1,r1⟩,hv⟩:=Zi1 T4 (x:=bkI l i+1) (y:=(i+1:Nat))
    rw [hlc,show max (bkI l i+1) 0=bkI l i+1 by omega,show min ((i+1:Nat):Int) (l.length:Int)=(i:Int)+1 by omega] at hv
    have vr:0<=v/\v<l.length:=by rcases hv with ⟨q1,_⟩ | ⟨q1,q2,_⟩ <;> omega
    obtain⟨p1,p2⟩:=Zz3 (ok:=fun i=>decide (0<=bkI l i)) (f:=f) (n:=l.length) (i:=i) (by simpa using c) vr.1 vr.2
    have ll:=Zi0 (fun i=>decide (0<=bkI l i)) f l.length i
    have ss:=Z33 (l:=lays (fun i=>decide (0<=bkI l i)) f l.length i) (j:=v.toNat) (by omega) ((lays (fun i=>decide (0<=bkI l i)) f l.length i).getD v.toNat 0+1)
    rw [<-p1] at ss
    have sle:(lays (fun i=>decide (0<=bkI l i)) f l.length i).getD v.toNat 0<=i:=by
     rw [p2]; unfold laidAt
     exact Qat (QaI _ _) (by simp)
    have rv:=Zeg (k:=.i64) (l:=natsI (lays (fun i=>decide (0<=bkI l i)) f l.length i)) R4 vr.1 (by rw [Zd9]; omega) (len:=l.length) (cp:=some l.length)
    rw [Zrg vr.1,<-hho] at rv
    obtain⟨c0,hc0⟩:∃ c0,c0=(lays (fun i=>decide (0<=bkI l i)) f l.length i).getD v.toNat 0:=⟨_,rfl⟩
    rw [<-hc0] at rv sle ss
    have w2:Qb .i64 ((c0:Int)+1)=((c0+1:Nat):Int):=by rw [Za (by omega) (by omega)]; omega
    have st:=Zcz R4 (by rw [e1]; exact pr) vr.1 (by rw [Zd9]; omega) (x:=((c0+1:Nat):Int)) (len:=l.length) (cp:=some l.length)
    rw [<-hho,Zxw] at st
    rw [<-hc0] at p1
    rw [<-p1] at st
    have vo:v<(ho.len:Int):=by rw [hho]; exact vr.2
    have w3:Qb .i64 (((l.length+(lays (fun i=>decide (0<=bkI l i)) f l.length i).sum:Nat):Int)+1)=((l.length+(lays (fun i=>decide (0<=bkI l i)) (fun x=>if x=i then v else f x) l.length (i+1)).sum:Nat):Int):=by
     rw [Za (by omega) (by omega)]; omega
    refine⟨_,⟨n1,fun k hk=>?_⟩,s4.setO m (.cells (intsL (natsI (lays (fun i=>decide (0<=bkI l i)) (fun x=>if x=i then v else f x) l.length (i+1)))) true 1),fun x=>if x=i then v else f x,rfl,e1,by simp [e2],fun x hx=>?_,Store.Row.setO_eq R4.lt,fun j hj hk=>?_,by omega⟩
    ·have r1:=r1 k hk
     simp only at r1
     simp only [Zdf]
     simp only [stp,i0,show (0:Int)<=(i:Int) by omega,show (i:Int)<hb.len by omega,rb,c,w1,w,r1,vr.1,vo,rv,w2,st,w3]
    ·show (s4.objs.set m _)[x]?=_
     rw [Qm,if_neg (Ne.symm hx)]; exact e3 x hx
    ·by_cases cj:j=i
     ·subst cj; simp only [if_true]; exact hv
     ·simp only [if_neg cj]; exact hf j (by omega) hk
   ·have ls:=Zxh (ok:=fun i=>decide (0<=bkI l i)) (f:=f) (n:=l.length) (i:=i) (by simpa using c)
    refine⟨_,Ev.of fun k=>?_,s4,f,rfl,e1,e2,e3,by rw [ls]; exact R4,fun j hj hk=>?_,by rw [ls]; omega⟩
    ·rw [ls]
     simp only [Zdf]
     simp only [stp,i0,show (0:Int)<=(i:Int) by omega,show (i:Int)<hb.len by omega,rb,c,w]
    ·by_cases cj:j=i
     ·subst cj; exact absurd hk c
     ·exact hf j (by omega) hk)
  (by
   rintro st ⟨s4,f,rfl,e1,e2,e3,R4,hf,sm⟩
   refine⟨_,Ev.of fun k=>?_,s4,lays (fun i=>decide (0<=bkI l i)) f l.length l.length,rfl,e1,e2,e3,R4,⟨Zi0 _ _ _ _,f,rfl,hf⟩,sm⟩
   simp only [Zdf]
   simp only [stp,Qa3])
  (s:=([.int .i64 0,.int .i64 l.length,.slice hb,.int .i64 l.length,.slice ho,.ptr pt,.slice hx],s3))
  (by
   have z:lays (fun i=>decide (0<=bkI l i)) (fun _=>0) l.length 0=Qf l.length 0:=by
    apply Qaf (by simp [lays])
    intro j h1 h2
    simp [lays,laidAt]
   have zi:natsI (Qf l.length 0)=Qf l.length 0:=by simp [natsI]
   refine⟨s3,fun _=>0,?_,rfl,rfl,fun _ _=>rfl,?_,fun j hj=>by omega,?_⟩
   ·rw [z]; simp
   ·rw [z,zi]; exact R
   ·rw [z]; simp)
 exact⟨s4,d,e,⟨e1,by omega,fun b hb=>e3 b (by omega)⟩,e2,e3,R4,L,sm⟩
theorem Zsp{s5:Store}{m L:Nat}{ho hx:Hdl}{d:List Nat}(R:s5.Row m 1 (intsL (natsI d)))(mL:m<L)(P:Pk s5 L (Qf (talB d).length false))(pr:s5.prot<=L)(hn:(talB d).length<=4194304)(hho:ho=⟨some (m,0),d.length,some d.length⟩) :
  ∃ s6,EvI (fun k s=>QX Qa (gm Qa k) QS k Tryz.f70 [1,1,1,1,1,1,1,1,0,1,0] [73,72,71,14,12,0] s)
   ([.int .i64 0,.int .i64 ho.len,.slice ho,.int .i64 0,.ptr (some (L+1,0)),.slice hx],s5) (QD 2,[(12,.ptr (some (L+1,0))),(0,.slice hx)],s6)/\Kp L s5 s6/\s6.objs.length=s5.objs.length/\(∀ x,x≠L->s6.objs[x]?=s5.objs[x]?)/\Pk s6 L (talB d):=by
 have lB:∀ i,i<d.length->∃ c,d[i]?=some c/\(talB (d.take (i+1))).length=(talB (d.take i)).length+c+1/\(talB (d.take (i+1))).length<=(talB d).length:=fun i hi=>by
  refine⟨d[i],Qi hi,?_,?_⟩
  ·rw [Zae (Qi hi),Zc4]; simp [talB]; omega
  ·have:=Zc4 (d.take (i+1)) (d.drop (i+1))
   rw [Qv] at this
   rw [this,Qc]; omega
 have ld:=Zc5 d
 have hol:ho.len=d.length:=by rw [hho]
 obtain⟨r,e,s6,rfl,e1,e2,e3,P6⟩:=EvI.up (f:=fun k s=>QX Qa (gm Qa k) QS k Tryz.f70 [1,1,1,1,1,1,1,1,0,1,0] [73,72,71,14,12,0] s) d.length
  (fun i st=>∃ s6,st=([.int .i64 i,.int .i64 ho.len,.slice ho,.int .i64 (talB (d.take i)).length,.ptr (some (L+1,0)),.slice hx],s6)/\s6.prot=s5.prot/\s6.objs.length=s5.objs.length/\(∀ x,x≠L->s6.objs[x]?=s5.objs[x]?)/\Pk s6 L (talB (d.take i)++Qf ((talB d).length-(talB (d.take i)).length) false))
  (fun r=>∃ s6,r=(QD 2,[(12,.ptr (some (L+1,0))),(0,.slice hx)],s6)/\s6.prot=s5.prot/\s6.objs.length=s5.objs.length/\(∀ x,x≠L->s6.objs[x]?=s5.objs[x]?)/\Pk s6 L (talB d))
  (by
   rintro i st hi ⟨s6,rfl,e1,e2,e3,P6⟩
   obtain⟨c,hc,l1,l2⟩:=lB i hi
   have R6:s6.Row m 1 (intsL (natsI d)):=(e3 m (by omega)).trans R
   have rc:=Zeg (k:=.i64) (l:=natsI d) R6 (i:=(i:Int)) (by omega) (by rw [Zd9]; omega) (len:=d.length) (cp:=some d.length)
   rw [Zrg (by omega),<-hho,Ql,Q0,hc,Qa8] at rc
   have w:=Zq hi (by omega)
   obtain⟨u,hu⟩:∃ u,u=(talB (d.take i)).length:=⟨_,rfl⟩
   rw [<-hu] at l1 P6 ⊢
   obtain⟨r7,e7,s7,rfl,f1,f2,f3,P7⟩:=EvI.up (f:=fun k s=>QX Qa (gm Qa k) QS k Tryz.f70 [1,1,1,1,1,1,1,1,0,1,0,0,1,1,0,0,1,0,1,0] [78,77,73,72,71,14,12,0] s) c
    (fun j st=>∃ s7,st=([.int .i64 j,.int .i64 c,.int .i64 i,.int .i64 ho.len,.slice ho,.int .i64 (u+j:Nat),.ptr (some (L+1,0)),.slice hx],s7)/\s7.prot=s5.prot/\s7.objs.length=s5.objs.length/\(∀ x,x≠L->s7.objs[x]?=s5.objs[x]?)/\Pk s7 L (talB (d.take i)++Qf j true++Qf ((talB d).length-u-j) false))
    (fun r=>∃ s7,r=(QD 4,[(73,.int .i64 i),(72,.int .i64 ho.len),(71,.slice ho),(14,.int .i64 (u+c:Nat)),(12,.ptr (some (L+1,0))),(0,.slice hx)],s7)/\s7.prot=s5.prot/\s7.objs.length=s5.objs.length/\(∀ x,x≠L->s7.objs[x]?=s5.objs[x]?)/\Pk s7 L (talB (d.take i)++Qf c true++Qf ((talB d).length-u-c) false))
    (by
     rintro j st hj ⟨s7,rfl,f1,f2,f3,P7⟩
     have lb:(talB (d.take i)++Qf j true++Qf ((talB d).length-u-j) false).length=(talB d).length:=by
      rw [Qc,Qc,QO,QO,<-hu]; omega
     obtain⟨s8,⟨n8,r8⟩,k8,o8,P8⟩:=Zmr P7 (by rw [f1]; exact pr) (i:=u+j) (by rw [lb]; omega) (by rw [lb]; omega)
     have es:(talB (d.take i)++Qf j true++Qf ((talB d).length-u-j) false).set (u+j) true=talB (d.take i)++Qf (j+1) true++Qf ((talB d).length-u-(j+1)) false:=by
      have e:(talB d).length-u-j=((talB d).length-u-(j+1))+1:=by omega
      have l3:(talB (d.take i)++Qf j true).length=u+j:=by rw [Qc,QO,<-hu]
      rw [Qbn,if_neg (by omega),l3,Qau,e,Qar,Qax,List.replicate_succ',Qu,Qu,Qu]; rfl
     rw [es] at P8
     have w1:Qb .i64 (((u+j:Nat):Int)+1)=((u+(j+1):Nat):Int):=by rw [Za (by omega) (by omega)]; omega
     have w2:=Zq hj (by omega)
     refine⟨_,⟨n8,fun k hk=>?_⟩,s8,rfl,by rw [o8.prot,f1],by rw [o8.len,f2],fun x hx=>(o8.off x hx).trans (f3 x hx),P8⟩
     have r8:=r8 k hk
     simp only at r8
     simp only [Zbd]
     simp only [stp,show (j:Int)<(c:Int) by omega,r8,w1,w2])
    (by
     rintro st ⟨s7,rfl,f1,f2,f3,P7⟩
     exact⟨_,Ev.of fun k=>by simp only [Zbd]; simp only [stp,Qa3],s7,rfl,f1,f2,f3,P7⟩)
    (s:=([.int .i64 0,.int .i64 c,.int .i64 i,.int .i64 ho.len,.slice ho,.int .i64 u,.ptr (some (L+1,0)),.slice hx],s6)) ⟨s6,rfl,e1,e2,e3,by simpa using P6⟩
   obtain⟨n7,e7⟩:=Zc e7
   have w1:Qb .i64 (((u+c:Nat):Int)+1)=((talB (d.take (i+1))).length:Int):=by rw [Za (by omega) (by omega)]; omega
   have eB:talB (d.take i)++Qf c true++Qf ((talB d).length-u-c) false=talB (d.take (i+1))++Qf ((talB d).length-(talB (d.take (i+1))).length) false:=by
    have e:(talB d).length-u-c=((talB d).length-(talB (d.take (i+1))).length)+1:=by omega
    rw [e,Qar,Zae hc,Zc4]
    simp [talB]
   rw [eB] at P7
   refine⟨_,⟨n7,fun k hk=>?_⟩,s7,rfl,f1,f2,f3,P7⟩
   have e7:=e7 k hk
   simp only at e7
   simp only [Zd4]
   simp only [stp,show (i:Int)<(ho.len:Int) by omega,show (0:Int)<=(i:Int) by omega,rc,e7]
   simp only [Zc8]
   simp only [w,w1])
  (by
   rintro st ⟨s6,rfl,e1,e2,e3,P6⟩
   rw [Qo (Qe _),Qau,QaS,QF] at P6
   refine⟨_,Ev.of fun k=>?_,s6,rfl,e1,e2,e3,P6⟩
   simp only [Zd4]
   simp only [stp,show ¬ ((d.length:Int)<ho.len) by omega])
  (s:=([.int .i64 0,.int .i64 ho.len,.slice ho,.int .i64 0,.ptr (some (L+1,0)),.slice hx],s5)) ⟨s5,rfl,rfl,rfl,fun _ _=>rfl,by simpa [talB] using P⟩
 exact⟨s6,e,⟨e1,by omega,fun b hb=>e3 b (by omega)⟩,e2,e3,P6⟩
theorem Zru(hT:σ.Ints h l)(hC:σ.Ints h' lc)(hp:σ.prot<=σ.objs.length)(hlc:lc.length=l.length)(hn:l.length<=2097152) :
  ∃ p σ',Runs Qa 70 [.slice h,.slice h'] σ (.tuple [.ptr p,.int .i64 0]) σ'/\Kp σ.objs.length σ σ'/\∀ σ'':Store,(∀ x,σ.objs.length<=x->x<σ'.objs.length->σ''.objs[x]?=σ'.objs[x]?)->Tal σ'' p l lc:=by
 have lh:=hT.ilen
 have lh':=hC.ilen
 obtain⟨pt,s1,⟨n1,r1⟩,k1,T1⟩:=Zk8 hC hp (by omega)
 have lm1:=k1.len
 obtain⟨m,hm⟩:∃ m,m=s1.objs.length:=⟨_,rfl⟩
 obtain⟨s2,h2⟩:∃ s,s=s1.push (mkCells [.int .i64 0] h.len) 1:=⟨_,rfl⟩
 have k2:Kp m s1 s2:=by rw [h2,hm]; exact Kp.push _ _ (Qe _)
 have R2:s2.Row m 1 (intsL (Qf l.length 0)):=by
  have:=(Store.Row.new:(s1.push (mkCells [.int .i64 0] h.len) 1).Row s1.objs.length 1 _)
  rw [Zac,lh] at this
  rw [h2,hm,Zac,lh]
  exact this
 obtain⟨ho,hho⟩:∃ h':Hdl,h'=⟨some (m,0),h.len,some h.len⟩:=⟨_,rfl⟩
 have k02:Kp σ.objs.length σ s2:=k1.trans (k2.mono (by omega))
 have T2:s2.Ints h l:=Store.Sl.kp hT k02
 have len2:s2.objs.length=m+1:=by rw [h2,hm]; simp
 obtain⟨hb,s3,⟨n3,r3⟩,k3,B3,hbl⟩:=Zgy T2 (by rw [k2.prot,k1.prot]; omega) (by omega)
 have R3:=R2.kp k3 R2.lt
 have lm3:=k3.len
 have p3:s3.prot=σ.prot:=by rw [k3.prot,k2.prot,k1.prot]
 have lb:=B3.ilen
 rw [Zai] at lb
 obtain⟨s4,d,e4,k4,len4,off4,R4,L4,sm4⟩:=Zso (s3:=s3) (m:=m) (pt:=pt) (hb:=hb) (ho:=ho) (lc:=lc) (l:=l)
  (fun s' hs=>T1 s' fun x h1 h2=>by rw [hs x (by omega),k3.keep x (by omega),k2.keep x (by omega)]) B3 (fun e=>by have:=(hbl m e).1; omega) R3 (by omega) hlc hn (by rw [hho,lh]) h
 have ld4:=L4.len
 have lB:=Zc5 d
 obtain⟨s5,⟨n5,r5⟩,k5,len5,P5⟩:=Ze9 (σ:=s4) (n:=l.length+d.sum) (by omega)
 have R5:s5.Row m 1 (intsL (natsI d)):=R4.kp k5 R4.lt
 rw [show l.length+d.sum=(talB d).length by omega] at P5
 obtain⟨s6,e6,k6,len6,off6,P6⟩:=Zsp (s5:=s5) (m:=m) (L:=s4.objs.length) (ho:=ho) (hx:=h) R5 (by omega) P5 (by rw [k5.prot,k4.prot,p3]; omega) (by omega) (by rw [hho,lh,ld4])
 obtain⟨bt,hbt⟩:∃ b,b=s6.objs.length:=⟨_,rfl⟩
 obtain⟨s7,h7⟩:∃ s,s=s6.push [.int .i64 h.len,.ptr none] 2:=⟨_,rfl⟩
 have k7:Kp bt s6 s7:=by rw [h7,hbt]; exact Kp.push _ _ (Qe _)
 have R7:s7.Row bt 2 [.int .i64 h.len,.ptr none]:=by rw [h7,hbt]; exact Store.Row.new
 have len7:s7.objs.length=bt+1:=by rw [h7,hbt]; simp
 have P7:Pk s7 s4.objs.length (talB d):=P6.keep (k7.keep _ (by omega)) (k7.keep _ (by omega))
 have p7:s7.prot=σ.prot:=by rw [k7.prot,k6.prot,k5.prot,k4.prot,p3]
 obtain⟨pv,s8,⟨n8,r8⟩,k8,V8⟩:=Zfa P7 (by rw [p7]; omega) (by omega)
 have lm8:=k8.len
 have R8:=R7.kp k8 R7.lt
 have t9:=Zw R8 (o:=1) (by rw [k8.prot,p7]; omega) (by simp) (v:=.ptr pv) rfl
 obtain⟨s9,h9⟩:∃ s,s=s8.setO bt (.cells ([Qbt .i64 h.len,.ptr none].set 1 (.ptr pv)) true 2):=⟨_,rfl⟩
 rw [<-h9] at t9
 have R9:s9.Row bt 2 [.int .i64 h.len,.ptr pv]:=by rw [h9]; exact Store.Row.setO_eq R8.lt
 have off9:∀ x,x≠bt->s9.objs[x]?=s8.objs[x]?:=fun x hx=>by rw [h9]; show (s8.objs.set bt _)[x]?=_; rw [Qm,if_neg (Ne.symm hx)]
 have len9:s9.objs.length=s8.objs.length:=by rw [h9]; simp
 obtain⟨n4,e4⟩:=Zc e4
 obtain⟨n6,e6⟩:=Zc e6
 have c1:((0:Int)<=h.len/\(h.len:Int)<=h.len)/\(h.len:Int)*((8:Nat):Int)<=281474976710656:=by omega
 refine⟨some (bt,0),s9,rI Tryz.f70 ⟨n1+n3+n4+n5+n6+n8,fun k hk=>?_⟩,⟨by rw [h9]; show s8.prot=_; rw [k8.prot,p7],by omega,fun x hx=>?_⟩,fun σ'' kq=>⟨⟨bt,pv,d,rfl,?_,?_,L4⟩,hn⟩⟩
 ·have r1:=r1 k (by omega)
  have r3:=r3 k (by omega)
  have e4:=e4 k (by omega)
  have r5:=r5 k (by omega)
  have e6:=e6 k (by omega)
  have r8:=r8 k (by omega)
  simp only at r1 r3 e4 r5 e6 r8
  have c2:((h.len:Nat):Int)=(h'.len:Nat):=by omega
  have c3:¬ ((2097152:Int)<(h'.len:Int)):=by omega
  have c4:((0:Int)<=h'.len/\(h'.len:Int)<=h'.len)/\(h'.len:Int)*((8:Nat):Int)<=281474976710656:=by omega
  simp only [Z4r]
  simp only [stp,r1,c2,c3,if_pos c4,Ql]
  rw [show h'.len=h.len by omega,<-hm,<-hho,<-h2]
  simp only [r3,Qd,Qbq,lb,lh,e4]
  rw [Zke]
  simp only [stp,r5,e6]
  rw [Zha]
  simp only [<-h7,<-hbt,r8,stp,t9]
 ·rw [off9 x (by omega),k8.keep x (by omega),k7.keep x (by omega),off6 x (by omega),k5.keep x (by omega),off4 x (by omega),k3.keep x (by omega)]; exact k02.keep x hx
 ·have:=(kq bt (by omega) R9.lt).trans R9
  rw [lh] at this; exact this
 ·have V9:=V8.keep (σ':=σ'') fun x hx=>(kq x (by omega) (by omega)).trans (off9 x (by omega))
  exact V9.vec
end
section
variable {σ:Store} {p:Ptr} {l lc:List Int}
theorem Zmu{b:Nat}{pv:Ptr}{d:List Nat}(R:σ.Row b 2 [.int .i64 l.length,.ptr pv])(V:Vec σ pv (talB d))(L:Links l lc d)(hn:l.length<=2097152){i:Nat}(hi:i<=l.length) :
  ∃ σ',Runs Qa 134 [.ptr (some (b,0)),.int .i64 i] σ (.int .i64 (d.take i).sum) σ'/\Kp σ.objs.length σ σ':=by
 have sm:=V.small
 have e1:=Zaj R (o:=1) rfl
 by_cases c:i=0
 ·subst c
  refine⟨σ,rI Tryz.f134 (Ev.of fun k=>?_),Kp.refl _ _⟩
  simp only [Zs2]
  simp only [stp,Int.natCast_zero,Qay,Qbe]
 ·have ld:=L.len
  obtain⟨c0,hc0⟩:∃ c0,d[i-1]?=some c0:=⟨_,Qi (by omega)⟩
  obtain⟨q1,q2,q3⟩:=Z34 hc0
  obtain⟨σ',⟨n1,r1⟩,K⟩:=Zsi V q1 q2
  rw [q3] at r1
  have es:(d.take i).sum=(d.take (i-1)).sum+c0:=by
   have:=Zae hc0
   rw [show i-1+1=i by omega] at this
   rw [this]; simp
  have w1:Qb .i64 ((i:Int)-1)=((i-1:Nat):Int):=by rw [Za (by omega) (by omega)]; omega
  have w2:Qb .i64 ((((d.take (i-1)).sum+(i-1)+c0:Nat):Int)-(i:Int))=(((d.take (i-1)).sum+(i-1)+c0:Nat):Int)-(i:Int):=Za (by omega) (by omega)
  have w3:Qb .i64 ((((d.take (i-1)).sum+(i-1)+c0:Nat):Int)-(i:Int)+1)=((d.take i).sum:Nat):=by rw [Za (by omega) (by omega)]; omega
  refine⟨σ',rI Tryz.f134 ⟨n1,fun k hk=>?_⟩,K⟩
  have r1:=r1 k hk
  simp only at r1
  simp only [Zs2]
  simp only [stp,show ¬ ((i:Int)=0) by omega,e1,w1,r1,w2,w3]
theorem Zy0(T:Tal σ p l lc)(hp:σ.prot<=σ.objs.length){m:Int}{a b:Nat}(hab:a<b)(hb:b<=l.length)
  (hL:∀ k:Int,(a:Int)<k->k<b->m<=rd lc k) (hA:(a:Int)=0\/rd lc a<m) (hB:(b:Int)=l.length\/rd lc b<m) :
  ∃ σ',Runs Qa 72 [.ptr p,.int .i64 a,.int .i64 b] σ (.int .i64 (dOf [] (seg l a b)).length) σ'/\Kp σ.objs.length σ σ':=by
 obtain⟨bb,pv,d,rfl,R,V,L⟩:=T.ex
 have sm:=T.small
 have e0:=Zd R (o:=0) rfl
 obtain⟨s1,⟨n1,r1⟩,k1⟩:=Zmu R V L sm (i:=b) hb
 obtain⟨s2,⟨n2,r2⟩,k2⟩:=Zmu (R.kp k1 R.lt) (V.keep k1.keep) L sm (i:=a+1) (by omega)
 have ld:=Zvd L hab hb hL hA hB
 have ot:=Zvm l (a:=a) (b:=b) (by omega)
 have od:=Zx0 (l:=l) (a:=a) (b:=b) (by omega) hb
 have w1:Qb .i64 ((a:Int)+1)=((a+1:Nat):Int):=by rw [Za (by omega) (by omega)]; omega
 have w2:Qb .i64 ((b:Int)-(a:Int))=(b:Int)-a:=Za (by omega) (by omega)
 have w3:Qb .i64 ((((d.take b).sum:Nat):Int)-((d.take (a+1)).sum:Nat))=(twice l a b:Nat):=by rw [Za (by omega) (by omega)]; omega
 have w4:Qb .i64 ((b:Int)-(a:Int)-(twice l a b:Nat))=((dOf [] (seg l a b)).length:Nat):=by rw [Za (by omega) (by omega)]; omega
 refine⟨s2,rI Tryz.f72 ⟨n1+n2,fun k hk=>?_⟩,k1.all k2⟩
 have r1:=r1 k (by omega)
 have r2:=r2 k (by omega)
 simp only at r1 r2
 simp only [Zw2]
 simp only [stp,Qn,show ¬ ((a:Int)<0) by omega,show ¬ ((b:Int)<=(a:Int)) by omega,e0,show ¬ ((l.length:Int)<(b:Int)) by omega,r1,w1,r2,w2,w3,w4]
theorem Zv4(T:Tal σ p l lc){a b:Int}(hab:b<=a):Runs Qa 72 [.ptr p,.int .i64 a,.int .i64 b] σ (.int .i64 0) σ:=by
 obtain⟨bb,pv,d,rfl,R,V,L⟩:=T.ex
 refine rI Tryz.f72 (Ev.of fun k=>?_)
 simp only [Zw2]
 by_cases c:a<0
 ·simp only [stp,Qn,c]
 ·simp only [stp,Qn,c,hab]
end
end Go.Ab

namespace Go.Ab
open Go Go.Proofs Go.Ab.Wd Go.Ab.Bs Go.Ab.Sai
section
variable {σ:Store}
theorem Zye(h:Hdl)(hp:σ.prot<=σ.objs.length):∃ σ',Runs Qa 82 [.ptr none,.slice h] σ (.tuple [.int .i64 0,.int .i64 0]) σ'/\Kp σ.objs.length σ σ':=by
 obtain⟨N,hN⟩:∃ N,N=σ.objs.length:=⟨_,rfl⟩
 obtain⟨σ1,h1⟩:∃ s,s=σ.push [.ptr none] 1:=⟨_,rfl⟩
 obtain⟨σ2,h2⟩:∃ s,s=σ1.push [.int .i64 0] 1:=⟨_,rfl⟩
 obtain⟨σ3,h3⟩:∃ s,s=σ2.push [.int .i64 0] 1:=⟨_,rfl⟩
 have l1:σ1.objs.length=N+1:=by rw [h1,hN]; simp
 have l2:σ2.objs.length=N+2:=by rw [h2]; simp [l1]
 have R01:σ1.Row N 1 [.ptr none]:=by rw [h1,hN]; exact Store.Row.new
 have R03:σ3.Row N 1 [.ptr none]:=by rw [h3,h2]; exact R01.push.push
 have R12:σ2.Row (N+1) 1 [.int .i64 0]:=by rw [h2,<-l1]; exact Store.Row.new
 have R13:σ3.Row (N+1) 1 [.int .i64 0]:=by rw [h3]; exact R12.push
 have R23:σ3.Row (N+2) 1 [.int .i64 0]:=by rw [h3,<-l2]; exact Store.Row.new
 have K3:Kp N σ σ3:=by rw [h3,h2,h1,hN]; exact ((Kp.push _ _ (Qe _)).push' (by simp)).push' (by simp; omega)
 have p3:σ3.prot<=N:=by rw [K3.prot,hN]; exact hp
 have f0:=Zmi R03
 obtain⟨s4,t4,e4,R14,k4⟩:=Za7 (w:=.int .i64 0) R13 (by omega) rfl
 obtain⟨s5,t5,e5,R25,k5⟩:=Za7 (w:=.int .i64 0) (k4 R23 (by omega)) (by rw [e4,setO_prot]; omega) rfl
 have g1:=Zag (k5 R14 (by omega))
 have g2:=Zag R25
 refine⟨s5,rI Tryz.f82 (Ev.of fun k=>?_),by rw [e5,e4,<-hN]; exact (K3.setO (by omega)).setO (by omega)⟩
 simp only [Zkh]
 simp only [stp,<-h1,<-h2,<-h3,<-hN,l1,l2,f0,Option.isNone_none,t4,t5,g1,g2]
end
end Go.Ab

namespace Go.Ab
open Go Go.Proofs Go.Ab.Wd Go.Ab.Bs Go.Ab.Sai
theorem Zjs{N:Int}:∀ {D:List (List Int)} {i x:Int},Byts D->x∈symF N i D->(N<=x/\x<N+256)\/(i<=x/\x<i+D.length)
 | [],i,x,_,h=>by simp [symF] at h
 | d::r,i,x,hb,h=>by
  simp only [symF,Qw,Qp,Qx] at h
  simp only [Qh]
  rcases h with ⟨y,hy,rfl⟩ | rfl | h
  ·have:=hb d (by simp) y hy; omega
  ·omega
  ·have:=Zjs (fun d hd=>hb d (by simp [hd])) h; omega
theorem Zrt{D:List (List Int)}(hb:Byts D):∀ x∈syms D,0<=x/\x<(D.length+256:Nat):=fun x hx=>by
 have:=Zjs hb hx; omega
theorem Zyx(A:List (List Int))(d:List Int):syms (A++[d])=symF ((A++[d]).length:Nat) 0 A++d.map (fun b=>((A++[d]).length:Int)+b)++[(A.length:Int)]:=by
 unfold syms
 rw [Zfb,QaA]
 simp [symF]
theorem Zn3{D:List (List Int)}(hb:Byts D)(h0:D≠[]):Bs.Ends (syms D):=by
 obtain⟨A,d,rfl⟩:∃ A d,D=A++[d]:=⟨D.dropLast,D.getLast h0,(Qaq h0).symm⟩
 have hA:Byts A:=fun e he=>hb e (by simp [he])
 have hd:∀ x∈d,(0:Int)<=x/\x<256:=hb d (by simp)
 rw [Zyx]
 obtain⟨U,hU⟩:∃ U,U=symF ((A++[d]).length:Nat) 0 A++d.map (fun b=>((A++[d]).length:Int)+b):=⟨_,rfl⟩
 rw [<-hU]
 have hu:∀ x∈U,x≠(A.length:Int):=fun x hx e=>by
  rw [hU,Qw] at hx
  rcases hx with hx | hx
  ·have:=Zjs hA hx
   simp only [Qc,Qr] at this; omega
  ·obtain⟨y,hy,e2⟩:=Qp.1 hx
   have:=hd y hy
   simp only [Qc,Qr] at e2; omega
 have last:rd (U++[(A.length:Int)]) (((U++[(A.length:Int)]).length:Int)-1)=A.length:=by
  rw [Zbe (by simp) (by simp; omega)]
  simp [rd]
 refine⟨by simp,fun i i0 i1 e=>?_⟩
 rw [last,Zcw i0 (by simp at i1; omega)] at e
 exact hu _ (Ze i0 (by simp at i1; omega)) e
theorem Zpi:∀ {D:List (List Int)} {i x:Int},0<=x->x<tot D->i<=(docF i D x).1/\(docF i D x).1<i+D.length/\0<=(docF i D x).2
 | [],i,x,h0,h1=>by simp [tot] at h1; omega
 | d::r,i,x,h0,h1=>by
  simp only [tot] at h1
  simp only [docF,Qh]
  split
  ·simp only; omega
  ·have:=Zpi (D:=r) (i:=i+1) (x:=x-(d.length+1)) (by omega) (by omega)
   omega
def das(D:List (List Int)):List Int:=daOf D (saOf (syms D))
theorem Z8(D:List (List Int)):(das D).length=tot D:=by simp [das,daOf,Z7,Zas]
theorem Z1h(D:List (List Int)):∀ x∈das D,0<=x/\x<D.length:=fun x hx=>by
 unfold das daOf at hx
 obtain⟨y,hy,rfl⟩:=Qp.1 hx
 have:=(Zi (syms D)).perm.rng y hy
 rw [Zas] at this
 have:=Zpi (D:=D) (i:=0) this.1 this.2
 omega
theorem Z5k{D:List (List Int)}{j:Int}(h0:0<=j)(h1:j<tot D):rd (das D) j=(docF 0 D (rd (saOf (syms D)) j)).1:=by
 obtain⟨k,rfl⟩:∃ k:Nat,j=k:=⟨j.toNat,by omega⟩
 rw [Zb (by rw [Z8]; omega)]
 unfold das daOf
 rw [Qa9,Zb (by rw [Z7,Zas]; omega)]
structure Idx (σ:Store) (p:Ptr) (D:List (List Int)):Prop where
 ex:∃ (b:Nat) (pt pf pm pl pn:Ptr),p=some (b,0)/\σ.Row b 5 [.ptr pt,.ptr pf,.ptr pm,.ptr pl,.ptr pn]/\Txt σ pt D/\(D=[]->pf=none)/\(D≠[]->Fnd σ pf (syms D) (D.length+256) 8) /\
  Mat σ pm (das D) 8/\Lst σ pl (das D)/\Tal σ pn (das D) (lcpA (syms D) (saOf (syms D)))
 byte:Byts D
 ok:okD D
theorem Idx.keep{σ σ':Store}{p:Ptr}{D:List (List Int)}(t:Idx σ p D)(k:∀ x:Nat,x<σ.objs.length->σ'.objs[x]?=σ.objs[x]?):Idx σ' p D:=by
 obtain⟨b,pt,pf,pm,pl,pn,e,R,T,F0,F,M,L,N⟩:=t.ex
 exact⟨⟨b,pt,pf,pm,pl,pn,e,(k b R.lt).trans R,T.keep k,F0,fun h=>(F h).keep k,M.keep k,L.keep k,N.keep k⟩,t.byte,t.ok⟩
theorem Idx.kp{σ σ':Store}{p:Ptr}{D:List (List Int)}(t:Idx σ p D)(k:Kp σ.objs.length σ σ'):Idx σ' p D:=t.keep k.keep
theorem Z5x{w:Nat}(h:IsWid 255 w):w=8:=h.uniq ⟨by omega,by omega,by decide,.inr (by decide)⟩
theorem Zdu{s:Store}{b:Nat}{o:AObj}{x:Nat}(h:x≠b):(s.setO b o).objs[x]?=s.objs[x]?:=by
 show (s.objs.set b o)[x]?=_
 rw [Qm,if_neg (Ne.symm h)]
theorem Zmw{σ:Store}{h:Hdl}{D:List (List Int)}(hD:Dcs σ h D)(hp:σ.prot<=σ.objs.length)(hl:∀ d∈D,d.length<2^40)(hb:Byts D) :
  (okD D/\∃ p σ',Runs Qa 17 [.slice h] σ (.tuple [.ptr p,.int .i64 0]) σ'/\Kp σ.objs.length σ σ'/\p.isNone=false/\∀ σ'':Store,(∀ x,σ.objs.length<=x->x<σ'.objs.length->σ''.objs[x]?=σ'.objs[x]?)->Idx σ'' p D) \/
  (¬ okD D/\∃ σ',Runs Qa 17 [.slice h] σ (.tuple [.ptr none,.int .i64 80]) σ'/\Kp σ.objs.length σ σ'):=by
 rcases Zss hD hp hl with ⟨ok,pt,s1,⟨n1,r1⟩,k1,ptn,T1⟩ | ⟨bad,s1,⟨n1,r1⟩,k1⟩
 case inr=>
  refine .inr ⟨bad,s1,rI Tryz.f17 ⟨n1,fun k hk=>?_⟩,k1⟩
  have r1:=r1 k hk
  simp only at r1
  simp only [Zwv]
  simp only [stp,r1,show ¬ ((80:Int)=0) by omega]
 refine .inl ⟨ok,?_⟩
 have tb:=Zbb D
 have o1:=ok.1
 have o2:=ok.2
 have lsy:=Zas D
 have lm1:=k1.len
 have T1':=T1 s1 fun _ _ _=>rfl
 have p1:s1.prot=σ.prot:=k1.prot
 obtain⟨hs,s2,⟨n2,r2⟩,k2,G2⟩:=Zy3 T1' (by omega) hb
 have lm2:=k2.len
 have p2:s2.prot=σ.prot:=k2.prot.trans p1
 have T2:=T1'.kp k2
 obtain⟨n3,r3⟩:=Zrv T2
 obtain⟨ha,s3,⟨n4,r4⟩,k3,A3,H3,F3⟩:=Zgq (al:=(D.length+256:Nat)) G2.ints (Grow.has G2) (by omega) (by omega)
 have okt:okT (syms D) (D.length+256:Nat)=true:=Zmg.2 ⟨by omega,by omega,by omega,Zrt hb⟩
 rw [if_pos okt] at r4 A3
 have lm3:=k3.len
 have p3:s3.prot=σ.prot:=k3.prot.trans p2
 have T3:=T2.kp k3
 obtain⟨hd,s4,⟨n5,r5⟩,k4,D4,HD4⟩:=Zr2 T3 (by omega) A3 (lsy ▸ (Zi (syms D)).perm)
 have lm4:=k4.len
 have p4:s4.prot=σ.prot:=k4.prot.trans p3
 have S2:s4.Ints hs (syms D):=Store.Sl.kp (Store.Sl.kp G2.ints k3) k4
 have A4:s4.Ints ha (saOf (syms D)):=Store.Sl.kp A3 k4
 obtain⟨hc,s5,⟨n6,r6⟩,k5,C5,HC5⟩:=Zu9 S2 A4 (by omega) (by omega)
 have lm5:=k5.len
 have p5:s5.prot=σ.prot:=k5.prot.trans p4
 obtain⟨b,hb_⟩:∃ b,b=s5.objs.length:=⟨_,rfl⟩
 obtain⟨s6,h6⟩:∃ s,s=s5.push [.ptr pt,.ptr none,.ptr none,.ptr none,.ptr none] 5:=⟨_,rfl⟩
 have k6:Kp b s5 s6:=by rw [h6,hb_]; exact Kp.push _ _ (Qe _)
 have R6:s6.Row b 5 [.ptr pt,.ptr none,.ptr none,.ptr none,.ptr none]:=by rw [h6,hb_]; exact Store.Row.new
 have lm6:s6.objs.length=b+1:=by rw [h6,hb_]; simp
 have p6:s6.prot=σ.prot:=k6.prot.trans p5
 have k26:Kp s2.objs.length s2 s6:=((k3.trans (k4.mono (by omega))).trans (k5.mono (by omega))).trans (k6.mono (by omega))
 have T6:=T2.kp k26
 obtain⟨n7,r7⟩:=Zrv T6
 have S6:s6.Ints hs (syms D):=Store.Sl.kp G2.ints k26
 have A6:s6.Ints ha (saOf (syms D)):=Store.Sl.kp (Store.Sl.kp A4 k5) (hb_ ▸ k6)
 have C6:s6.Ints hc (lcpA (syms D) (saOf (syms D))):=Store.Sl.kp C5 (hb_ ▸ k6)
 have D6:s6.Ints hd (das D):=Store.Sl.kp (Store.Sl.kp D4 k5) (hb_ ▸ k6)
 have fnd:∃ pf s7,Runs Qa 67 [.slice hs,.slice ha,.int .i64 (D.length+256:Nat),.int .i64 8] s6 (.tuple [.ptr pf,.int .i64 (if D=[] then 2 else 0)]) s7/\Kp s6.objs.length s6 s7/\(D=[]->pf=none)/\∀ σ'':Store,(∀ x,s6.objs.length<=x->x<s7.objs.length->σ''.objs[x]?=s7.objs[x]?)->D≠[]->Fnd σ'' pf (syms D) (D.length+256) 8:=by
  by_cases c:D=[]
  ·obtain⟨s7,r,K⟩:=Zzx (al:=(D.length+256:Nat)) (st:=8) S6 ((Grow.has G2).kp k26) A6 (by omega) (by omega) (fun o=>by have:=o.2.1; rw [lsy,c] at this; simp [tot] at this)
   exact⟨none,s7,by rw [if_pos c]; exact r,K,fun _=>rfl,fun _ _ h=>absurd c h⟩
  ·have ends:=Zn3 hb c
   obtain⟨p,s7,r,K,F⟩:=Zw6 (al:=D.length+256) (s:=8) S6 ((Grow.has G2).kp k26) A6 (by omega) ⟨okt,ends.1,by omega,rfl,ends,by omega,by omega⟩
   exact⟨p,s7,by rw [if_neg c]; exact r,K,fun h=>absurd h c,fun σ'' kq _=>F σ'' kq⟩
 obtain⟨pf,s7,⟨n8,r8⟩,k7,F0,F7⟩:=fnd
 have lm7:=k7.len
 have p7:s7.prot=σ.prot:=k7.prot.trans p6
 have R7:=R6.kp k7 R6.lt
 have t8:=Zw R7 (o:=1) (by omega) (by simp) (v:=.ptr pf) rfl
 obtain⟨s8,h8⟩:∃ s,s=s7.setO b (.cells ([Qb5 pt,.ptr none,.ptr none,.ptr none,.ptr none].set 1 (.ptr pf)) true 5):=⟨_,rfl⟩
 rw [<-h8] at t8
 have R8:s8.Row b 5 [.ptr pt,.ptr pf,.ptr none,.ptr none,.ptr none]:=by rw [h8]; exact Store.Row.setO_eq R7.lt
 have lm8:s8.objs.length=s7.objs.length:=by rw [h8]; simp
 have o8:∀ x,x≠b->s8.objs[x]?=s7.objs[x]?:=fun x hx=>by rw [h8]; exact Zdu hx
 have p8:s8.prot=σ.prot:=by rw [h8]; exact p7
 have hrow_ne:∀ {g:Hdl} {l:List Int},s6.Ints g l->(g.len=0\/∀ x,g.row=some x->x<b)->∀ s':Store,(∀ x,x<b->s'.objs[x]?=s6.objs[x]?)->s'.Ints g l:=fun {g l} S hr s' hs'=>by
  refine⟨Store.Sl.len S,?_⟩
  rcases Store.Sl.row S with h1 | ⟨c,o,cs,rw,h1,h2,h3⟩
  ·exact .inl h1
  ·rcases hr with hr | hr
   ·exact .inl hr
   ·exact .inr ⟨c,o,cs,rw,h1,(hs' c (hr c (by simp [Hdl.row,h1]))).trans h2,h3⟩
 have d_lt:hd.len=0\/∀ x,hd.row=some x->x<b:=.inr fun x hx=>by have:=HD4 x hx; omega
 have c_lt:hc.len=0\/∀ x,hc.row=some x->x<b:=.inr fun x hx=>by have:=HC5 x hx; omega
 have f68:∀ x,x<b->s8.objs[x]?=s6.objs[x]?:=fun x hx=>(o8 x (by omega)).trans (k7.keep x (by omega))
 have D8:=hrow_ne D6 d_lt s8 f68
 have okw:okW (das D) 255=true:=Zmh.2 ⟨by omega,by omega,by rw [Z8]; omega,fun x hx=>by have:=Z1h D x hx; omega⟩
 obtain⟨pm,w,s9,⟨n9,r9⟩,k9,M9,W9,pmn,F9⟩:=Zja (most:=255) D8 (by omega) okw
 have w8:w=8:=Z5x W9
 subst w8
 have lm9:=k9.len
 have p9:s9.prot=σ.prot:=k9.prot.trans p8
 have R9:=R8.kp k9 R8.lt
 have t10:=Zw R9 (o:=2) (by omega) (by simp) (v:=.ptr pm) rfl
 obtain⟨s10,h10⟩:∃ s,s=s9.setO b (.cells ([Qb5 pt,.ptr pf,.ptr none,.ptr none,.ptr none].set 2 (.ptr pm)) true 5):=⟨_,rfl⟩
 rw [<-h10] at t10
 have R10:s10.Row b 5 [.ptr pt,.ptr pf,.ptr pm,.ptr none,.ptr none]:=by rw [h10]; exact Store.Row.setO_eq R9.lt
 have lm10:s10.objs.length=s9.objs.length:=by rw [h10]; simp
 have o10:∀ x,x≠b->s10.objs[x]?=s9.objs[x]?:=fun x hx=>by rw [h10]; exact Zdu hx
 have p10:s10.prot=σ.prot:=by rw [h10]; exact p9
 have f610:∀ x,x<b->s10.objs[x]?=s6.objs[x]?:=fun x hx=>((o10 x (by omega)).trans (k9.keep x (by omega))).trans (f68 x hx)
 have D10:=hrow_ne D6 d_lt s10 f610
 obtain⟨pl,s11,⟨n11,r11⟩,k11,L11⟩:=Zsa D10 (by omega) (by rw [Z8]; omega)
 have lm11:=k11.len
 have p11:s11.prot=σ.prot:=k11.prot.trans p10
 have R11:=R10.kp k11 R10.lt
 have t12:=Zw R11 (o:=3) (by omega) (by simp) (v:=.ptr pl) rfl
 obtain⟨s12,h12⟩:∃ s,s=s11.setO b (.cells ([Qb5 pt,.ptr pf,.ptr pm,.ptr none,.ptr none].set 3 (.ptr pl)) true 5):=⟨_,rfl⟩
 rw [<-h12] at t12
 have R12:s12.Row b 5 [.ptr pt,.ptr pf,.ptr pm,.ptr pl,.ptr none]:=by rw [h12]; exact Store.Row.setO_eq R11.lt
 have lm12:s12.objs.length=s11.objs.length:=by rw [h12]; simp
 have o12:∀ x,x≠b->s12.objs[x]?=s11.objs[x]?:=fun x hx=>by rw [h12]; exact Zdu hx
 have p12:s12.prot=σ.prot:=by rw [h12]; exact p11
 have f612:∀ x,x<b->s12.objs[x]?=s6.objs[x]?:=fun x hx=>((o12 x (by omega)).trans (k11.keep x (by omega))).trans (f610 x hx)
 have D12:=hrow_ne D6 d_lt s12 f612
 have C12:=hrow_ne C6 c_lt s12 f612
 obtain⟨pn,s13,⟨n13,r13⟩,k13,N13⟩:=Zru D12 C12 (by omega) (by rw [Zc1,Z8,lsy]) (by rw [Z8]; omega)
 have lm13:=k13.len
 have p13:s13.prot=σ.prot:=k13.prot.trans p12
 have R13:=R12.kp k13 R12.lt
 have t14:=Zw R13 (o:=4) (by omega) (by simp) (v:=.ptr pn) rfl
 obtain⟨s14,h14⟩:∃ s,s=s13.setO b (.cells ([Qb5 pt,.ptr pf,.ptr pm,.ptr pl,.ptr none].set 4 (.ptr pn)) true 5):=⟨_,rfl⟩
 rw [<-h14] at t14
 have R14:s14.Row b 5 [.ptr pt,.ptr pf,.ptr pm,.ptr pl,.ptr pn]:=by rw [h14]; exact Store.Row.setO_eq R13.lt
 have lm14:s14.objs.length=s13.objs.length:=by rw [h14]; simp
 have o14:∀ x,x≠b->s14.objs[x]?=s13.objs[x]?:=fun x hx=>by rw [h14]; exact Zdu hx
 have p14:s14.prot=σ.prot:=by rw [h14]; exact p13
 have g12:∀ x,x≠b->x<s12.objs.length->s14.objs[x]?=s12.objs[x]?:=fun x hx hl=>(o14 x hx).trans (k13.keep x hl)
 have g11:∀ x,x≠b->x<s11.objs.length->s14.objs[x]?=s11.objs[x]?:=fun x hx hl=>(g12 x hx (by omega)).trans (o12 x hx)
 have g9:∀ x,x≠b->x<s9.objs.length->s14.objs[x]?=s9.objs[x]?:=fun x hx hl=>((g11 x hx (by omega)).trans (k11.keep x (by omega))).trans (o10 x hx)
 have g7:∀ x,x≠b->x<s7.objs.length->s14.objs[x]?=s7.objs[x]?:=fun x hx hl=>((g9 x hx (by omega)).trans (k9.keep x (by omega))).trans (o8 x hx)
 have g5:∀ x,x<s5.objs.length->s14.objs[x]?=s5.objs[x]?:=fun x hl=>((g7 x (by omega) (by omega)).trans (k7.keep x (by omega))).trans (k6.keep x (by omega))
 have g1:∀ x,x<s1.objs.length->s14.objs[x]?=s1.objs[x]?:=fun x hl=>(((g5 x (by omega)).trans (k5.keep x (by omega))).trans (k4.keep x (by omega))).trans ((k3.keep x (by omega)).trans (k2.keep x (by omega)))
 refine⟨some (b,0),s14,rI Tryz.f17 ⟨n1+n2+n3+n4+n5+n6+n7+n8+n9+n11+n13,fun k hk=>?_⟩,⟨p14,by omega,fun x hx=>(g1 x (by omega)).trans (k1.keep x hx)⟩,rfl,fun σ'' kq=>⟨⟨b,pt,pf,pm,pl,pn,rfl,(kq b (by omega) R14.lt).trans R14,?_,F0,?_,?_,?_,?_⟩,hb,ok⟩⟩
 ·have r1:=r1 k (by omega)
  have r2:=r2 k (by omega)
  have r3:=r3 k (by omega)
  have r4:=r4 k (by omega)
  have r5:=r5 k (by omega)
  have r6:=r6 k (by omega)
  have r7:=r7 k (by omega)
  have r8:=r8 k (by omega)
  have r9:=r9 k (by omega)
  have r11:=r11 k (by omega)
  have r13:=r13 k (by omega)
  simp only at r1 r2 r3 r4 r5 r6 r7 r8 r9 r11 r13
  simp only [Zwv]
  simp only [stp,r1,r2,r3,r4,r5,r6,<-h6,<-hb_,r7,r8,t8,r9,t10,r11,t12,r13,t14]
 ·exact T1 σ'' fun x h1 h2=>(kq x h1 (by omega)).trans (g1 x h2)
 ·exact fun hne=>F7 σ'' (fun x h1 h2=>(kq x (by omega) (by omega)).trans (g7 x (by omega) h2)) hne
 ·exact Mat.from_ F9 fun x h1 h2=>(kq x (by omega) (by omega)).trans (g9 x (by omega) h2)
 ·exact L11 σ'' fun x h1 h2=>(kq x (by omega) (by omega)).trans (g11 x (by omega) h2)
 ·exact N13 σ'' fun x h1 h2=>(kq x (by omega) (by omega)).trans (o14 x (by omega))
end Go.Ab

namespace Go.Ab
open Go Go.Proofs Go.Ab.Wd Go.Ab.Bs Go.Ab.Sai
def ranI(D:List (List Int))(q:List Int):Int×Int:=if D=[] then (0,0) else ran (syms D) (D.length+256) (q.map fun b=>(D.length:Int)+b)
theorem Zx4{t p:List Int}{x:Int}(h0:0<=x)(h1:x<=t.length):Pf t x p ↔ p <+: t.drop x.toNat:=by
 have rdd:∀ k:Nat,rd t (x+k)=(t.drop x.toNat).getD k 0:=fun k=>Zfm t x k h0
 constructor
 ·rintro⟨_,h2,h3⟩
  rw [List.prefix_iff_eq_take]
  apply Qaf (by simp; omega)
  intro i i1 i2
  have:=h3 i i1
  rw [rdd,Zb i1,Q0,Qi (by simp; omega)] at this
  rw [QZ]
  exact this.symm
 ·intro h
  have hl:=h.length_le
  rw [QB] at hl
  refine⟨h0,by omega,fun k hk=>?_⟩
  obtain⟨r,hr⟩:=h
  rw [rdd,Zb hk,<-hr,Q0,Q4 hk,Qi hk]
  rfl
structure RanOk (D:List (List Int)) (q:List Int) (a z:Nat):Prop where
 eq:ranI D q=((a:Int),(z:Int))
 le:a<=z
 lt:z<=tot D
 docs:(seg (das D) a z).Perm ((occP q 0 D).map (·.1))
 len:z-a=(occP q 0 D).length
 places:((QN (z-a)).map fun j:Nat=>docF 0 D (rd (saOf (syms D)) ((a:Int)+j))).Perm (occP q 0 D)
 none:¬ a<z->a=0/\z=0
 lcp:a<z->(∀ k:Int,(a:Int)<k->k<z->(q.length:Int)<=rd (lcpA (syms D) (saOf (syms D))) k)/\((a:Int)=0\/rd (lcpA (syms D) (saOf (syms D))) a<q.length)/\((z:Int)=(das D).length\/rd (lcpA (syms D) (saOf (syms D))) z<q.length)
theorem Zig{D:List (List Int)}{q:List Int}(hb:Byts D)(hq:q≠[])(q0:∀ b∈q,(0:Int)<=b):∃ a z,RanOk D q a z:=by
 by_cases c:D=[]
 ·subst c
  refine⟨0,0,rfl,Qe _,QJ _,?_,by simp [occP],by simp [occP],fun _=>⟨rfl,rfl⟩,fun h=>by omega⟩
  simp [occP,seg,das,daOf,saOf,saUpto,syms,symF]
 obtain⟨t,ht⟩:∃ t,t=syms D:=⟨_,rfl⟩
 obtain⟨P,hP⟩:∃ P:List Int,P=q.map fun b=>(D.length:Int)+b:=⟨_,rfl⟩
 have ends:=Zn3 hb c
 have rng:=Zrt hb
 rw [<-ht] at ends rng
 have SA:=Zi t
 have ls:=SA.perm.len
 have lt:t.length=tot D:=by rw [ht,Zas]
 have er:ranI D q=ran t (D.length+256) P:=by unfold ranI; rw [if_neg c,<-ht,<-hP]
 have pn:P≠[]:=by rw [hP]; simpa using hq
 have pl:plsOf t (D.length+256) P=refPls t P:=Z5e ends rng P
 unfold plsOf at pl
 rw [if_neg pn] at pl
 have key:∃ a z:Nat,ran t (D.length+256) P=((a:Int),(z:Int))/\a<=z/\z<=t.length/\(¬ a<z->a=0/\z=0)/\(a<z->IsRng t (saOf t) P a z):=by
  rcases Zrd ends rng P with ⟨a,z,R,haz,e⟩ | ⟨e,_⟩
  ·exact⟨a,z,e,by omega,R.lz,fun h=>by omega,fun _=>R⟩
  ·exact⟨0,0,e,Qe _,QJ _,fun _=>⟨rfl,rfl⟩,fun h=>by omega⟩
 obtain⟨a,z,e,haz,hz,hn,hR⟩:=key
 rw [e] at pl
 simp only at pl
 have em:((z:Int)-(a:Int)).toNat=z-a:=by omega
 rw [em] at pl
 have pp:(suf t a (z-a)).Perm (refPls t P):=by rw [<-pl]; exact (Za4 _).symm
 have pd:((suf t a (z-a)).map (docF 0 D)).Perm (occP q 0 D):=by
  have:=pp.map (docF 0 D)
  rw [ht,hP,Zse hq q0] at this
  rw [ht]; exact this
 have el:((QN (z-a)).map fun j:Nat=>docF 0 D (rd (saOf (syms D)) ((a:Int)+j)))=(suf t a (z-a)).map (docF 0 D):=by
  unfold suf
  rw [QU,<-ht]; rfl
 have sg:seg (das D) a z=(suf t a (z-a)).map fun x=>(docF 0 D x).1:=by
  rw [(Z0q haz (by rw [Z8]; omega)).1]
  apply Qaf
  ·simp [Z8,suf]; omega
  ·intro i i1 i2
   simp only [suf,Qj,Qbf] at i2
   simp only [Qa0,QZ,suf,Qa9,QaW]
   have:=Z5k (D:=D) (j:=((a+i:Nat):Int)) (by omega) (by omega)
   rw [Zb (by rw [Z8]; omega)] at this
   rw [this,<-ht]
   congr 2
 refine⟨a,z,er.trans e,haz,by omega,?_,?_,by rw [el]; exact pd,hn,fun hlt=>?_⟩
 ·rw [sg]
  have:=pd.map Prod.fst
  rw [QU] at this
  exact this
 ·have:=pd.length_eq
  simpa [suf] using this
 ·have R:=hR hlt
  have rr:∀ i:Nat,i<t.length->0<=rd (saOf t) i/\rd (saOf t) i<t.length:=fun i hi=>SA.perm.rng _ (Ze (l:=saOf t) (i:=(i:Int)) (by omega) (by omega))
  obtain⟨h1,h2,h3⟩:=Z3u (n:=t.length) (suf:=fun i:Nat=>t.drop (rd (saOf t) i).toNat) (lc:=lcpA t (saOf t)) (P:=P) (a:=a) (b:=z)
   (fun i hi=>by rw [R.iff i hi]; exact Zx4 (rr i hi).1 (by have:=(rr i hi).2; omega)) hlt hz
   (fun k k0 k1=>by
    rw [Zmp (by omega) (by omega),if_neg (by omega),Zsx,Zb6]
    rw [show ((k:Int)-1)=((k-1:Nat):Int) by omega])
  have pl2:P.length=q.length:=by rw [hP]; simp
  rw [pl2] at h1 h2 h3
  rw [<-ht,Z8,<-lt]
  exact⟨h1,h2,h3⟩
section
variable {σ:Store} {p:Ptr} {D:List (List Int)} {h:Hdl} {q:List Int}
theorem Zf2(N:Store.Nums .u8 σ h q):Runs Qa 20 [.slice h] σ (.bool (decide (q≠[]/\q.length<=256))) σ:=by
 have l:=Zak N
 refine rI Tryz.f20 (Ev.of fun k=>?_)
 simp only [Z4i]
 cases q with
 | nil=>simp only [stp,show ¬ ((0:Int)<(h.len:Int)) by simp at l; omega]
 | cons x q=>
  have e:decide ((h.len:Int)<=256)=decide ((x::q)≠[]/\(x::q).length<=256):=by
   rw [decide_eq_decide]; simp at l ⊢; omega
  simp only [stp,show ((0:Int)<(h.len:Int)) by simp at l; omega,e]
theorem Zu6(X:Idx σ p D)(hp:σ.prot<=σ.objs.length)(N:Store.Nums .u8 σ h q)(hq:q≠[])(hl:q.length<=256)(q0:∀ b∈q,(0:Int)<=b/\b<256) :
  ∃ σ',Runs Qa 28 [.ptr p,.slice h] σ (.tuple [.int .i64 (ranI D q).1,.int .i64 (ranI D q).2]) σ'/\Kp σ.objs.length σ σ':=by
 obtain⟨n1,r1⟩:=Zf2 N
 rw [decide_eq_true ⟨hq,hl⟩] at r1
 obtain⟨b,pt,pf,pm,pl,pn,rfl,R,T,F0,F,M,L,Ta⟩:=X.ex
 have e0:=Zaj R (o:=0) rfl
 have e1:=Zaj R (o:=1) rfl
 have Tq:Txt { σ with prot:=σ.objs.length } pt D:=T.keep fun _ _=>rfl
 obtain⟨hs,s1',⟨n2,r2⟩,k1',G1'⟩:=Zn8 (σ:={ σ with prot:=σ.objs.length }) Tq (Qe _) N.prot (by omega) q0
 obtain⟨s1,h1⟩:∃ s,s=({ s1' with prot:=σ.prot }:Store):=⟨_,rfl⟩
 have k1:Kp σ.objs.length σ s1:=h1 ▸ k1'.unq
 have G1:GrowI s1 σ.objs.length hs (q.map fun b=>(D.length:Int)+b):=by rw [h1]; exact Grow.prot G1'
 have lm1:=k1.len
 have fin:∃ s2,Runs Qa 82 [.ptr pf,.slice hs] s1 (.tuple [.int .i64 (ranI D q).1,.int .i64 (ranI D q).2]) s2/\Kp s1.objs.length s1 s2:=by
  by_cases c:D=[]
  ·rw [F0 c]
   unfold ranI
   rw [if_pos c]
   exact Zye hs (by rw [k1.prot]; omega)
  ·have:=Zu2 ((F c).kp k1) (by rw [k1.prot]; omega) G1.ints (Grow.has G1) (by rw [Qj]; omega)
   unfold ranI
   rw [if_neg c]
   exact this
 obtain⟨s2,⟨n3,r3⟩,k2⟩:=fin
 refine⟨s2,rI Tryz.f28 ⟨n1+n2+n3,fun k hk=>?_⟩,k1.all k2⟩
 have r1:=r1 k (by omega)
 have r2:=Zsv (r2 k (by omega))
 have r3:=r3 k (by omega)
 simp only at r1 r2 r3
 rw [<-h1] at r2
 simp only [Z4k]
 simp only [stp,Qn,r1,e1,e0,r2,r3]
theorem Zh6(X:Idx σ p D)(hp:σ.prot<=σ.objs.length)(N:Store.Nums .u8 σ h q)(q0:∀ b∈q,(0:Int)<=b/\b<256) :
  (q≠[]/\q.length<=256/\∃ σ',Runs Qa 71 [.ptr p,.slice h] σ (.tuple [.int .i64 (ranI D q).1,.int .i64 (ranI D q).2,.int .i64 0]) σ'/\Kp σ.objs.length σ σ') \/
  ((q=[]\/256<q.length)/\Runs Qa 71 [.ptr p,.slice h] σ (.tuple [.int .i64 0,.int .i64 0,.int .i64 210]) σ):=by
 obtain⟨n1,r1⟩:=Zf2 N
 obtain⟨b,pt,pf,pm,pl,pn,e,_⟩:=X.ex
 by_cases c:q≠[]/\q.length<=256
 ·rw [decide_eq_true c] at r1
  obtain⟨s1,⟨n2,r2⟩,k1⟩:=Zu6 X hp N c.1 c.2 q0
  refine .inl ⟨c.1,c.2,s1,rI Tryz.f71 ⟨n1+n2,fun k hk=>?_⟩,k1⟩
  have r1:=r1 k (by omega)
  have r2:=r2 k (by omega)
  simp only at r1 r2
  subst e
  simp only [Zw1]
  simp only [stp,Qn,r1,r2]
 ·rw [decide_eq_false c] at r1
  refine .inr ⟨by by_cases d:q=[]; exact .inl d; exact .inr (by have:¬ q.length<=256:=fun h=>c ⟨d,h⟩; omega),rI Tryz.f71 ⟨n1,fun k hk=>?_⟩⟩
  have r1:=r1 k (by omega)
  simp only at r1
  subst e
  simp only [Zw1]
  simp only [stp,Qn,r1]
theorem ld2{σ:Store}{b:Nat}{u v:Int}(R:σ.Row b 2 [.int .i64 u,.int .i64 v]):σ.ldInt .i64 (Q8 (some (b,0)) 0)=some u/\σ.ldInt .i64 (Q8 (some (b,0)) 1)=some v:=⟨Zd R (o:=0) rfl,Zd R (o:=1) rfl⟩
theorem Zh1{σ:Store}{b:Nat}{l:List AV}{u v:Int}(R:σ.Row b 2 l)(hl:l.length=2)(hp:σ.prot<=b):∃ σ',σ.stL (some (b,0)) [.int .i64 u,.int .i64 v] 0=some σ'/\σ'.Row b 2 [.int .i64 u,.int .i64 v]/\σ'.objs.length=σ.objs.length/\σ'.prot=σ.prot/\∀ x,x≠b->σ'.objs[x]?=σ.objs[x]?:=by
 obtain⟨x,y,rfl⟩:∃ x y,l=[x,y]:=by
  match l,hl with
  | [x,y],_=>exact⟨x,y,rfl⟩
 have t1:=Zw R (o:=0) hp (by simp) (v:=.int .i64 u) rfl
 obtain⟨s1,hs1⟩:∃ s,s=σ.setO b (.cells ([x,y].set 0 (.int .i64 u)) true 2):=⟨_,rfl⟩
 rw [<-hs1] at t1
 have R1:s1.Row b 2 [.int .i64 u,y]:=by rw [hs1]; exact Store.Row.setO_eq R.lt
 have p1:s1.prot<=b:=by rw [hs1]; exact hp
 have t2:=Zw R1 (o:=1) p1 (by simp) (v:=.int .i64 v) rfl
 refine⟨s1.setO b (.cells ([.int .i64 u,y].set 1 (.int .i64 v)) true 2),?_,Store.Row.setO_eq R1.lt,by rw [hs1]; simp,by rw [hs1]; rfl,fun z hz=>?_⟩
 ·simp only [Qbi,Q8,Q6,Qak,Q3,Option.bind_eq_bind] at t1 t2 ⊢
  cases h1:Store.st σ (some (b,0)) (.int .i64 u) with
  | none=>rw [h1] at t1; cases t1
  | some x=>
   rw [h1] at t1
   simp only [Qd,Qbm.injEq] at t1
   subst t1
   simp only [Qd]
   exact t2
 ·rw [Zdu hz,hs1,Zdu hz]
def cntI(D:List (List Int))(q:List Int):Int×Int:=if q=[]\/256<q.length then (0,0) else (((prF q 0 D).length:Int),((occP q 0 D).length:Int))
def errQ(q:List Int):Int:=if q=[]\/256<q.length then 210 else 0
theorem Zf1(X:Idx σ p D)(hp:σ.prot<=σ.objs.length)(N:Store.Nums .u8 σ h q)(q0:∀ b∈q,(0:Int)<=b/\b<256) :
  ∃ σ',Runs Qa 18 [.ptr p,.slice h] σ (.tuple [.agg [.int .i64 (cntI D q).1,.int .i64 (cntI D q).2],.int .i64 (errQ q)]) σ'/\Kp σ.objs.length σ σ':=by
 obtain⟨n,hn⟩:∃ n,n=σ.objs.length:=⟨_,rfl⟩
 obtain⟨s1,h1⟩:∃ s,s=σ.push [.int .i64 0,.int .i64 0] 2:=⟨_,rfl⟩
 have k1:Kp n σ s1:=by rw [h1,hn]; exact Kp.push _ _ (Qe _)
 have R1:s1.Row n 2 [.int .i64 0,.int .i64 0]:=by rw [h1,hn]; exact Store.Row.new
 have X1:=X.kp (hn ▸ k1)
 have N1:Store.Nums .u8 s1 h q:=Store.Sl.kp N (hn ▸ k1)
 have lm1:=k1.len
 rcases Zh6 X1 (by rw [k1.prot]; omega) N1 q0 with ⟨c1,c2,s2,⟨n2,r2⟩,k2⟩ | ⟨c,⟨n2,r2⟩⟩
 ·have cn:¬ (q=[]\/256<q.length):=fun h=>h.elim c1 (by omega)
  obtain⟨a,z,O⟩:=Zig X.byte c1 fun b hb=>(q0 b hb).1
  rw [O.eq] at r2
  have lm2:=k2.len
  have X2:=X1.kp k2
  obtain⟨b,pt,pf,pm,pl,pn,e,R,T,F0,F,M,L,Ta⟩:=X2.ex
  have e4:=Zaj R (o:=4) rfl
  have R2:=R1.kp k2 R1.lt
  have dl:(dOf [] (seg (das D) a z)).length=(prF q 0 D).length:=by rw [Zjd O.docs,Qj]
  have fin:∃ s3,Runs Qa 72 [.ptr pn,.int .i64 a,.int .i64 z] s2 (.int .i64 ((prF q 0 D).length:Nat)) s3/\Kp s2.objs.length s2 s3:=by
   by_cases hlt:a<z
   ·obtain⟨g1,g2,g3⟩:=O.lcp hlt
    obtain⟨s3,r,k⟩:=Zy0 Ta (by rw [k2.prot,k1.prot]; omega) hlt (by rw [Z8]; exact O.lt) g1 g2 g3
    rw [dl] at r
    exact⟨s3,r,k⟩
   ·have le:z-a=0:=by omega
    have:(prF q 0 D).length=0:=by
     rw [<-dl,Zjd O.docs,Qj]
     have oz:occP q 0 D=[]:=Qy (by rw [<-O.len]; exact le)
     have:(prF q 0 D).map (·.1)=[]:=List.eq_nil_iff_forall_not_mem.2 fun x hx=>by rw [Zml,oz] at hx; cases hx
     have:=congrArg List.length this
     simpa using this
    rw [this]
    exact⟨s2,Zv4 Ta (by omega),Kp.refl _ _⟩
  obtain⟨s3,⟨n3,r3⟩,k3⟩:=fin
  have R3:=R2.kp k3 R2.lt
  have w:Qb .i64 ((z:Int)-(a:Int))=((occP q 0 D).length:Int):=by have:=O.lt; have:=Zbb D; have:=X.ok.1; have:=X.ok.2; have:=O.len; have:=O.le; rw [Za (by omega) (by omega)]; omega
  obtain⟨s4,t4,R4,l4,p4,o4⟩:=Zh1 R3 rfl (by rw [k3.prot,k2.prot,k1.prot]; omega) (u:=((prF q 0 D).length:Nat)) (v:=((occP q 0 D).length:Int))
  obtain⟨f0,f1⟩:=ld2 R4
  have ec:cntI D q=(((prF q 0 D).length:Int),((occP q 0 D).length:Int)):=if_neg cn
  have ee:errQ q=0:=if_neg cn
  have lm3:=k3.len
  refine⟨s4,rI Tryz.f18 ⟨n2+n3,fun k hk=>?_⟩,⟨by rw [p4,k3.prot,k2.prot,k1.prot],by omega,fun x hx=>?_⟩⟩
  ·have r2:=r2 k (by omega)
   have r3:=r3 k (by omega)
   simp only at r2 r3
   rw [ec,ee]
   subst e
   simp only [Zww]
   simp only [stp,<-h1,<-hn,r2,e4,r3,w,t4,f0,f1]
  ·rw [o4 x (by omega),k3.keep x (by omega),k2.keep x (by omega),k1.keep x (by omega)]
 ·have ec:cntI D q=(0,0):=if_pos c
  have ee:errQ q=210:=if_pos c
  obtain⟨s4,t4,R4,l4,p4,o4⟩:=Zh1 R1 rfl (by rw [k1.prot]; omega) (u:=0) (v:=0)
  obtain⟨f0,f1⟩:=ld2 R4
  refine⟨s4,rI Tryz.f18 ⟨n2,fun k hk=>?_⟩,⟨by rw [p4,k1.prot],by omega,fun x hx=>?_⟩⟩
  ·have r2:=r2 k (by omega)
   simp only at r2
   rw [ec,ee]
   simp only [Zww]
   simp only [stp,<-h1,<-hn,r2,show ¬ ((210:Int)=0) by omega,t4,f0,f1]
  ·rw [o4 x (by omega),k1.keep x (by omega)]
theorem Znb(X:Idx σ p D)(hp:σ.prot<=σ.objs.length)(N:Store.Nums .u8 σ h q)(q0:∀ b∈q,(0:Int)<=b/\b<256) :
  ∃ ho σ',Runs Qa 19 [.ptr p,.slice h] σ (.tuple [.slice ho,.int .i64 (errQ q)]) σ'/\Kp σ.objs.length σ σ'/\GrowI σ' σ.objs.length ho (if q=[]\/256<q.length then [] else (prF q 0 D).map (·.1)):=by
 rcases Zh6 X hp N q0 with ⟨c1,c2,s2,⟨n2,r2⟩,k2⟩ | ⟨c,⟨n2,r2⟩⟩
 ·have cn:¬ (q=[]\/256<q.length):=fun h=>h.elim c1 (by omega)
  obtain⟨a,z,O⟩:=Zig X.byte c1 fun b hb=>(q0 b hb).1
  rw [O.eq] at r2
  have lm2:=k2.len
  have X2:=X.kp k2
  obtain⟨b,pt,pf,pm,pl,pn,e,R,T,F0,F,M,L,Ta⟩:=X2.ex
  have e3:=Zaj R (o:=3) rfl
  obtain⟨ho,s3,⟨n3,r3⟩,k3,G3⟩:=Zuu L (by rw [k2.prot]; omega) a z
  rw [Zjd O.docs] at G3
  have ee:errQ q=0:=if_neg cn
  refine⟨ho,s3,rI Tryz.f19 ⟨n2+n3,fun k hk=>?_⟩,k2.all k3,by rw [if_neg cn]; exact G3.mono lm2⟩
  have r2:=r2 k (by omega)
  have r3:=r3 k (by omega)
  simp only at r2 r3
  rw [ee]
  subst e
  simp only [Zwx]
  simp only [stp,r2,e3,r3]
 ·have ee:errQ q=210:=if_pos c
  refine⟨Hdl.nil,σ,rI Tryz.f19 ⟨n2,fun k hk=>?_⟩,Kp.refl _ _,by rw [if_pos c]; exact Grow.nil _ _ _⟩
  have r2:=r2 k (by omega)
  simp only at r2
  rw [ee]
  simp only [Zwx]
  simp only [stp,r2,show ¬ ((210:Int)=0) by omega]
def topI(D:List (List Int))(q:List Int)(kq:Int):List (Int×Int):=(rk (prF q 0 D)).take kq.toNat
theorem Zjp(X:Idx σ p D)(hp:σ.prot<=σ.objs.length)(N:Store.Nums .u8 σ h q)(q0:∀ b∈q,(0:Int)<=b/\b<256)(kq:Int) :
  ∃ ho σ',Runs Qa 24 [.ptr p,.slice h,.int .i64 kq] σ (.tuple [.slice ho,.int .i64 (if (q=[]\/256<q.length)\/kq<1 then 210 else 0)]) σ'/\Kp σ.objs.length σ σ'/\Grow σ' σ.objs.length ho 2 (pairsL (if (q=[]\/256<q.length)\/kq<1 then [] else topI D q kq)):=by
 rcases Zh6 X hp N q0 with ⟨c1,c2,s2,⟨n2,r2⟩,k2⟩ | ⟨c,⟨n2,r2⟩⟩
 ·have cn:¬ (q=[]\/256<q.length):=fun h=>h.elim c1 (by omega)
  by_cases ck:kq<1
  ·refine⟨Hdl.nil,s2,rI Tryz.f24 ⟨n2,fun k hk=>?_⟩,k2,by rw [if_pos (.inr ck)]; exact Grow.nil _ _ _⟩
   have r2:=r2 k (by omega)
   simp only at r2
   rw [if_pos (.inr ck)]
   simp only [Zp2]
   simp only [stp,r2,ck]
  ·have cc:¬ ((q=[]\/256<q.length)\/kq<1):=fun h=>h.elim cn ck
   obtain⟨a,z,O⟩:=Zig X.byte c1 fun b hb=>(q0 b hb).1
   rw [O.eq] at r2
   have lm2:=k2.len
   have X2:=X.kp k2
   obtain⟨b,pt,pf,pm,pl,pn,e,R,T,F0,F,M,L,Ta⟩:=X2.ex
   have e2:=Zaj R (o:=2) rfl
   obtain⟨ho,s3,⟨n3,r3⟩,k3,G3⟩:=Z35 M (by rw [k2.prot]; omega) a z kq
   have dd:dis (seg (das D) a z) 0 (2^8)=prF q 0 D:=by
    rw [Zm0 (t:=(occP q 0 D).map (·.1)) fun v _ _=>cnt_perm O.docs _]
    exact Zpd D 0 (2^8) (by have:=X.ok.1; omega)
   rw [dd] at G3
   refine⟨ho,s3,rI Tryz.f24 ⟨n2+n3,fun k hk=>?_⟩,k2.all k3,by rw [if_neg cc]; exact G3.mono lm2⟩
   have r2:=r2 k (by omega)
   have r3:=r3 k (by omega)
   simp only at r2 r3
   rw [if_neg cc]
   subst e
   simp only [Zp2]
   simp only [stp,r2,ck,e2,r3]
 ·refine⟨Hdl.nil,σ,rI Tryz.f24 ⟨n2,fun k hk=>?_⟩,Kp.refl _ _,by rw [if_pos (.inl c)]; exact Grow.nil _ _ _⟩
  have r2:=r2 k (by omega)
  simp only at r2
  rw [if_pos (.inl c)]
  simp only [Zp2]
  simp only [stp,r2,show ¬ ((210:Int)=0) by omega]
end
end Go.Ab

namespace Go.Ab
open Go Go.Proofs Go.Ab.Wd Go.Ab.Bs Go.Ab.Sai
end Go.Ab

namespace Go.Ab
open Go Go.Proofs Go.Ab.Wd Go.Ab.Bs Go.Ab.Sai
end Go.Ab

namespace Go.Ab
open Go Go.Proofs Go.Ab.Wd Go.Ab.Bs Go.Ab.Sai
theorem Z1d(bs:ByteArray):∀ (n i:Nat) (r:List UInt8),bs.size-i=n->Qam.loop bs i r=r.reverse++bs.data.toList.drop i:=by
 intro n
 induction n with
 | zero=>
  intro i r h
  rw [Qam.loop]
  rw [if_neg (by omega),QaC (by simp; have:bs.size=bs.data.size:=rfl; omega),QF]
 | succ n ih=>
  intro i r h
  have hs:bs.size=bs.data.size:=rfl
  rw [Qam.loop,if_pos (by omega),ih (i+1) _ (by omega)]
  have hi:i<bs.data.toList.length:=by simp; omega
  rw [Qah hi,List.reverse_cons,Qu]
  congr 2
  have:bs.get! i=bs.data[i]!:=rfl
  rw [this,getElem!_pos bs.data i (by omega)]
  simp
theorem Zmv(bs:ByteArray):bs.toList=bs.data.toList:=by
 unfold Qam
 rw [Z1d bs bs.size 0 [] (by omega)]; simp
def bstr(l:List Int):ByteArray:=⟨(l.map fun n:Int=>UInt8.ofNat n.toNat).toArray⟩
theorem Zgf:∀ l:List Int,bytesOfL (numsL .u8 l)=some (l.map fun n:Int=>UInt8.ofNat n.toNat)
 | []=>rfl
 | n::l=>by
  have:=Zgf l
  simp only [numsL] at this
  simp only [numsL,QC,bytesOfL,this,Q6]
theorem Zgs(l:List Int):bytesOf (numsL .u8 l)=some (bstr l):=by unfold bytesOf bstr; rw [Zgf]; rfl
theorem Z5u{a b:Int}(a0:0<=a/\a<256)(b0:0<=b/\b<256)(h:UInt8.ofNat a.toNat=UInt8.ofNat b.toNat):a=b:=by
 have:=congrArg UInt8.toNat h
 simp only [UInt8.toNat_ofNat'] at this
 rw [Qbk (by omega),Qbk (by omega)] at this
 omega
theorem Zkt:∀ {a b:List Int},(∀ x∈a,(0:Int)<=x/\x<256)->(∀ x∈b,(0:Int)<=x/\x<256)->(a.map fun n:Int=>UInt8.ofNat n.toNat)=(b.map fun n:Int=>UInt8.ofNat n.toNat)->a=b
 | [],[],_,_,_=>rfl
 | [],y::b,_,_,h=>by simp at h
 | x::a,[],_,_,h=>by simp at h
 | x::a,y::b,ha,hb,h=>by
  simp only [QC,List.cons.injEq] at h
  rw [Z5u (ha x (by simp)) (hb y (by simp)) h.1,Zkt (fun z hz=>ha z (by simp [hz])) (fun z hz=>hb z (by simp [hz])) h.2]
theorem Zv3{a b:List Int}(ha:∀ x∈a,(0:Int)<=x/\x<256)(hb:∀ x∈b,(0:Int)<=x/\x<256):strEq (bstr a) (bstr b)=decide (a=b):=by
 unfold strEq
 rw [Zmv,Zmv,Q2]
 simp only [bstr,beq_iff_eq,decide_eq_true_eq]
 exact⟨fun h=>Zkt ha hb h,fun h=>by rw [h]⟩
theorem Z6d{σ:Store}{h:Hdl}{l:List AV}(s:σ.Sl h 1 l){lo hi:Option Int}(h0:0<=lo.getD 0)(h1:lo.getD 0<=hi.getD h.len)(h2:hi.getD h.len<=h.len) :
  ∃ h',σ.sub h 1 lo hi none=some h'/\σ.Sl h' 1 ((l.take (hi.getD h.len).toNat).drop (lo.getD 0).toNat)/\h'.row=h.row/\h'.len=(hi.getD h.len).toNat-(lo.getD 0).toNat:=by
 have hl:=s.len
 have hes:σ.esOk h 1=true:=by
  unfold Store.esOk
  cases ha:h.a with
  | none=>rfl
  | some bo=>
   obtain⟨b,o⟩:=bo
   rcases s.row with h1 | ⟨b',o',cs,rw,k1,k2,_⟩
   ·simp [h1]
   ·rw [ha] at k1; injection k1 with k1; injection k1 with k1 k1'; subst k1 k1'
    simp only [k2]
    cases Qb6 h.len 0 <;> rfl
 have lhi:(hi.getD h.len).toNat<=l.length:=by omega
 refine⟨⟨h.a.map fun x=>(x.1,x.2+(lo.getD 0).toNat*1),(hi.getD h.len).toNat-(lo.getD 0).toNat,h.cap.map (·-(lo.getD 0).toNat)⟩,?_,⟨?_,?_⟩,?_,rfl⟩
 ·unfold Qb7
  rw [if_pos ⟨⟨hes,by simp,by simp⟩,⟨by omega,by simpa using h2⟩,h0,h1⟩]
 ·rw [QB,Qk,Qq lhi]; simp
 ·by_cases c:(hi.getD h.len).toNat-(lo.getD 0).toNat=0
  ·exact .inl c
  ·rcases s.row with k0 | ⟨b,o,cs,rw,k1,k2,k3,k4⟩
   ·omega
   ·refine .inr ⟨b,o+(lo.getD 0).toNat*1,cs,rw,by simp [k1],k2,?_,?_⟩
    ·rw [QB,Qk,Qq lhi]; omega
    ·rw [QB,Qk,Qq lhi,<-k4]
     rw [QaM,Qq lhi,QaL,Qbr]
     simp
 ·cases ha:h.a with
  | none=>simp [Hdl.row,ha]
  | some bo=>simp [Hdl.row,ha]
theorem Zvl(k:IntKind)(l:List Int)(n:Nat):(numsL k l).take n=numsL k (l.take n):=by simp [numsL,Qa2]
theorem Zvk(k:IntKind)(l:List Int)(n:Nat):(numsL k l).drop n=numsL k (l.drop n):=by simp [numsL,List.map_drop]
theorem Z0e{d q:List Int}{i:Nat}(h:i+q.length<=d.length):pfB d i q=decide ((d.take (i+q.length)).drop i=q):=by
 rw [Q2,Zbq,decide_eq_true_eq]
 constructor
 ·rintro⟨_,h2,h3⟩
  apply Qaf (by simp; omega)
  intro j j1 j2
  have:=h3 j j2
  rw [show (i:Int)+(j:Int)=((i+j:Nat):Int) by omega,Zb (by omega),Zb j2] at this
  simp only [Qa0,QZ]
  exact this
 ·intro e
  refine⟨by omega,by omega,fun k hk=>?_⟩
  rw [show (i:Int)+(k:Int)=((i+k:Nat):Int) by omega,Zb (by omega),Zb hk]
  have:=List.getElem_of_eq e (i:=k) (by simp; omega)
  simp only [Qa0,QZ] at this
  exact this
section
variable {σ:Store} {h h':Hdl} {d q:List Int} {D:List (List Int)}
theorem Z6c(Nd:Store.Nums .u8 σ h d)(Nq:Store.Nums .u8 σ h' q)(hq:q≠[])(hd:∀ x∈d,(0:Int)<=x/\x<256)(hb:∀ x∈q,(0:Int)<=x/\x<256)(ld:d.length<2^40)(lq:q.length<2^40) :
  Runs Qa 74 [.slice h,.slice h'] σ (.int .i64 (tms d q)) σ:=by
 have l1:=Zak Nd
 have l2:=Zak Nq
 have q1:0<q.length:=QaR.2 hq
 obtain⟨r,e,rfl⟩:=EvI.while (f:=fun k s=>QX Qa (gm Qa k) QS k Tryz.f74 [1,1,0,1,0] [6,5,1,0] s)
  (fun m s=>∃ i:Nat,m=d.length+1-i/\i<=d.length/\s=([.int .i64 i,.int .i64 ((places i).filter fun p=>pfB d p q).length,.slice h',.slice h],σ))
  (fun r=>r=(QD 0,[(5,.int .i64 (tms d q))],σ))
  (by
   rintro m s ⟨i,rfl,i1,rfl⟩
   have w1:Qb .i64 ((i:Int)+(h'.len:Int))=((i+q.length:Nat):Int):=by rw [Za (by omega) (by omega)]; omega
   by_cases c:i+q.length<=d.length
   ·obtain⟨g,e1,S1,_,_⟩:=Z6d Nd (lo:=some (i:Int)) (hi:=some ((i+q.length:Nat):Int)) (by simp) (by simp; omega) (by simp; omega)
    simp only [Qa8,Ql] at S1
    rw [Zvl,Zvk] at S1
    have e2:=S1.read
    have e3:=Nq.read
    have se:=Zv3 (a:=(d.take (i+q.length)).drop i) (b:=q) (fun x hx=>hd x (Qac (List.mem_of_mem_drop hx))) hb
    rw [<-Z0e c] at se
    have w2:=Zq (i:=i) (n:=d.length) (by omega) (by omega)
    have fl:((places i).filter fun p=>pfB d p q).length<=i:=Qat (QaI _ _) (by rw [Zv]; exact Qe _)
    have w3:Qb .i64 ((((places i).filter fun p=>pfB d p q).length:Int)+1)=((((places i).filter fun p=>pfB d p q).length+1:Nat):Int):=by rw [Za (by omega) (by omega)]; omega
    refine .inl ⟨d.length+1-(i+1),_,by omega,Ev.of fun k=>?_,i+1,rfl,by omega,rfl⟩
    rw [places_succ,Qz,Qc]
    simp only [Zkf]
    cases hp:pfB d (i:Int) q with
    | true=>
     rw [hp] at se
     have e4:([(i:Int)].filter fun p=>pfB d p q).length=1:=by simp [hp]
     rw [e4]
     simp only [stp,w1,show ((i+q.length:Nat):Int)<=(h.len:Int) by omega,e1,e2,Zgs,e3,se,w2,w3]
    | false=>
     rw [hp] at se
     have e4:([(i:Int)].filter fun p=>pfB d p q).length=0:=by simp [hp]
     rw [e4]
     simp only [stp,w1,show ((i+q.length:Nat):Int)<=(h.len:Int) by omega,e1,e2,Zgs,e3,se,w2,Qak]
   ·refine .inr ⟨_,Ev.of fun k=>?_,rfl⟩
    have e4:tms d q=((places i).filter fun p=>pfB d p q).length:=by
     unfold tms occ
     rw [show d.length+1=i+(d.length+1-i) by omega,Zk5,Qz,Qc]
     have:(((places (d.length+1-i)).map fun p=>(i:Int)+p).filter fun p=>pfB d p q)=[]:=by
      rw [QG]
      intro x hx hp
      obtain⟨y,hy,rfl⟩:=Qp.1 hx
      have:=Zo.1 hy
      have:=(Zbq.1 hp).2.1
      omega
     rw [this]; rfl
    rw [e4]
    simp only [Zkf]
    simp only [stp,w1,show ¬ (((i+q.length:Nat):Int)<=(h.len:Int)) by omega])
  (d.length+1-0) ([.int .i64 0,.int .i64 0,.slice h',.slice h],σ) ⟨0,rfl,QJ _,by simp [places]⟩
 obtain⟨n1,e⟩:=Zc e
 refine rI Tryz.f74 ⟨n1,fun k hk=>?_⟩
 have e:=e k hk
 simp only at e
 simp only [Z4t]
 simp only [e,Qd]
 rw [Zp7]
structure Args (σ:Store) (h h':Hdl) (D:List (List Int)) (q:List Int):Prop where
 dcs:Dcs σ h D
 nq:Store.Nums .u8 σ h' q
 byte:Byts D
 bq:∀ x∈q,(0:Int)<=x/\x<256
theorem Args.kp{σ':Store}(A:Args σ h h' D q)(k:Kp σ.objs.length σ σ'):Args σ' h h' D q:=⟨A.dcs.kp k,Store.Sl.kp A.nq k,A.byte,A.bq⟩
theorem Zwk{D:List (List Int)}{d:List Int}(h:d∈D):d.length<=bts D:=by
 obtain⟨i,hi⟩:=Qal.1 h
 have:=(Zdy hi).2; omega
def smallB(D:List (List Int))(b c:Nat):Bool:=decide (D.length<=c)&&decide (bts D<=b)
theorem Zyq(A:Dcs σ h D)(hl:h.len<2^60)(b c:Nat)(hb:b<2^40):Runs Qa 16 [.slice h,.int .i64 b,.int .i64 c] σ (.bool (smallB D b c)) σ:=by
 have ld:=A.len
 unfold smallB
 by_cases c0:c<D.length
 ·rw [decide_eq_false (by omega:¬ D.length<=c),Bool.false_and]
  refine rI Tryz.f16 (Ev.of fun k=>?_)
  simp only [Zpu]
  simp only [stp,show (c:Int)<(h.len:Int) by omega]
 rw [decide_eq_true (by omega:D.length<=c),Bool.true_and]
 obtain⟨r,e,hr⟩:=EvI.upX (f:=fun k s=>QX Qa (gm Qa k) QS k Tryz.f16 [1,1,0,1,0] [15,14,13,1] s) D.length
  (fun i st=>bts (D.take i)<=b/\st=([.int .i64 i,.int .i64 h.len,.slice h,.int .i64 (b-bts (D.take i):Nat)],σ))
  (fun r=>(r=(Qb0,[(6,.bool false)],σ)/\¬ bts D<=b)\/(r=(QD 0,[],σ)/\bts D<=b))
  (by
   rintro i st hi ⟨hb,rfl⟩
   obtain⟨d,hd⟩:∃ d,D[i]?=some d:=⟨_,Qi hi⟩
   obtain⟨g0,e0,N0⟩:=A.get hd
   have lg:=Zak N0
   obtain⟨t1,t2⟩:=Zdy hd
   have i0:(i:Int)<(h.len:Int):=by omega
   have w3:=Zq hi (by omega)
   by_cases c:b-bts (D.take i)<d.length
   ·refine .inr ⟨_,Ev.of fun k=>?_,.inl ⟨rfl,by omega⟩⟩
    simp only [Zfw]
    simp only [stp,i0,show (0:Int)<=(i:Int) by omega,e0,show ((b-bts (D.take i):Nat):Int)<(g0.len:Int) by omega]
   ·have w:Qb .i64 (((b-bts (D.take i):Nat):Int)-(g0.len:Int))=((b-bts (D.take (i+1)):Nat):Int):=by rw [Za (by omega) (by omega)]; omega
    refine .inl ⟨_,Ev.of fun k=>?_,by omega,rfl⟩
    simp only [Zfw]
    simp only [stp,i0,show (0:Int)<=(i:Int) by omega,e0,show ¬ (((b-bts (D.take i):Nat):Int)<(g0.len:Int)) by omega,w,w3])
  (by
   rintro st ⟨hb,rfl⟩
   rw [Qo (Qe _)] at hb
   refine⟨_,Ev.of fun k=>?_,.inr ⟨rfl,hb⟩⟩
   simp only [Zfw]
   simp only [stp,show ¬ ((D.length:Int)<(h.len:Int)) by omega])
  (QJ _) (s:=([.int .i64 0,.int .i64 h.len,.slice h,.int .i64 b],σ)) ⟨by simp [bts],by simp [bts]⟩
 obtain⟨n1,e⟩:=Zc e
 refine rI Tryz.f16 ⟨n1,fun k hk=>?_⟩
 have e:=e k hk
 simp only at e
 simp only [Zpu]
 simp only [stp,show ¬ ((c:Int)<(h.len:Int)) by omega,e]
 rcases hr with ⟨rfl,hh⟩ | ⟨rfl,hh⟩
 ·rw [Zps,decide_eq_false hh]
 ·rw [Zpt,decide_eq_true hh]
end
end Go.Ab

namespace Go.Ab
open Go Go.Proofs Go.Ab.Wd Go.Ab.Bs Go.Ab.Sai
section
variable {σ:Store} {h h':Hdl} {q:List Int} {D:List (List Int)}
end
end Go.Ab

namespace Go.Ab
open Go Go.Proofs Go.Ab.Wd Go.Ab.Bs Go.Ab.Sai
abbrev Ord2 (l:List (Int×Int)):Prop:=l.Pairwise fun x y=>plx y x=false
theorem Zys{σ:Store}{n:Nat}{h:Hdl}{l:List (Int×Int)}(g:Grow σ n h 2 (pairsL l))(hp:σ.prot<=n)(hl:l.length<2^60) :
  ∃ σ',Runs Qa 78 [.slice h,.func 79 [] []] σ (.tuple []) σ'/\Kp n σ σ'/\Grow σ' n h 2 (pairsL (sortP l)):=by
 have ll:=Zad g.sl
 rcases QM l.length with h0 | h0
 ·have:l=[]:=Qy h0
  subst this
  refine⟨σ,Runs.told (f:=sortFT 79) (by kernel_rfl) ?_,Kp.refl _ _,by rw [show sortP []=[] from Qy (Zek [])]; exact g⟩
  obtain⟨a,len,cap⟩:=h
  simp only [QW] at ll
  subst ll
  rfl
 ·have s:=Grow.sl g
  rcases s.row with h1 | ⟨b,o,cs,rw,h1,h2,h3,h4⟩
  ·omega
  ·obtain⟨hb,cs',k1,k2,k3⟩:=g.own.own b o h1
   rw [h2] at k1; injection k1 with k1; injection k1 with e1 e2 e3; subst e1 e2
   have pl:=Za8 l
   have ps:=Za8 (sortP l)
   have sl:=Zek l
   have hbl:b<σ.objs.length:=(Qg.1 h2).1
   refine⟨σ.setO b (.cells (cs.take o++(pairsL (sortP l)++cs.drop (o+2*l.length))) true 2),Runs.told (f:=sortFT 79) (by kernel_rfl) ?_,(Kp.refl _ _).setO hb,⟨⟨by rw [ps,sl,ll],.inr ⟨b,o,_,true,h1,Store.Row.setO_eq hbl,?_,?_⟩⟩,⟨fun b' o' e=>?_,g.own.nil⟩⟩⟩
   ·obtain⟨a,len,cap⟩:=h
    simp only at h1 ll
    subst h1 ll
    obtain⟨m,hm⟩:∃ m,l.length=m+1:=⟨l.length-1,by omega⟩
    have bt:Qb6 79 79=true:=by decide
    unfold sortFT
    simp only [hm,bt]
    simp only [h2]
    rw [pl,Qbd,hm] at h3 h4
    rw [h4,show pairsL l=pairsA l from rfl,Zgn]
    simp only
    rw [if_pos ⟨by omega,h3,by omega⟩]
    rfl
   ·simp only [Qc,Qk,QB,ps,sl]; omega
   ·have tk:(cs.take o).length=o:=by simp; omega
    rw [QT (by omega),QaB (by omega),QA,Qan (by simp),Qo (by simp)]
   ·rw [h1] at e; injection e with e; injection e with e1 e2; subst e1 e2
    refine⟨hb,_,Store.Row.setO_eq hbl,?_,fun c hc=>?_⟩
    ·simp only [Qc,Qk,QB,ps,sl]; omega
    ·have:=k3 c hc
     simp only [Qc,Qk,QB,ps,sl]; omega
end Go.Ab

namespace Go.Ab
open Go Go.Proofs Go.Ab.Wd Go.Ab.Bs Go.Ab.Sai
theorem Zns:∀ {a b:List (Int×Int)},a.Perm b->Ord2 a->Ord2 b->a=b
 | [],b,p,_,_=>(List.nil_perm.1 p).symm ▸ rfl
 | x::l,[],p,_,_=>absurd p.symm (by intro h; have:=h.length_eq; simp at this)
 | x::l,y::m,p,ha,hb=>by
  rw [Ord2,QL] at ha hb
  have h1:y∈x::l:=p.mem_iff.2 (by simp)
  have h2:x∈y::m:=p.mem_iff.1 (by simp)
  have e:x=y:=by
   rcases Qx.1 h1 with h1 | h1
   ·exact h1.symm
   ·rcases Qx.1 h2 with h2 | h2
    ·exact h2
    ·have k1:=Zbz.1 (ha.1 y h1)
     have k2:=Zbz.1 (hb.1 x h2)
     have e1:x.1=y.1:=by omega
     have e2:x.2=y.2:=by omega
     exact Prod.ext e1 e2
  subst e
  rw [Zns (List.Perm.cons_inv p) ha.2 hb.2]
theorem Z3j(d q:List Int):(occ d q).Pairwise (· < ·):=by
 unfold occ
 refine List.Pairwise.sublist QaT ?_
 unfold places
 rw [Qbg]
 exact List.pairwise_lt_range.imp fun h=>by have h':_<_:=h; exact Int.ofNat_lt.2 h'
theorem Zq2(q:List Int):∀ (D:List (List Int)) (i:Int),Ord2 (occP q i D)
 | [],i=>List.Pairwise.nil
 | d::r,i=>by
  simp only [occP]
  rw [Ord2,List.pairwise_append]
  refine⟨?_,Zq2 q r (i+1),fun x hx y hy=>?_⟩
  ·rw [Qbg]
   exact (Z3j d q).imp fun h=>by rw [Zbz]; simp only; omega
  ·obtain⟨o,_,rfl⟩:=Qp.1 hx
   have:=Zcj hy
   rw [Zbz]; simp only; omega
section
variable {σ:Store} {p:Ptr} {D:List (List Int)} {h:Hdl} {q:List Int}
def SortsP(N:Nat):Prop:=∀ {n:Nat} {h:Hdl} {σ:Store} {L:List (Int×Int)},Grow σ n h 2 (pairsL L)->σ.prot<=n->n<=σ.objs.length->L.length<=N ->
  ∃ M σ',Runs Qa 78 [.slice h,.func 79 [] []] σ (.tuple []) σ'/\Kp n σ σ'/\Grow σ' n h 2 (pairsL M)/\M.Perm L/\Ord2 M
theorem Zyu(N:Nat)(hN:N<2^60):SortsP N:=fun G hp hn hl=>by
 obtain⟨σ',r,k,g⟩:=Zys G hp (by omega)
 exact⟨_,σ',r,k,g,Zlf _,Zyt _⟩
theorem Ziy{N:Nat}(SP:SortsP N)(X:Idx σ p D)(hp:σ.prot<=σ.objs.length)(Nq:Store.Nums .u8 σ h q)(q0:∀ b∈q,(0:Int)<=b/\b<256)(few:(occP q 0 D).length<=N) :
  ∃ ho σ',Runs Qa 27 [.ptr p,.slice h] σ (.tuple [.slice ho,.int .i64 (errQ q)]) σ'/\Kp σ.objs.length σ σ'/\Grow σ' σ.objs.length ho 2 (pairsL (if q=[]\/256<q.length then [] else occP q 0 D)):=by
 rcases Zh6 X hp Nq q0 with ⟨c1,c2,s2,⟨n2,r2⟩,k2⟩ | ⟨c,⟨n2,r2⟩⟩
 ·have cn:¬ (q=[]\/256<q.length):=fun h=>h.elim c1 (by omega)
  obtain⟨a,z,O⟩:=Zig X.byte c1 fun b hb=>(q0 b hb).1
  rw [O.eq] at r2
  have lm2:=k2.len
  have X2:=X.kp k2
  have ok:=X.ok
  have ok1:=ok.1
  have ok2:=ok.2
  have tb:=Zbb D
  have zt:=O.lt
  have az:=O.le
  obtain⟨n,hn⟩:∃ n,n=s2.objs.length:=⟨_,rfl⟩
  obtain⟨bb,e0⟩:∃ bb,p=some (bb,0):=by obtain⟨b,_,_,_,_,_,e,_⟩:=X.ex; exact⟨b,e⟩
  subst e0
  obtain⟨pl,hpl⟩:∃ pl:Nat->Int×Int,pl=fun j:Nat=>docF 0 D (rd (saOf (syms D)) ((a:Int)+j)):=⟨_,rfl⟩
  obtain⟨r,e,ho,s4,rfl,K4,G4⟩:=EvI.up (f:=fun k s=>QX Qa (gm Qa k) QS k Tryz.f27 [1,1,1,1,0,1,0] [10,9,7,0] s) (z-a)
   (fun i st=>∃ ho s3,st=([.int .i64 (a+i:Nat),.slice ho,.int .i64 z,.ptr (some (bb,0))],s3)/\Kp n s2 s3/\Grow s3 n ho 2 (pairsL ((QN i).map pl)))
   (fun r=>∃ ho s3,r=(QD 0,[(9,.slice ho)],s3)/\Kp n s2 s3/\Grow s3 n ho 2 (pairsL ((QN (z-a)).map pl)))
   (by
    rintro i st hi ⟨ho,s3,rfl,K3,G3⟩
    have lm3:=K3.len
    have X3:=X2.kp (hn ▸ K3)
    obtain⟨b,pt,pf,pm,pll,pn,e,R,T,F0,F,M,L,Ta⟩:=X3.ex
    injection e with e; injection e with e _; subst e
    have Dne:D≠[]:=fun e=>by rw [e] at zt; simp [tot] at zt; omega
    have f1:=Zaj R (o:=1) rfl
    have f0:=Zaj R (o:=0) rfl
    obtain⟨n3,r3⟩:=Zx5 (F Dne) ((a+i:Nat):Int)
    have lsy:=Zas D
    rw [if_pos ⟨by omega,by omega⟩,if_pos ⟨by omega,by omega⟩] at r3
    have rr:=(Zi (syms D)).perm.rng _ (Ze (l:=saOf (syms D)) (i:=((a+i:Nat):Int)) (by omega) (by rw [Z7]; omega))
    have p3:s3.prot<=n:=by rw [K3.prot,k2.prot]; omega
    obtain⟨s5,⟨n5,r5⟩,k5⟩:=Zn6 T (by omega) rr.1 (by omega)
    have G5:=G3.kp k5
    have lm5:=k5.len
    have ep:docF 0 D (rd (saOf (syms D)) ((a+i:Nat):Int))=pl i:=by rw [hpl]; simp only; rw [show ((a+i:Nat):Int)=(a:Int)+i by omega]
    rw [ep] at r5
    have rd0:=Z1a s5 (.int .i64 (pl i).1) (.int .i64 (pl i).2) (some 1)
    obtain⟨h6,s6,e6,k6,G6,_⟩:=Znt G5 (by rw [k5.prot]; exact p3) (by omega) (pl i).1 (pl i).2 (by simp; omega)
    have w:=Zq (i:=a+i) (n:=z) (by omega) (by omega)
    refine⟨_,⟨n3+n5,fun k hk=>?_⟩,h6,s6,rfl,(K3.then k5 (by omega)).trans k6,?_⟩
    ·have r3:=r3 k (by omega)
     have r5:=r5 k (by omega)
     simp only at r3 r5
     simp only [Zg5]
     simp only [stp,show ((a+i:Nat):Int)<(z:Int) by omega,f1,r3,f0,r5,rd0,e6,w]
     rfl
    ·rw [QaG,Qs]; exact G6)
   (by
    rintro st ⟨ho,s3,rfl,K3,G3⟩
    refine⟨_,Ev.of fun k=>?_,ho,s3,rfl,K3,G3⟩
    simp only [Zg5]
    simp only [stp,show ¬ (((a+(z-a):Nat):Int)<(z:Int)) by omega])
   (s:=([.int .i64 a,.slice QH,.int .i64 z,.ptr (some (bb,0))],s2)) ⟨Hdl.nil,s2,rfl,Kp.refl _ _,by simp; exact Grow.nil _ _ _⟩
  obtain⟨n4,e⟩:=Zc e
  have lm4:=K4.len
  have pp:((QN (z-a)).map pl).Perm (occP q 0 D):=by rw [hpl]; exact O.places
  obtain⟨M,s6,⟨n6,r6⟩,k6,G6,pm,so⟩:=SP G4 (by rw [K4.prot,k2.prot]; omega) (by omega) (by rw [pp.length_eq]; exact few)
  have em:M=occP q 0 D:=Zns (pm.trans pp) so (Zq2 q D 0)
  rw [em] at G6
  have ee:errQ q=0:=if_neg cn
  refine⟨ho,s6,rI Tryz.f27 ⟨n2+n4+n6,fun k hk=>?_⟩,(k2.trans (K4.mono (by omega))).trans (k6.mono (by omega)),by rw [if_neg cn]; exact G6.mono (by omega)⟩
  have r2:=r2 k (by omega)
  have e:=e k (by omega)
  have r6:=r6 k (by omega)
  simp only at r2 e r6
  rw [ee]
  simp only [Zwz]
  simp only [stp,r2,e]
  rw [Zl6]
  simp only [r6,Qd]
 ·have ee:errQ q=210:=if_pos c
  refine⟨Hdl.nil,σ,rI Tryz.f27 ⟨n2,fun k hk=>?_⟩,Kp.refl _ _,by rw [if_pos c]; exact Grow.nil _ _ _⟩
  have r2:=r2 k (by omega)
  simp only at r2
  rw [ee]
  simp only [Zwz]
  simp only [stp,r2,show ¬ ((210:Int)=0) by omega]
end
end Go.Ab
