/- Lemmas. -/
import Derived.Test.YtekmpjgcmooppaaGreatAbIndexPlaces5
import Derived.Test.YtekmpjgcmooppaaGreatAbIndexPlaces1
import Derived.Shelf.SortM.Plain
import Derived.Shelf.SortM.SortNone
import Derived.Shelf.SlSortCmp.NoneTotal
import Derived.Lib.QuietBelow
import Derived.Test.YtekmpjgcmooppaaGreatAbIndexPlaces3
import Derived.Ground.SlgmProg
import Derived.OpenShut
import Derived.WideShapes
set_option linter.unusedVariables false
set_option linter.unusedSimpArgs false
open Go.Proofs.Tryz renaming prog->Qa
open List renaming getElem?_eq_getElem->Qb,length_append->Qc,length_take->Qe,getElem?_append_left->Qf,length_map->Qi,getElem?_append_right->Qk,getElem?_eq_some_iff->Ql,mem_of_getElem?->Qq,getD_eq_getElem?_getD->Qr,length_drop->Qs,getElem?_take->Qu,getElem?_drop->Qv,take_of_length_le->Qw,eq_nil_of_length_eq_zero->Qz,map_append->Q0,filter_append->Q2,getElem?_map->Q7,length_filter_le->Q8,length_pos_iff->QC,pairwise_map->QD,append_assoc->QE,length_cons->QF,take_length->QG,length_nil->QI,append_nil->QK,range->QN,mem_cons->QO,mem_map->QQ,length->QT
open Nat renaming le_refl->Qd,le_add_right->QH,min_eq_left->QJ,add_assoc->QP,le_trans->QS
open Array renaming getElem?_mapIdx->Qg,getElem?_modify->Qp,eq_empty_of_size_eq_zero->Qy,getElem?_append_left->Q3,getElem?_eq_getElem->Q5
open Bool renaming false_eq_true->Qh
open Option renaming isSome_none->Qj,bind_some->Qn,map_some->QL,some->QU
open Go.Ab.AV renaming int->Qm,slice->Q9
open Go.IntKind renaming wrap->Qo
open Int renaming toNat_natCast->Qx,zero_add->QR
open Go.Ab renaming drawn->Q4,stepF->QA
open Go.Ab.AX renaming exit->Q6
open Go.Value renaming int->QB
open Go.Ab.Hdl renaming nil->QM
open Go.Ab.Store renaming push->QV
namespace Go.Ab
open Go Go.Proofs Go.Ab.Wd Go.Ab.Bs Go.Ab.Sai
abbrev Ord2 (l:List (Int×Int)):Prop:=l.Pairwise fun x y=>plx y x=false
theorem Zzm{σ:Store}{n:Nat}{h:Hdl}{l:List (Int×Int)}(g:Grow σ n h 2 (pairsL l))(hp:σ.prot<=n)(hl:l.length<2^60) :
  ∃ σ',Runs Qa 78 [.slice h,.func 79 [] []] σ (.tuple []) σ'/\Kp n σ σ'/\Grow σ' n h 2 (pairsL (sortP l)):=by
 have ll:=Z5 g.sl
 rcases Nat.eq_zero_or_pos l.length with h0 | h0
 ·have:l=[]:=Qz h0
  subst this
  refine⟨σ,Runs.told (f:=sortFT 79) (by kernel_rfl) ?_,Kp.refl _ _,by rw [show sortP []=[] from Qz (Zer [])]; exact g⟩
  obtain⟨a,len,cap⟩:=h
  simp only [QI] at ll
  subst ll
  rfl
 ·have s:=Grow.sl g
  rcases s.row with h1 | ⟨b,o,cs,rw,h1,h2,h3,h4⟩
  ·omega
  ·obtain⟨hb,cs',k1,k2,k3⟩:=g.own.own b o h1
   rw [h2] at k1; injection k1 with k1; injection k1 with e1 e2 e3; subst e1 e2
   have pl:=Zba l
   have ps:=Zba (sortP l)
   have sl:=Zer l
   have hbl:b<σ.objs.length:=(Ql.1 h2).1
   refine⟨σ.setO b (.cells (cs.take o++(pairsL (sortP l)++cs.drop (o+2*l.length))) true 2),Runs.told (f:=sortFT 79) (by kernel_rfl) ?_,(Kp.refl _ _).setO hb,⟨⟨by rw [ps,sl,ll],.inr ⟨b,o,_,true,h1,Store.Row.setO_eq hbl,?_,?_⟩⟩,⟨fun b' o' e=>?_,g.own.nil⟩⟩⟩
   ·obtain⟨a,len,cap⟩:=h
    simp only at h1 ll
    subst h1 ll
    obtain⟨m,hm⟩:∃ m,l.length=m+1:=⟨l.length-1,by omega⟩
    have bt:Nat.beq 79 79=true:=by decide
    unfold sortFT
    simp only [hm,bt]
    simp only [h2]
    rw [pl,Nat.mul_comm,hm] at h3 h4
    rw [h4,show pairsL l=pairsA l from rfl,Zg2]
    simp only
    rw [if_pos ⟨by omega,h3,by omega⟩]
    rfl
   ·simp only [Qc,Qe,Qs,ps,sl]; omega
   ·have tk:(cs.take o).length=o:=by simp; omega
    rw [List.drop_append_of_le_length (by omega),List.drop_of_length_le (by omega),List.nil_append,List.take_append_of_le_length (by simp),Qw (by simp)]
   ·rw [h1] at e; injection e with e; injection e with e1 e2; subst e1 e2
    refine⟨hb,_,Store.Row.setO_eq hbl,?_,fun c hc=>?_⟩
    ·simp only [Qc,Qe,Qs,ps,sl]; omega
    ·have:=k3 c hc
     simp only [Qc,Qe,Qs,ps,sl]; omega
end Go.Ab

namespace Go.Ab
open Go Go.Proofs Go.Ab.Wd Go.Ab.Bs Go.Ab.Sai
theorem Zoe:∀ {a b:List (Int×Int)},a.Perm b->Ord2 a->Ord2 b->a=b
 | [],b,p,_,_=>(List.nil_perm.1 p).symm ▸ rfl
 | x::l,[],p,_,_=>absurd p.symm (by intro h; have:=h.length_eq; simp at this)
 | x::l,y::m,p,ha,hb=>by
  rw [Ord2,List.pairwise_cons] at ha hb
  have h1:y∈x::l:=p.mem_iff.2 (by simp)
  have h2:x∈y::m:=p.mem_iff.1 (by simp)
  have e:x=y:=by
   rcases QO.1 h1 with h1 | h1
   ·exact h1.symm
   ·rcases QO.1 h2 with h2 | h2
    ·exact h2
    ·have k1:=Zb2.1 (ha.1 y h1)
     have k2:=Zb2.1 (hb.1 x h2)
     have e1:x.1=y.1:=by omega
     have e2:x.2=y.2:=by omega
     exact Prod.ext e1 e2
  subst e
  rw [Zoe (List.Perm.cons_inv p) ha.2 hb.2]
theorem Z4e(d q:List Int):(occ d q).Pairwise (· < ·):=by
 unfold occ
 refine List.Pairwise.sublist List.filter_sublist ?_
 unfold places
 rw [QD]
 exact List.pairwise_lt_range.imp fun h=>by have h':_<_:=h; exact Int.ofNat_lt.2 h'
theorem Zrv(q:List Int):∀ (D:List (List Int)) (i:Int),Ord2 (occP q i D)
 | [],i=>List.Pairwise.nil
 | d::r,i=>by
  simp only [occP]
  rw [Ord2,List.pairwise_append]
  refine⟨?_,Zrv q r (i+1),fun x hx y hy=>?_⟩
  ·rw [QD]
   exact (Z4e d q).imp fun h=>by rw [Zb2]; simp only; omega
  ·obtain⟨o,_,rfl⟩:=QQ.1 hx
   have:=Zef hy
   rw [Zb2]; simp only; omega
section
variable {σ:Store} {p:Ptr} {D:List (List Int)} {h:Hdl} {q:List Int}
def SortsP(N:Nat):Prop:=∀ {n:Nat} {h:Hdl} {σ:Store} {L:List (Int×Int)},Grow σ n h 2 (pairsL L)->σ.prot<=n->n<=σ.objs.length->L.length<=N ->
  ∃ M σ',Runs Qa 78 [.slice h,.func 79 [] []] σ (.tuple []) σ'/\Kp n σ σ'/\Grow σ' n h 2 (pairsL M)/\M.Perm L/\Ord2 M
theorem Zzo(N:Nat)(hN:N<2^60):SortsP N:=fun G hp hn hl=>by
 obtain⟨σ',r,k,g⟩:=Zzm G hp (by omega)
 exact⟨_,σ',r,k,g,Zlz _,Zzn _⟩
theorem Zjc{N:Nat}(SP:SortsP N)(X:Idx σ p D)(hp:σ.prot<=σ.objs.length)(Nq:Store.Nums .u8 σ h q)(q0:∀ b∈q,(0:Int)<=b/\b<256)(few:(occP q 0 D).length<=N) :
  ∃ ho σ',Runs Qa 27 [.ptr p,.slice h] σ (.tuple [.slice ho,.int .i64 (errQ q)]) σ'/\Kp σ.objs.length σ σ'/\Grow σ' σ.objs.length ho 2 (pairsL (if q=[]\/256<q.length then [] else occP q 0 D)):=by
 rcases Zim X hp Nq q0 with ⟨c1,c2,s2,⟨n2,r2⟩,k2⟩ | ⟨c,⟨n2,r2⟩⟩
 ·have cn:¬ (q=[]\/256<q.length):=fun h=>h.elim c1 (by omega)
  obtain⟨a,z,O⟩:=Zft X.byte c1 fun b hb=>(q0 b hb).1
  rw [O.eq] at r2
  have lm2:=k2.len
  have X2:=X.kp k2
  have ok:=X.ok
  have ok1:=ok.1
  have ok2:=ok.2
  have tb:=Zaq D
  have zt:=O.lt
  have az:=O.le
  obtain⟨n,hn⟩:∃ n,n=s2.objs.length:=⟨_,rfl⟩
  obtain⟨bb,e0⟩:∃ bb,p=some (bb,0):=by obtain⟨b,_,_,_,_,_,e,_⟩:=X.ex; exact⟨b,e⟩
  subst e0
  obtain⟨pl,hpl⟩:∃ pl:Nat->Int×Int,pl=fun j:Nat=>docF 0 D (rd (saOf (syms D)) ((a:Int)+j)):=⟨_,rfl⟩
  obtain⟨r,e,ho,s4,rfl,K4,G4⟩:=EvI.up (f:=fun k s=>QA Qa (gm Qa k) Q4 k Tryz.f27 [1,1,1,1,0,1,0] [10,9,7,0] s) (z-a)
   (fun i st=>∃ ho s3,st=([.int .i64 (a+i:Nat),.slice ho,.int .i64 z,.ptr (some (bb,0))],s3)/\Kp n s2 s3/\Grow s3 n ho 2 (pairsL ((QN i).map pl)))
   (fun r=>∃ ho s3,r=(Q6 0,[(9,.slice ho)],s3)/\Kp n s2 s3/\Grow s3 n ho 2 (pairsL ((QN (z-a)).map pl)))
   (by
    rintro i st hi ⟨ho,s3,rfl,K3,G3⟩
    have lm3:=K3.len
    have X3:=X2.kp (hn ▸ K3)
    obtain⟨b,pt,pf,pm,pll,pn,e,R,T,F0,F,M,L,Ta⟩:=X3.ex
    injection e with e; injection e with e _; subst e
    have Dne:D≠[]:=fun e=>by rw [e] at zt; simp [tot] at zt; omega
    have f1:=Zam R (o:=1) rfl
    have f0:=Zam R (o:=0) rfl
    obtain⟨n3,r3⟩:=Zy1 (F Dne) ((a+i:Nat):Int)
    have lsy:=Zae D
    rw [if_pos ⟨by omega,by omega⟩,if_pos ⟨by omega,by omega⟩] at r3
    have rr:=(Zj (syms D)).perm.rng _ (Ze (l:=saOf (syms D)) (i:=((a+i:Nat):Int)) (by omega) (by rw [Zab]; omega))
    have p3:s3.prot<=n:=by rw [K3.prot,k2.prot]; omega
    obtain⟨s5,⟨n5,r5⟩,k5⟩:=Zop T (by omega) rr.1 (by omega)
    have G5:=G3.kp k5
    have lm5:=k5.len
    have ep:docF 0 D (rd (saOf (syms D)) ((a+i:Nat):Int))=pl i:=by rw [hpl]; simp only; rw [show ((a+i:Nat):Int)=(a:Int)+i by omega]
    rw [ep] at r5
    have rd0:=Zwl s5 (.int .i64 (pl i).1) (.int .i64 (pl i).2) (some 1)
    obtain⟨h6,s6,e6,k6,G6,_⟩:=Zh7 G5 (by rw [k5.prot]; exact p3) (by omega) (pl i).1 (pl i).2 (by simp; omega)
    have w:=Zi (i:=a+i) (n:=z) (by omega) (by omega)
    refine⟨_,⟨n3+n5,fun k hk=>?_⟩,h6,s6,rfl,(K3.then k5 (by omega)).trans k6,?_⟩
    ·have r3:=r3 k (by omega)
     have r5:=r5 k (by omega)
     simp only at r3 r5
     simp only [Zhj]
     simp only [stp,show ((a+i:Nat):Int)<(z:Int) by omega,f1,r3,f0,r5,rd0,e6,w]
     rfl
    ·rw [List.range_succ,Q0]; exact G6)
   (by
    rintro st ⟨ho,s3,rfl,K3,G3⟩
    refine⟨_,Ev.of fun k=>?_,ho,s3,rfl,K3,G3⟩
    simp only [Zhj]
    simp only [stp,show ¬ (((a+(z-a):Nat):Int)<(z:Int)) by omega])
   (s:=([.int .i64 a,.slice QM,.int .i64 z,.ptr (some (bb,0))],s2)) ⟨Hdl.nil,s2,rfl,Kp.refl _ _,by simp; exact Grow.nil _ _ _⟩
  obtain⟨n4,e⟩:=Zc e
  have lm4:=K4.len
  have pp:((QN (z-a)).map pl).Perm (occP q 0 D):=by rw [hpl]; exact O.places
  obtain⟨M,s6,⟨n6,r6⟩,k6,G6,pm,so⟩:=SP G4 (by rw [K4.prot,k2.prot]; omega) (by omega) (by rw [pp.length_eq]; exact few)
  have em:M=occP q 0 D:=Zoe (pm.trans pp) so (Zrv q D 0)
  rw [em] at G6
  have ee:errQ q=0:=if_neg cn
  refine⟨ho,s6,rI Tryz.f27 ⟨n2+n4+n6,fun k hk=>?_⟩,(k2.trans (K4.mono (by omega))).trans (k6.mono (by omega)),by rw [if_neg cn]; exact G6.mono (by omega)⟩
  have r2:=r2 k (by omega)
  have e:=e k (by omega)
  have r6:=r6 k (by omega)
  simp only at r2 e r6
  rw [ee]
  simp only [Zxt]
  simp only [stp,r2,e]
  rw [Zms]
  simp only [r6,Qn]
 ·have ee:errQ q=210:=if_pos c
  refine⟨Hdl.nil,σ,rI Tryz.f27 ⟨n2,fun k hk=>?_⟩,Kp.refl _ _,by rw [if_pos c]; exact Grow.nil _ _ _⟩
  have r2:=r2 k (by omega)
  simp only at r2
  rw [ee]
  simp only [Zxt]
  simp only [stp,r2,show ¬ ((210:Int)=0) by omega]
end
end Go.Ab

namespace Go.Ab
open Go Go.Proofs Go.Ab.Wd Go.Ab.Bs Go.Ab.Sai
theorem Zas{σ:Store}(hp:σ.prot<=σ.objs.length)(l:List AV)(es n:Nat)(c:Option Nat)(hn:0<n):Store.markOk (σ.push l es) ⟨some (σ.objs.length,0),n,c⟩=true:=by
 unfold Store.markOk
 have h0:Nat.beq n 0=false:=by cases n with | zero=>omega | succ n=>rfl
 have h1:(σ.push l es).objs[σ.objs.length]?=some (.cells l true es):=Store.Row.new
 simp only [h0,cond_false,h1]
 exact Nat.ble_eq_true_of_le hp
def D19:List (List Int):=[[98,97,110,97,110,97],[97,110,97,110,97,115],[110,97,98]]
theorem Zz2:Byts D19:=by unfold Byts D19; decide
theorem Zw2:okD D19:=by unfold okD D19; decide
theorem Z43:cntI D19 [97,110]=(2,4):=by decide +kernel
theorem Z6z:topI D19 [97] 2=[(0,3),(1,3)]:=by decide +kernel
theorem Z17:(prF [110,97,98] 0 D19).map (·.1)=[2]:=by decide +kernel
theorem Z12:(occP [98] 0 D19).length=2:=by decide +kernel
theorem Ze4{σ:Store}{l:List Int}:Store.Nums .u8 (σ.push (numsL .u8 l) 1) ⟨some (σ.objs.length,0),l.length,some l.length⟩ l:=Store.Row.new.sl (by simp)
theorem Zs0{σ:Store}(hp:σ.prot<=σ.objs.length):∃ σ',Runs Qa 15 [] σ (.bool true) σ'/\Kp σ.objs.length σ σ':=by
 obtain⟨n,hn⟩:∃ n,n=σ.objs.length:=⟨_,rfl⟩
 obtain⟨s1,h1⟩:∃ s,s=σ.push [Qm .u8 98,Qm .u8 97,Qm .u8 110,Qm .u8 97,Qm .u8 110,Qm .u8 97] 1:=⟨_,rfl⟩
 obtain⟨s2,h2⟩:∃ s,s=s1.push [Qm .u8 97,Qm .u8 110,Qm .u8 97,Qm .u8 110,Qm .u8 97,Qm .u8 115] 1:=⟨_,rfl⟩
 obtain⟨s3,h3⟩:∃ s,s=s2.push [Qm .u8 110,Qm .u8 97,Qm .u8 98] 1:=⟨_,rfl⟩
 have l1:s1.objs.length=n+1:=by rw [h1,hn]; simp
 have l2:s2.objs.length=n+2:=by rw [h2]; simp [l1]
 have l3:s3.objs.length=n+3:=by rw [h3]; simp [l2]
 have p1:s1.prot=σ.prot:=by rw [h1]; rfl
 have p2:s2.prot=σ.prot:=by rw [h2]; exact p1
 have p3:s3.prot=σ.prot:=by rw [h3]; exact p2
 have m1:Store.markOk s1 ⟨some (n,0),6,some 6⟩=true:=by rw [h1,hn]; exact Zas hp _ _ _ _ (by omega)
 have m2:Store.markOk s2 ⟨some (n+1,0),6,some 6⟩=true:=by rw [h2,<-l1]; exact Zas (by omega) _ _ _ _ (by omega)
 have m3:Store.markOk s3 ⟨some (n+2,0),3,some 3⟩=true:=by rw [h3,<-l2]; exact Zas (by omega) _ _ _ _ (by omega)
 obtain⟨s4,h4⟩:∃ s,s=s3.push [Q9 ⟨some (n,0),6,some 6⟩,Q9 ⟨some (n+1,0),6,some 6⟩,Q9 ⟨some (n+2,0),3,some 3⟩] 1:=⟨_,rfl⟩
 have l4:s4.objs.length=n+4:=by rw [h4]; simp [l3]
 have p4:s4.prot=σ.prot:=by rw [h4]; exact p3
 have k1:Kp n σ s1:=by rw [h1,hn]; exact Kp.push _ _ (Qd _)
 have k4:Kp n σ s4:=by rw [h4,h3,h2]; exact ((k1.push' (by omega)).push' (by simp [l1]; omega)).push' (by simp [l1]; omega)
 have R1:s1.Row n 1 (numsL .u8 [98,97,110,97,110,97]):=by rw [h1,hn]; exact Store.Row.new
 have R2:s2.Row (n+1) 1 (numsL .u8 [97,110,97,110,97,115]):=by rw [h2,<-l1]; exact Store.Row.new
 have R3:s3.Row (n+2) 1 (numsL .u8 [110,97,98]):=by rw [h3,<-l2]; exact Store.Row.new
 have R4:s4.Row (n+3) 1 [Q9 ⟨some (n,0),6,some 6⟩,Q9 ⟨some (n+1,0),6,some 6⟩,Q9 ⟨some (n+2,0),3,some 3⟩]:=by rw [h4,<-l3]; exact Store.Row.new
 have S1:s4.Row n 1 (numsL .u8 [98,97,110,97,110,97]):=by rw [h4,h3,h2]; exact ((R1.push).push).push
 have S2:s4.Row (n+1) 1 (numsL .u8 [97,110,97,110,97,115]):=by rw [h4,h3]; exact (R2.push).push
 have S3:s4.Row (n+2) 1 (numsL .u8 [110,97,98]):=by rw [h4]; exact R3.push
 have Dc:Dcs s4 ⟨some (n+3,0),3,some 3⟩ D19:=⟨[⟨some (n,0),6,some 6⟩,⟨some (n+1,0),6,some 6⟩,⟨some (n+2,0),3,some 3⟩],R4.sl (by rfl),rfl,fun i d hi=>by
  match i,hi with
  | 0,hi=>simp [D19] at hi; subst hi; exact⟨_,rfl,S1.sl (by rfl)⟩
  | 1,hi=>simp [D19] at hi; subst hi; exact⟨_,rfl,S2.sl (by rfl)⟩
  | 2,hi=>simp [D19] at hi; subst hi; exact⟨_,rfl,S3.sl (by rfl)⟩
  | i+3,hi=>simp [D19] at hi⟩
 rcases Zni Dc (by omega) (fun d hd=>by have:=Zkd hd; have:=Zw2.2; omega) Zz2 with ⟨_,p,s5,⟨n5,r5⟩,k5,pn,X5⟩ | ⟨bad,_⟩
 case inr=>exact absurd Zw2 bad
 have X5:=X5 s5 fun _ _ _=>rfl
 have lm5:=k5.len
 have p5:s5.prot=σ.prot:=k5.prot.trans p4
 obtain⟨s6,h6⟩:∃ s,s=s5.push [Qm .u8 97,Qm .u8 110] 1:=⟨_,rfl⟩
 have k6:Kp s5.objs.length s5 s6:=by rw [h6]; exact Kp.push _ _ (Qd _)
 have m6:Store.markOk s6 ⟨some (s5.objs.length,0),2,some 2⟩=true:=by rw [h6]; exact Zas (by omega) _ _ _ _ (by omega)
 have N6:Store.Nums .u8 s6 ⟨some (s5.objs.length,0),2,some 2⟩ [97,110]:=by rw [h6]; exact Ze4 (l:=[97,110])
 have lm6:=k6.len
 obtain⟨s7,⟨n7,r7⟩,k7⟩:=Zk3 (X5.kp k6) (by rw [k6.prot]; omega) N6 (by decide)
 rw [Z43,show errQ [97,110]=0 from by decide +kernel] at r7
 have lm7:=k7.len
 obtain⟨m,hm⟩:∃ m,m=s7.objs.length:=⟨_,rfl⟩
 have p7:s7.prot=σ.prot:=(k7.prot.trans k6.prot).trans p5
 have R7:(s7.push [.int .i64 0,.int .i64 0] 2).Row m 2 [.int .i64 0,.int .i64 0]:=by rw [hm]; exact Store.Row.new
 obtain⟨s8,t8,R8,l8,p8,o8⟩:=Zl1 R7 rfl (by show s7.prot<=m; omega) (u:=2) (v:=4)
 have k78:Kp m s7 s8:=⟨p8,by rw [l8]; simp,fun x hx=>by rw [o8 x (by omega)]; simp only [QV]; rw [Qf (by omega)]⟩
 have X8:=((X5.kp k6).kp k7).kp (hm ▸ k78)
 have lm8:=k78.len
 have p8':s8.prot=σ.prot:=k78.prot.trans p7
 obtain⟨s9,h9⟩:∃ s,s=s8.push [Qm .u8 97] 1:=⟨_,rfl⟩
 have k9:Kp s8.objs.length s8 s9:=by rw [h9]; exact Kp.push _ _ (Qd _)
 have m9:Store.markOk s9 ⟨some (s8.objs.length,0),1,some 1⟩=true:=by rw [h9]; exact Zas (by omega) _ _ _ _ (by omega)
 have N9:Store.Nums .u8 s9 ⟨some (s8.objs.length,0),1,some 1⟩ [97]:=by rw [h9]; exact Ze4 (l:=[97])
 have lm9:=k9.len
 obtain⟨ht,s10,⟨n10,r10⟩,k10,G10⟩:=Z0t (X8.kp k9) (by rw [k9.prot]; omega) N9 (by decide) 2
 rw [if_neg (by decide)] at r10 G10
 rw [Z6z] at G10
 have lm10:=k10.len
 have p10:s10.prot=σ.prot:=(k10.prot.trans k9.prot).trans p8'
 have X10:=(X8.kp k9).kp k10
 obtain⟨s11,h11⟩:∃ s,s=s10.push [Qm .u8 110,Qm .u8 97,Qm .u8 98] 1:=⟨_,rfl⟩
 have k11:Kp s10.objs.length s10 s11:=by rw [h11]; exact Kp.push _ _ (Qd _)
 have m11:Store.markOk s11 ⟨some (s10.objs.length,0),3,some 3⟩=true:=by rw [h11]; exact Zas (by omega) _ _ _ _ (by omega)
 have N11:Store.Nums .u8 s11 ⟨some (s10.objs.length,0),3,some 3⟩ [110,97,98]:=by rw [h11]; exact Ze4 (l:=[110,97,98])
 have lm11:=k11.len
 obtain⟨hl,s12,⟨n12,r12⟩,k12,G12⟩:=Zx8 (X10.kp k11) (by rw [k11.prot]; omega) N11 (by decide)
 rw [if_neg (by decide),Z17] at G12
 rw [show errQ [110,97,98]=0 from by decide +kernel] at r12
 have lm12:=k12.len
 have p12:s12.prot=σ.prot:=(k12.prot.trans k11.prot).trans p10
 have X12:=(X10.kp k11).kp k12
 obtain⟨s13,⟨n13,r13⟩,k13⟩:=Zk3 (h:=QM) (q:=[]) X12 (by omega) (Z08 _ _) (by simp)
 rw [show cntI D19 []=(0,0) from by decide +kernel,show errQ []=210 from by decide +kernel] at r13
 have lm13:=k13.len
 have p13:s13.prot=σ.prot:=k13.prot.trans p12
 have R13:(s13.push [.int .i64 0,.int .i64 0] 2).Row s13.objs.length 2 [.int .i64 0,.int .i64 0]:=Store.Row.new
 obtain⟨s14,t14,R14,l14,p14,o14⟩:=Zl1 R13 rfl (by show s13.prot<=_; omega) (u:=0) (v:=0)
 have k14:Kp s13.objs.length s13 s14:=⟨p14,by rw [l14]; simp,fun x hx=>by rw [o14 x (by omega)]; simp only [QV]; rw [Qf (by omega)]⟩
 have lm14:=k14.len
 have p14':s14.prot=σ.prot:=k14.prot.trans p13
 have X14:=(X12.kp k13).kp k14
 obtain⟨s15,h15⟩:∃ s,s=s14.push [Qm .u8 98] 1:=⟨_,rfl⟩
 have k15:Kp s14.objs.length s14 s15:=by rw [h15]; exact Kp.push _ _ (Qd _)
 have m15:Store.markOk s15 ⟨some (s14.objs.length,0),1,some 1⟩=true:=by rw [h15]; exact Zas (by omega) _ _ _ _ (by omega)
 have N15:Store.Nums .u8 s15 ⟨some (s14.objs.length,0),1,some 1⟩ [98]:=by rw [h15]; exact Ze4 (l:=[98])
 have lm15:=k15.len
 obtain⟨hq,s16,⟨n16,r16⟩,k16,G16⟩:=Zjc (Zzo 12 (by omega)) (X14.kp k15) (by rw [k15.prot]; omega) N15 (by decide) (by rw [Z12]; omega)
 rw [if_neg (by decide)] at G16
 have lq:=Z5 G16.sl
 rw [Z12] at lq
 have lm16:=k16.len
 have p16:s16.prot=σ.prot:=(k16.prot.trans k15.prot).trans p14'
 have k816:Kp s8.objs.length s8 s16:=(((((((k9.trans (k10.mono (by omega))).trans (k11.mono (by omega))).trans (k12.mono (by omega))).trans (k13.mono (by omega))).trans (k14.mono (by omega))).trans (k15.mono (by omega))).trans (k16.mono (by omega)))
 have R16:=R8.kp k816 R8.lt
 obtain⟨f0,f1⟩:=ld2 R16
 have k1016:Kp s10.objs.length s10 s16:=(((((k11.trans (k12.mono (by omega))).trans (k13.mono (by omega))).trans (k14.mono (by omega))).trans (k15.mono (by omega))).trans (k16.mono (by omega)))
 obtain⟨s17,h17⟩:∃ s,s=s16.push [.int .i64 0,.int .i64 3,.int .i64 1,.int .i64 3] 2:=⟨_,rfl⟩
 have k17:Kp s16.objs.length s16 s17:=by rw [h17]; exact Kp.push _ _ (Qd _)
 have P17:s17.Sl ⟨some (s16.objs.length,0),2,some 2⟩ 2 (pairsL [(0,3),(1,3)]):=by rw [h17]; exact Store.Row.new.sl (by rfl)
 have T17:s17.Sl ht 2 (pairsL [(0,3),(1,3)]):=((G10.sl).kp k1016).kp k17
 obtain⟨n17,r17⟩:=Zwr T17 P17 (by simp)
 have k1216:Kp s12.objs.length s12 s16:=(((k13.trans (k14.mono (by omega))).trans (k15.mono (by omega))).trans (k16.mono (by omega)))
 obtain⟨s18,h18⟩:∃ s,s=s17.push [.int .i64 2] 1:=⟨_,rfl⟩
 have lm17:=k17.len
 have k18:Kp s17.objs.length s17 s18:=by rw [h18]; exact Kp.push _ _ (Qd _)
 have I18:s18.Ints ⟨some (s17.objs.length,0),1,some 1⟩ [2]:=by rw [h18]; exact Store.Row.new.sl (by rfl)
 have L18:s18.Ints hl [2]:=Store.Sl.kp (Store.Sl.kp (Store.Sl.kp G12.ints k1216) k17) k18
 obtain⟨n18,r18⟩:=Z1l L18 I18 (by simp)
 rw [decide_eq_true rfl] at r18
 have lm18:=k18.len
 refine⟨s18,rI Tryz.f15 ⟨n5+n7+n10+n12+n13+n16+n17+n18,fun k hk=>?_⟩,hn ▸ ?_⟩
 ·have r5:=r5 k (by omega)
  have r7:=r7 k (by omega)
  have r10:=r10 k (by omega)
  have r12:=r12 k (by omega)
  have r13:=r13 k (by omega)
  have r16:=r16 k (by omega)
  have r17:=r17 k (by omega)
  have r18:=r18 k (by omega)
  simp only at r5 r7 r10 r12 r13 r16 r17 r18
  rw [show errQ [98]=0 from by decide +kernel] at r16
  simp only [Z5b]
  simp only [<-h1,<-hn,m1,if_true,l1,<-h2,m2,l2,<-h3,m3,l3,<-h4]
  simp only [stp,r5,pn,<-h6,m6,r7,AV.aggAt,<-hm,t8,<-h9,m9,r10,<-h11,m11,r12,r13,t14,<-h15,m15,r16,f0,f1,<-h17,r17,<-h18,r18,lq]
  rfl
 ·exact ((((((((k4.trans (k5.mono (by omega))).trans (k6.mono (by omega))).trans (k7.mono (by omega))).trans (k78.mono (by omega))).trans (k816.mono (by omega)))).trans (k17.mono (by omega))).trans (k18.mono (by omega)))
end Go.Ab

namespace Go.Ab
open Go Go.Proofs Go.Ab.Wd Go.Ab.Bs Go.Ab.Sai
theorem Zzj{σ:Store}{h:Hdl}{D:List (List Int)}(A:Dcs σ h D)(b c:Nat)(hb:b<2^40)(hc:c<2^40):Runs Qa 16 [.slice h,.int .i64 b,.int .i64 c] σ (.bool (smallB D b c)) σ:=by
 have ld:=A.len
 by_cases c0:c<D.length
 ·unfold smallB
  rw [decide_eq_false (by omega:¬ D.length<=c),Bool.false_and]
  refine rI Tryz.f16 (Ev.of fun k=>?_)
  simp only [Zqe]
  simp only [stp,show (c:Int)<(h.len:Int) by omega]
 ·exact Zzk A (by omega) b c hb
theorem Z4q{σ:Store}{h:Hdl}{D:List (List Int)}(r:Rws .u8 σ h D):Dcs σ h D/\Byts D:=by
 obtain⟨hs,s,l,g⟩:=r.ex
 refine⟨⟨hs,s,l,fun i d hd=>?_⟩,fun d hd x hx=>?_⟩
 ·obtain⟨g1,e,n,_⟩:=g i d hd; exact⟨g1,e,n⟩
 ·have:=r.wf d hd x hx
  have e1:IntKind.min .u8=0:=by decide
  have e2:IntKind.max .u8=255:=by decide
  omega
theorem Z41{q:List Int}(hw:∀ n∈q,IntKind.min .u8<=n/\n<=IntKind.max .u8):∀ x∈q,(0:Int)<=x/\x<256:=fun x hx=>by
 have:=hw x hx
 have e1:IntKind.min .u8=0:=by decide
 have e2:IntKind.max .u8=255:=by decide
 omega
section
variable {σ:Store} {h h':Hdl} {D:List (List Int)} {q:List Int}
end
end Go.Ab

namespace Go.Ab
open Go Go.Proofs Go.Ab.Wd Go.Ab.Bs Go.Ab.Sai
theorem Z09(q:List Int){D:List (List Int)}{i:Nat}{d:List Int}(h:D[i]?=some d):occP q 0 (D.take (i+1))=occP q 0 (D.take i)++(occ d q).map fun o=>((i:Int),o):=by
 have hl:=(Ql.1 h).1
 rw [Z1 h,Zfg,Qe,QJ (by omega),QR]
 simp [occP]
theorem Dcs.getK{σ:Store}{h:Hdl}{D:List (List Int)}(t:Dcs σ h D){i:Nat}{d:List Int}(hi:D[i]?=some d):∃ g,Store.Nums .u8 σ g d/\∀ s2,Kp σ.objs.length σ s2->s2.ldSl (h.idx (i:Int) 1)=some g:=by
 obtain⟨hs,s,l,g⟩:=t.ex
 obtain⟨g1,e,n⟩:=g i d hi
 refine⟨g1,n,fun s2 K=>?_⟩
 have:s2.cell (h.idx (i:Int) 1)=some (.slice g1):=Store.Sl.at (Store.Sl.kp s K) (by omega) (by rw [Qx,Q7,e]; rfl)
 simp only [Store.ldSl,this]
section
variable {σ:Store} {h h':Hdl} {d q:List Int} {D:List (List Int)}
theorem Z1d{n:Nat}{g0 ho:Hdl}{L:List (Int×Int)}{i:Nat}{b:Int}{σ0:Store}(hn:σ0.objs.length<=n)(Nd:Store.Nums .u8 σ0 g0 d)(Nq:Store.Nums .u8 σ0 h' q)(hq:q≠[])(hd:∀ x∈d,(0:Int)<=x/\x<256)(hb:∀ x∈q,(0:Int)<=x/\x<256)(ld:d.length<2^30)(lq:q.length<2^40)(lL:L.length<2^31)
  {σ1:Store} (K1:Kp n σ0 σ1) (hp:σ1.prot<=n) (h1:n<=σ1.objs.length) (G:Grow σ1 n ho 2 (pairsL L)) :
  ∃ h2 σ2,EvI (fun k s=>QA Qa (gm Qa k) Q4 k Tryz.f33 [1,1,0,1,0,0,1,1,0,0,1,1,0] [11,10,9,8,7,6,5,1] s)
   ([.int .i64 i,.int .i64 b,.slice h,.int .i64 0,.slice g0,.int .i64 i,.slice ho,.slice h'],σ1) (Q6 2,[(11,.int .i64 i),(10,.int .i64 b),(9,.slice h),(5,.slice h2),(1,.slice h')],σ2) /\
   Kp n σ1 σ2/\Grow σ2 n h2 2 (pairsL (L++(occ d q).map fun o=>((i:Int),o))):=by
 have l1:=Zz Nd
 have l2:=Zz Nq
 have q1:0<q.length:=QC.2 hq
 obtain⟨r,e,h2,σ2,rfl,K,G⟩:=EvI.while (f:=fun k s=>QA Qa (gm Qa k) Q4 k Tryz.f33 [1,1,0,1,0,0,1,1,0,0,1,1,0] [11,10,9,8,7,6,5,1] s)
  (fun m s=>∃ (o:Nat) (h2:Hdl) (s2:Store),m=d.length+1-o/\o<=d.length/\s=([.int .i64 i,.int .i64 b,.slice h,.int .i64 o,.slice g0,.int .i64 i,.slice h2,.slice h'],s2)/\Kp n σ1 s2/\Grow s2 n h2 2 (pairsL (L++((places o).filter fun p=>pfB d p q).map fun o=>((i:Int),o))))
  (fun r=>∃ (h2:Hdl) (s2:Store),r=(Q6 2,[(11,.int .i64 i),(10,.int .i64 b),(9,.slice h),(5,.slice h2),(1,.slice h')],s2)/\Kp n σ1 s2/\Grow s2 n h2 2 (pairsL (L++(occ d q).map fun o=>((i:Int),o))))
  (by
   rintro m s ⟨o,h2,s2,rfl,o1,rfl,K,G⟩
   have w1:Qo .i64 ((o:Int)+(h'.len:Int))=((o+q.length:Nat):Int):=by rw [Za (by omega) (by omega)]; omega
   have Nd2:Store.Nums .u8 s2 g0 d:=Store.Sl.kp Nd ((K1.trans K).mono hn)
   have Nq2:Store.Nums .u8 s2 h' q:=Store.Sl.kp Nq ((K1.trans K).mono hn)
   have lm:=K.len
   by_cases c:o+q.length<=d.length
   ·obtain⟨g,e1,S1,_,_⟩:=Z6r Nd2 (lo:=some (o:Int)) (hi:=some ((o+q.length:Nat):Int)) (by simp) (by simp; omega) (by simp; omega)
    simp only [Option.getD_some,Qx] at S1
    rw [Zll,Zlk] at S1
    have e2:=S1.read
    have e3:=Nq2.read
    have se:=Zl2 (a:=(d.take (o+q.length)).drop o) (b:=q) (fun x hx=>hd x (List.mem_of_mem_take (List.mem_of_mem_drop hx))) hb
    rw [<-Zr0 c] at se
    have w2:=Zi (i:=o) (n:=d.length) (by omega) (by omega)
    have fl:((places o).filter fun p=>pfB d p q).length<=o:=QS (Q8 _ _) (by rw [Zm]; exact Qd _)
    cases hp':pfB d (o:Int) q with
    | true=>
     rw [hp'] at se
     have e4:([(o:Int)].filter fun p=>pfB d p q)=[(o:Int)]:=by simp [hp']
     have rd0:=Zwl s2 (.int .i64 (i:Int)) (.int .i64 (o:Int)) (some 1)
     obtain⟨h3,s3,e6,k6,G6,_⟩:=Zh7 G (by rw [K.prot]; exact hp) (by omega) (i:Int) (o:Int) (by simp; omega)
     refine .inl ⟨d.length+1-(o+1),_,by omega,Ev.of fun k=>?_,o+1,h3,s3,rfl,by omega,rfl,K.trans k6,?_⟩
     ·simp only [Zbl]
      simp only [stp,w1,show ((o+q.length:Nat):Int)<=(g0.len:Int) by omega,e1,e2,Zcg,e3,se,w2,rd0,e6]
     ·rw [places_succ,Q2,e4,Q0,<-QE]; exact G6
    | false=>
     rw [hp'] at se
     have e4:([(o:Int)].filter fun p=>pfB d p q)=[]:=by simp [hp']
     refine .inl ⟨d.length+1-(o+1),_,by omega,Ev.of fun k=>?_,o+1,h2,s2,rfl,by omega,rfl,K,?_⟩
     ·simp only [Zbl]
      simp only [stp,w1,show ((o+q.length:Nat):Int)<=(g0.len:Int) by omega,e1,e2,Zcg,e3,se,w2]
     ·rw [places_succ,Q2,e4,QK]; exact G
   ·refine .inr ⟨_,Ev.of fun k=>?_,h2,s2,rfl,K,?_⟩
    ·simp only [Zbl]
     simp only [stp,w1,show ¬ (((o+q.length:Nat):Int)<=(g0.len:Int)) by omega]
    ·have e4:occ d q=(places o).filter fun p=>pfB d p q:=by
      unfold occ
      rw [show d.length+1=o+(d.length+1-o) by omega,Zgl,Q2]
      have:(((places (d.length+1-o)).map fun p=>(o:Int)+p).filter fun p=>pfB d p q)=[]:=by
       rw [List.filter_eq_nil_iff]
       intro x hx hp
       obtain⟨y,hy,rfl⟩:=QQ.1 hx
       have:=Zl.1 hy
       have:=(Zaa.1 hp).2.1
       omega
      rw [this,QK]
     rw [e4]; exact G)
  (d.length+1-0) ([.int .i64 i,.int .i64 b,.slice h,.int .i64 0,.slice g0,.int .i64 i,.slice ho,.slice h'],σ1) ⟨0,ho,σ1,rfl,Nat.zero_le _,rfl,Kp.refl _ _,by simpa [places] using G⟩
 exact⟨h2,σ2,e,K,G⟩
theorem Zvw(A:Args σ h h' D q)(hp:σ.prot<=σ.objs.length)(hq:q≠[])(lD:D.length<2^30)(lb:bts D<2^30)(lq:q.length<2^40)(lo:(occP q 0 D).length<2^30) :
  ∃ ho σ',Runs Qa 33 [.slice h,.slice h'] σ (.slice ho) σ'/\Kp σ.objs.length σ σ'/\Grow σ' σ.objs.length ho 2 (pairsL (occP q 0 D)):=by
 have ld:=A.dcs.len
 obtain⟨n,hn⟩:∃ n,n=σ.objs.length:=⟨_,rfl⟩
 obtain⟨r,e,ho,σ',rfl,K,G⟩:=EvI.up (f:=fun k s=>QA Qa (gm Qa k) Q4 k Tryz.f33 [1,1,0,1,0] [11,10,9,5,1] s) D.length
  (fun i st=>∃ ho s2,st=([.int .i64 i,.int .i64 h.len,.slice h,.slice ho,.slice h'],s2)/\Kp n σ s2/\Grow s2 n ho 2 (pairsL (occP q 0 (D.take i))))
  (fun r=>∃ ho s2,r=(Q6 0,[(5,.slice ho)],s2)/\Kp n σ s2/\Grow s2 n ho 2 (pairsL (occP q 0 D)))
  (by
   rintro i st hi ⟨ho,s2,rfl,K,G⟩
   obtain⟨d,hd⟩:∃ d,D[i]?=some d:=⟨_,Qb hi⟩
   have dm:d∈D:=Qq hd
   have dl:=Zkd dm
   have lm:=K.len
   have tl:(occP q 0 (D.take i)).length<=(occP q 0 D).length:=by
    have:=Zfg q (D.take i) 0 (D.drop i)
    rw [List.take_append_drop] at this
    rw [this]; simp
   obtain⟨g0,N0,L0⟩:=A.dcs.getK hd
   have e0:=L0 s2 (hn ▸ K)
   obtain⟨h2,s3,e3,k3,G3⟩:=Z1d (h:=h) (i:=i) (b:=h.len) (σ0:=σ) (n:=n) (by omega) N0 A.nq hq (A.byte d dm) A.bq (by omega) lq (L:=occP q 0 (D.take i)) (by omega) K (by rw [K.prot]; omega) (by omega) G
   rw [<-Z09 q hd] at G3
   obtain⟨n3,e3⟩:=Zc e3
   have w3:=Zi hi (by omega)
   refine⟨_,⟨n3,fun k hk=>?_⟩,h2,s3,rfl,K.trans k3,G3⟩
   have e3:=e3 k hk
   simp only at e3
   simp only [Zkt]
   simp only [stp,show (i:Int)<(h.len:Int) by omega,show (0:Int)<=(i:Int) by omega,e0,e3]
   rw [Zf9,w3])
  (by
   rintro st ⟨ho,s2,rfl,K,G⟩
   rw [Qw (Qd _)] at G
   refine⟨_,Ev.of fun k=>?_,ho,s2,rfl,K,G⟩
   simp only [Zkt]
   simp only [stp,show ¬ ((D.length:Int)<(h.len:Int)) by omega])
  (s:=([.int .i64 0,.int .i64 h.len,.slice h,.slice QM,.slice h'],σ)) ⟨Hdl.nil,σ,rfl,Kp.refl _ _,by simp [occP]; exact Grow.nil _ _ _⟩
 obtain⟨n1,e⟩:=Zc e
 refine⟨ho,σ',rI Tryz.f33 ⟨n1,fun k hk=>?_⟩,hn ▸ K,hn ▸ G⟩
 have e:=e k hk
 simp only at e
 simp only [Z5i]
 simp only [e,Qn]
 rw [Zqt]
end
end Go.Ab

namespace Go.Ab
open Go Go.Proofs Go.Ab.Wd Go.Ab.Bs Go.Ab.Sai
theorem Z10(N:Int){D:List (List Int)}{i:Nat}{d:List Int}(h:D[i]?=some d):symF N 0 (D.take (i+1))=symF N 0 (D.take i)++d.map (fun b=>N+b)++[(i:Int)]:=by
 have hl:=(Ql.1 h).1
 rw [Z1 h,Zc5,Qe,QJ (by omega),QR]
 simp [symF]
theorem Zsl(N:Int):∀ (D:List (List Int)) (i:Int),(symF N i D).length=tot D
 | [],_=>rfl
 | d::r,i=>by simp only [symF,tot,Qc,Qi,QF,Zsl N r]; omega
theorem Zws{σ:Store}{h h':Hdl}{L:List (Int×Int)}(a:σ.Sl h 2 (pairsL L))(b:σ.Sl h' 2 (pairsL L))(hn:L.length<2^60):Runs Qa 32 [.slice h,.slice h'] σ (.bool true) σ:=by
 have la:=Z5 a
 have lb:=Z5 b
 obtain⟨r,e,rfl⟩:=EvI.up (f:=fun k s=>QA Qa (gm Qa k) Q4 k Tryz.f32 [1,1,0,1,0] [13,12,1,0] s) L.length
  (fun i s=>s=([.int .i64 i,.int .i64 L.length,.slice h',.slice h],σ)) (fun r=>r=(Q6 0,[],σ))
  (by
   rintro i s hi rfl
   have i0:(0:Int)<=i:=by omega
   have i1:(i:Int)<L.length:=by omega
   have i2:(i:Int)<h.len:=by omega
   have i3:(i:Int)<h'.len:=by omega
   have w:=Zi hi (by omega)
   obtain⟨⟨u,v⟩,huv⟩:∃ q,L[i]?=some q:=⟨_,Qb hi⟩
   obtain⟨g0,g1⟩:=Zeg a huv
   obtain⟨g2,g3⟩:=Zeg b huv
   exact⟨_,Ev.of fun k=>by simp only [Zks]; simp only [stp,i0,i1,i2,i3,g0,g1,g2,g3,w],rfl⟩)
  (by
   rintro s rfl
   exact⟨_,Ev.of fun k=>by simp only [Zks]; simp only [stp,Int.lt_irrefl],rfl⟩)
  (s:=([.int .i64 0,.int .i64 L.length,.slice h',.slice h],σ)) rfl
 refine rI Tryz.f32 ?_
 refine (Ev.bind (Zc e) (Ev.of fun k=>Zqs (gm Qa k) k σ)).congr fun k=>?_
 simp only [Z5h]
 simp only [la,lb,ne_eq,not_true_eq_false,decide_false,Qh,if_false]
section
variable {σ:Store} {h:Hdl} {D:List (List Int)}
theorem Zwy(A:Dcs σ h D)(hb:Byts D)(hp:σ.prot<=σ.objs.length)(lD:D.length<2^30)(lb:bts D<2^30) :
  ∃ ho σ',Runs Qa 29 [.slice h] σ (.slice ho) σ'/\Kp σ.objs.length σ σ'/\GrowI σ' σ.objs.length ho (syms D):=by
 have ld:=A.len
 have tb:=Zaq D
 obtain⟨n,hn⟩:∃ n,n=σ.objs.length:=⟨_,rfl⟩
 obtain⟨r,e,ho,σ',rfl,K,G⟩:=EvI.up (f:=fun k s=>QA Qa (gm Qa k) Q4 k Tryz.f29 [1,1,0,1,0] [10,9,8,3,0] s) D.length
  (fun i st=>∃ ho s2,st=([.int .i64 i,.int .i64 h.len,.slice h,.slice ho,.slice h],s2)/\Kp n σ s2/\GrowI s2 n ho (symF D.length 0 (D.take i)))
  (fun r=>∃ ho s2,r=(Q6 0,[(3,.slice ho)],s2)/\Kp n σ s2/\GrowI s2 n ho (symF D.length 0 D))
  (by
   rintro i st hi ⟨ho,s2,rfl,K,G⟩
   obtain⟨d,hd⟩:∃ d,D[i]?=some d:=⟨_,Qb hi⟩
   have dm:d∈D:=Qq hd
   have dl:=Zkd dm
   have lm:=K.len
   have bd:=Zcs hd
   have tl:(symF D.length 0 (D.take i)).length=bts (D.take i)+(D.take i).length:=by rw [Zsl,Zaq]
   rw [Qe] at tl
   obtain⟨g0,N0,L0⟩:=A.getK hd
   have e0:=L0 s2 (hn ▸ K)
   have l0:=Zz N0
   obtain⟨r,e3,h2,s3,rfl,K3,G3⟩:=EvI.up (f:=fun k s=>QA Qa (gm Qa k) Q4 k Tryz.f29 [1,1,0,1,0,0,1,1,0,0,1,0,1,0] [17,16,15,10,9,8,4,3,0] s) d.length
    (fun j st=>∃ h2 s3,st=([.int .i64 j,.int .i64 g0.len,.slice g0,.int .i64 i,.int .i64 h.len,.slice h,.int .i64 i,.slice h2,.slice h],s3)/\Kp n s2 s3/\GrowI s3 n h2 (symF D.length 0 (D.take i)++(d.take j).map (fun b=>(D.length:Int)+b)))
    (fun r=>∃ h2 s3,r=(Q6 2,[(10,.int .i64 i),(9,.int .i64 h.len),(8,.slice h),(4,.int .i64 i),(3,.slice h2),(0,.slice h)],s3)/\Kp n s2 s3/\GrowI s3 n h2 (symF D.length 0 (D.take i)++d.map (fun b=>(D.length:Int)+b)))
    (by
     rintro j st hj ⟨h2,s3,rfl,K3,G3⟩
     obtain⟨b,hbj⟩:∃ b,d[j]?=some b:=⟨_,Qb hj⟩
     have br:=hb d dm b (Qq hbj)
     have lm3:=K3.len
     have N3:Store.Nums .u8 s3 g0 d:=Store.Sl.kp N0 (hn ▸ (K.trans K3))
     have rb:s3.ldInt .u8 (g0.idx (j:Int) 1)=some b:=by
      have:=Zcd N3 (i:=(j:Int)) (by omega) (by omega)
      rw [this]; unfold rd; rw [Qx,Qr,hbj]; rfl
     have w1:Qo .i64 b=b:=Za (by omega) (by omega)
     have w2:Qo .i64 (b+(h.len:Int))=(D.length:Int)+b:=by rw [Za (by omega) (by omega)]; omega
     obtain⟨h4,s4,a4,k4,G4⟩:=G3.app (by rw [K3.prot,K.prot,hn]; exact hp) (by omega) ((D.length:Int)+b) (by rw [Qc,Qi,Qe]; omega)
     have w3:=Zi hj (by omega)
     refine⟨_,Ev.of fun k=>?_,h4,s4,rfl,K3.trans k4,?_⟩
     ·simp only [Zcq]
      simp only [stp,show (j:Int)<(g0.len:Int) by omega,show (0:Int)<=(j:Int) by omega,rb,w1,w2,Zan,a4,w3]
     ·rw [Z1 hbj,Q0,<-QE]; exact G4)
    (by
     rintro st ⟨h2,s3,rfl,K3,G3⟩
     rw [QG] at G3
     refine⟨_,Ev.of fun k=>?_,h2,s3,rfl,K3,G3⟩
     simp only [Zcq]
     simp only [stp,show ¬ ((d.length:Int)<(g0.len:Int)) by omega])
    (s:=([.int .i64 0,.int .i64 g0.len,.slice g0,.int .i64 i,.int .i64 h.len,.slice h,.int .i64 i,.slice ho,.slice h],s2)) ⟨ho,s2,rfl,Kp.refl _ _,by simpa using G⟩
   obtain⟨n3,e3⟩:=Zc e3
   have lm3:=K3.len
   obtain⟨h4,s4,a4,k4,G4⟩:=G3.app (by rw [K3.prot,K.prot,hn]; exact hp) (by omega) (i:Int) (by rw [Qc,Qi]; omega)
   rw [<-Z10 _ hd] at G4
   have w3:=Zi hi (by omega)
   refine⟨_,⟨n3,fun k hk=>?_⟩,h4,s4,rfl,(K.trans K3).trans k4,G4⟩
   have e3:=e3 k hk
   simp only at e3
   simp only [Zkq]
   simp only [stp,show (i:Int)<(h.len:Int) by omega,show (0:Int)<=(i:Int) by omega,e0,e3]
   rw [Zfm]
   simp only [stp,Zan,a4,w3])
  (by
   rintro st ⟨ho,s2,rfl,K,G⟩
   rw [Qw (Qd _)] at G
   refine⟨_,Ev.of fun k=>?_,ho,s2,rfl,K,G⟩
   simp only [Zkq]
   simp only [stp,show ¬ ((D.length:Int)<(h.len:Int)) by omega])
  (s:=([.int .i64 0,.int .i64 h.len,.slice h,.slice QM,.slice h],σ)) ⟨Hdl.nil,σ,rfl,Kp.refl _ _,by simp [symF]; exact Grow.nil _ _ _⟩
 obtain⟨n1,e⟩:=Zc e
 refine⟨ho,σ',rI Tryz.f29 ⟨n1,fun k hk=>?_⟩,hn ▸ K,hn ▸ G⟩
 have e:=e k hk
 simp only at e
 simp only [Z5e]
 simp only [e,Qn]
 rw [Zqp]
end
end Go.Ab

namespace Go.Ab
open Go Go.Proofs Go.Ab.Wd Go.Ab.Bs Go.Ab.Sai
theorem Zug(q:List Int):∀ (D:List (List Int)) (i:Int),(occP q i D).length<=tot D
 | [],_=>Qd _
 | d::r,i=>by
  simp only [occP,tot,Qc,Qi]
  have h1:=Zug q r (i+1)
  have h2:(occ d q).length<=d.length+1:=QS (Q8 _ _) (by rw [Zm]; exact Qd _)
  omega
section
variable {σ:Store} {p:Ptr} {h h':Hdl} {D:List (List Int)} {q:List Int}
theorem Zvx(X:Idx σ p D)(N:Store.Nums .u8 σ h q)(c:q=[]\/256<q.length):Runs Qa 28 [.ptr p,.slice h] σ (.tuple [.int .i64 0,.int .i64 0]) σ:=by
 obtain⟨n1,r1⟩:=Zgd N
 rw [decide_eq_false (fun hh=>c.elim hh.1 (by omega))] at r1
 obtain⟨b,pt,pf,pm,pl,pn,rfl,_⟩:=X.ex
 refine rI Tryz.f28 ⟨n1,fun k hk=>?_⟩
 have r1:=r1 k hk
 simp only at r1
 simp only [Zxu]
 simp only [stp,Option.isNone_some,r1]
theorem Z6j{hs ha hq:Hdl}(hb:Byts D)(T:σ.Ints hs (syms D))(S:σ.Ints ha (saOf (syms D)))(P:σ.Ints hq (q.map fun b=>(D.length:Int)+b))(lt:tot D<2^40)(lq:q.length<2^60) :
  Runs Qa 30 [.slice hs,.slice ha,.slice hq] σ (.tuple [.int .i64 (ranI D q).1,.int .i64 (ranI D q).2]) σ:=by
 have ls:=Zae D
 have SA:=Zj (syms D)
 unfold ranI
 by_cases c:D=[]
 ·rw [if_pos c]
  have:=Zem T S P (by omega) (by rw [Qi]; omega) SA.perm (a:=0) (z:=0) (Qd _) (by omega) fun j hj=>by
   rw [ls,c] at hj; simp [tot] at hj
  rw [if_pos rfl] at this
  exact this
 ·rw [if_neg c]
  rcases Zj5 (Zih hb c) (Zj8 hb) (q.map fun b=>(D.length:Int)+b) with ⟨x,y,R,hxy,er⟩ | ⟨er,no⟩
  ·have:=Zem T S P (by omega) (by rw [Qi]; omega) SA.perm (Nat.le_of_lt hxy) R.lz R.iff
   rw [if_neg (by omega),if_neg (by omega)] at this
   rw [er]; exact this
  ·have:=Zem T S P (by omega) (by rw [Qi]; omega) SA.perm (a:=0) (z:=0) (Qd _) (by omega) fun j hj=>⟨fun hh=>by omega,fun hh=>absurd hh (no j hj)⟩
   rw [if_pos rfl] at this
   rw [er]; exact this
theorem law_IndexPlaces(hR:Rws .u8 σ h D)(hT:Store.Nums .u8 σ h' q)(hH:σ.Has h')(hn:q.length<2^48)(hw:∀ n∈q,IntKind.min .u8<=n/\n<=IntKind.max .u8)(hp:σ.prot<=σ.objs.length) :
  ∃ σ',Runs Qa 5 [.slice h,.slice h'] σ (.bool true) σ':=by
 obtain⟨dc,hb⟩:=Z4q hR
 have A:Args σ h h' D q:=⟨dc,hT,hb,Z41 hw⟩
 have lq:=Zz hT
 obtain⟨s1,⟨n1,r1⟩,k1⟩:=Zs0 hp
 have A1:=A.kp k1
 have p1:s1.prot<=s1.objs.length:=by have:=k1.prot; have:=k1.len; omega
 obtain⟨n2,r2⟩:Runs Qa 16 [.slice h,.int .i64 300,.int .i64 256] s1 (.bool (smallB D 300 256)) s1:=Zzj A1.dcs 300 256 (by omega) (by omega)
 cases cs:smallB D 300 256 with
 | false=>
  rw [cs] at r2
  refine⟨s1,rI Tryz.f5 ⟨n1+n2,fun k hk=>?_⟩⟩
  have r1:=r1 k (by omega)
  have r2:=r2 k (by omega)
  simp only at r1 r2
  simp only [Zpk]
  simp only [stp,r1,r2]
 | true=>
 rw [cs] at r2
 by_cases c4:(400:Int)<(h'.len:Int)
 ·refine⟨s1,rI Tryz.f5 ⟨n1+n2,fun k hk=>?_⟩⟩
  have r1:=r1 k (by omega)
  have r2:=r2 k (by omega)
  simp only at r1 r2
  simp only [Zpk]
  simp only [stp,r1,r2,c4]
 simp only [smallB,Bool.and_eq_true,decide_eq_true_eq] at cs
 rcases Zni A1.dcs p1 (fun d hd=>by have:=Zkd hd; omega) hb with ⟨_,p,s2,⟨n3,r3⟩,k2,pn,X2⟩ | ⟨bad,_⟩
 case inr=>exact absurd ⟨cs.1,by omega⟩ bad
 have X2:=X2 s2 fun _ _ _=>rfl
 have A2:=A1.kp k2
 have p2:s2.prot<=s2.objs.length:=by have:=k2.prot; have:=k2.len; omega
 have tb:=Zaq D
 have ol:=Zug q D 0
 obtain⟨hpl,s3,⟨n4,r4⟩,k3,G3⟩:=Zjc (Zzo 600 (by omega)) X2 p2 A2.nq A2.bq (by omega)
 have A3:=A2.kp k3
 have X3:=X2.kp k3
 have lm3:=k3.len
 have p3:s3.prot<=s3.objs.length:=by have:=k3.prot; omega
 by_cases cq:q=[]\/256<q.length
 ·rw [if_pos cq] at G3
  have gl:(hpl.len:Int)=0:=by have:=Z5 G3.sl; simpa using this
  have e1:errQ q=210:=if_pos cq
  rw [e1] at r4
  obtain⟨n5,r5⟩:=Zvx X3 A3.nq cq
  refine⟨s3,rI Tryz.f5 ⟨n1+n2+n3+n4+n5,fun k hk=>?_⟩⟩
  have r1:=r1 k (by omega)
  have r2:=r2 k (by omega)
  have r3:=r3 k (by omega)
  have r4:=r4 k (by omega)
  have r5:=r5 k (by omega)
  simp only at r1 r2 r3 r4 r5
  simp only [Zpk]
  by_cases c0:(h'.len:Int)=0
  ·simp only [stp,r1,r2,c0,show ¬ (400:Int)<0 by omega,r3,r4,r5,gl]
  ·have c1:(256:Int)<(h'.len:Int):=by
    rcases cq with rfl | cq
    ·simp at lq; omega
    ·omega
   simp only [stp,r1,r2,c0,c4,c1,r3,r4,r5,gl]
 ·have q1:q≠[]:=fun h=>cq (.inl h)
  have q2:q.length<=256:=by have:¬ 256<q.length:=fun h=>cq (.inr h); omega
  have ql:0<q.length:=QC.2 q1
  rw [if_neg cq] at G3
  have e1:errQ q=0:=if_neg cq
  rw [e1] at r4
  obtain⟨s4,⟨n5,r5⟩,k4⟩:=Zk7 X3 p3 A3.nq q1 q2 A3.bq
  have A4:=A3.kp k4
  have lm4:=k4.len
  have p4:s4.prot<=s4.objs.length:=by have:=k4.prot; omega
  obtain⟨hs,s5,⟨n6,r6⟩,k5,G5⟩:=Zwy A4.dcs hb p4 (by omega) (by omega)
  have A5:=A4.kp k5
  have lm5:=k5.len
  have p5:s5.prot<=s5.objs.length:=by have:=k5.prot; omega
  have ld:=A5.dcs.len
  have lq5:=Zz A5.nq
  obtain⟨m,hm⟩:∃ m,m=s5.objs.length:=⟨_,rfl⟩
  obtain⟨r,e,hq,s6,rfl,k6,G6⟩:=EvI.up (f:=fun k s=>QA Qa (gm Qa k) Q4 k Tryz.f5 [1,1,1,1,1,1,1,1,1,0,1,0] [71,70,69,12,11,10,9,8,7,1,0] s) q.length
   (fun j st=>∃ h2 s3,st=([.int .i64 j,.int .i64 h'.len,.slice h',.slice h2,.slice hs,.int .i64 (ranI D q).2,.int .i64 (ranI D q).1,.int .i64 0,.slice hpl,.slice h',.slice h],s3)/\Kp m s5 s3/\GrowI s3 m h2 ((q.take j).map (fun b=>(D.length:Int)+b)))
   (fun r=>∃ h2 s3,r=(Q6 0,[(12,.slice h2),(11,.slice hs),(10,.int .i64 (ranI D q).2),(9,.int .i64 (ranI D q).1),(8,.int .i64 0),(7,.slice hpl),(1,.slice h'),(0,.slice h)],s3)/\Kp m s5 s3/\GrowI s3 m h2 (q.map (fun b=>(D.length:Int)+b)))
   (by
    rintro j st hj ⟨h2,s3,rfl,K3,G3⟩
    obtain⟨b,hbj⟩:∃ b,q[j]?=some b:=⟨_,Qb hj⟩
    have br:=A.bq b (Qq hbj)
    have lm3:=K3.len
    have N3:Store.Nums .u8 s3 h' q:=Store.Sl.kp A5.nq (hm ▸ K3)
    have rb:s3.ldInt .u8 (h'.idx (j:Int) 1)=some b:=by
     have:=Zcd N3 (i:=(j:Int)) (by omega) (by omega)
     rw [this]; unfold rd; rw [Qx,Qr,hbj]; rfl
    have w1:Qo .i64 b=b:=Za (by omega) (by omega)
    have w2:Qo .i64 (b+(h.len:Int))=(D.length:Int)+b:=by rw [Za (by omega) (by omega)]; omega
    obtain⟨h4,s4,a4,k4,G4⟩:=G3.app (by rw [K3.prot,hm]; exact p5) (by omega) ((D.length:Int)+b) (by rw [Qi,Qe]; omega)
    have w3:=Zi hj (by omega)
    refine⟨_,Ev.of fun k=>?_,h4,s4,rfl,K3.trans k4,?_⟩
    ·simp only [Zd8]
     simp only [stp,show (j:Int)<(h'.len:Int) by omega,show (0:Int)<=(j:Int) by omega,rb,w1,w2,Zan,a4,w3]
    ·rw [Z1 hbj,Q0]; exact G4)
   (by
    rintro st ⟨h2,s3,rfl,K3,G3⟩
    rw [QG] at G3
    refine⟨_,Ev.of fun k=>?_,h2,s3,rfl,K3,G3⟩
    simp only [Zd8]
    simp only [stp,show ¬ ((q.length:Int)<(h'.len:Int)) by omega])
   (s:=([.int .i64 0,.int .i64 h'.len,.slice h',.slice QM,.slice hs,.int .i64 (ranI D q).2,.int .i64 (ranI D q).1,.int .i64 0,.slice hpl,.slice h',.slice h],s5)) ⟨Hdl.nil,s5,rfl,Kp.refl _ _,by simp; exact Grow.nil _ _ _⟩
  obtain⟨n7,e⟩:=Zc e
  have lm6:=k6.len
  have A6:=A5.kp (hm ▸ k6)
  have p6:s6.prot<=s6.objs.length:=by have:=k6.prot; omega
  have T6:s6.Ints hs (syms D):=Store.Sl.kp G5.ints (hm ▸ k6)
  have ls:=Zae D
  obtain⟨ha,s7,⟨n8,r8⟩,k7,G7⟩:=Zwn T6 (by omega) p6
  have lm7:=k7.len
  have A7:=A6.kp k7
  have p7:s7.prot<=s7.objs.length:=by have:=k7.prot; omega
  obtain⟨n9,r9⟩:=Z6j hb (Store.Sl.kp T6 k7) G7.ints (Store.Sl.kp G6.ints k7) (by omega) (by omega)
  obtain⟨hr,s8,⟨n10,r10⟩,k8,G8⟩:=Zvw A7 p7 q1 (by omega) (by omega) (by omega) (by omega)
  have PL:s8.Sl hpl 2 (pairsL (occP q 0 D)):=Store.Sl.kp (Store.Sl.kp (Store.Sl.kp (Store.Sl.kp (Store.Sl.kp G3.sl k4) k5) (hm ▸ k6)) k7) k8
  have lpl:=Z5 PL
  obtain⟨n11,r11⟩:=Zws PL G8.sl (by omega)
  obtain⟨a,z,O⟩:=Zft hb q1 fun b hb=>(A.bq b hb).1
  have wl:Qo .i64 ((ranI D q).2-(ranI D q).1)=(hpl.len:Int):=by
   have:=O.len; have:=O.le; have:=O.lt
   rw [O.eq]
   simp only
   rw [Za (by omega) (by omega)]; omega
  refine⟨s8,rI Tryz.f5 ⟨n1+n2+n3+n4+n5+n6+n7+n8+n9+n10+n11,fun k hk=>?_⟩⟩
  have r1:=r1 k (by omega)
  have r2:=r2 k (by omega)
  have r3:=r3 k (by omega)
  have r4:=r4 k (by omega)
  have r5:=r5 k (by omega)
  have r6:=r6 k (by omega)
  have e:=e k (by omega)
  have r8:=r8 k (by omega)
  have r9:=r9 k (by omega)
  have r10:=r10 k (by omega)
  have r11:=r11 k (by omega)
  simp only at r1 r2 r3 r4 r5 r6 e r8 r9 r10 r11
  simp only [Zpk]
  simp only [stp,r1,r2,c4,show ¬ (h'.len:Int)=0 by omega,show ¬ (256:Int)<(h'.len:Int) by omega,r3,r4,r5,r6,e]
  rw [Zhk]
  simp only [stp,r8,r9,r10,r11,wl]
end
end Go.Ab

namespace Go.Ab
open Go Go.Proofs Go.Sort
theorem Zwv{P:Program}{s:Nat}{fn:Func}(hf:P.funcs[s]?=some fn)(hn:(fn.name == "runtime.NumGoroutine")=false)(hb:fn.body.isNone=false)
  (h1:∀ (blk off cap:Nat) (zs:List Int) (w:World),Holds (QB .i64) w blk off zs.toArray->blk<w.heap.size->zs.length<4611686018427387904 ->
   Calls P s #[.slice (some ⟨blk,off,none⟩) zs.length cap] w fun e w'=>e=.returned (.tuple #[])/\∃ n os,w'=grow (putRow (QB .i64) (Sort.ahead w n) blk off (zs.mergeSort fun x y=>decide (x<=y)).toArray) os)
  (h0:∀ (p:Option Addr) (cap:Nat) (w:World),Calls P s #[.slice p 0 cap] w fun e w'=>e=.returned (.tuple #[])/\w'=w):SpS P (sortSp s)/\SpK (sortSp s):=by
 constructor
 ·intro g f e args σ v σ' h
  obtain⟨rfl,rfl⟩:=Zl0 e
  refine⟨fun cargs w=>Zbp hf hn hb cargs w,fun μ w cargs hR hv=>?_⟩
  obtain⟨hd,rfl,rfl,hc⟩:=Zol h
  obtain⟨c,hc1⟩:∃ c,cargs=#[c]:=by
   have:=hv.1
   simp at this
   obtain⟨l⟩:=cargs
   match l,this with
   | [c],_=>exact⟨c,rfl⟩
  subst hc1
  have hv1:VR μ (.slice hd) c:=hv.2 0 _ _ rfl rfl
  rcases hc with ⟨e0,rfl⟩ | ⟨b,o,cs,zs,ha,ho,hz,hp,hl,h62,hpos,rfl⟩
  ·have:∃ p cap,c=.slice p 0 cap:=by
    cases hv1 with
    | slN h=>exact⟨_,_,rfl⟩
    | sl h hc hl hN=>simp at e0; subst e0; exact⟨_,_,rfl⟩
    | sl0 h=>exact⟨_,_,rfl⟩
   obtain⟨p,cap,rfl⟩:=this
   refine (h0 p cap w).mono ?_
   rintro e w' ⟨rfl,rfl⟩
   exact⟨μ,_,rfl,.tuple (by simp) (by simp),Ste.refl hR⟩
  ·have:∃ L cap,μ b=some L/\c=.slice (some ⟨L.blk,L.off+o,none⟩) hd.len cap:=by
    cases hv1 with
    | slN h=>cases ha
    | sl hm hc hl hN=>simp at ha; obtain⟨rfl,rfl⟩:=ha; exact⟨_,_,hm,rfl⟩
    | sl0 h=>simp at hpos
   obtain⟨L,cap,hL,rfl⟩:=this
   have hzl:zs.length=hd.len:=by
    have:=congrArg QT hz
    simp at this; omega
   obtain⟨ce,ty,fz,hblk,hsz,htw⟩:=hR.rw b cs 1 L ho hL
   obtain⟨_,hlN,hj⟩:=hR.cells b cs true 1 L ho hL
   have cellz:∀ j,j<zs.length->w.cell? ⟨L.blk,L.off+o+j,none⟩=some (.int .i64 (zs.getD j 0)):=fun j hj'=>by
    have e1:cs[o+j]?=some (.int .i64 (zs.getD j 0)):=by
     have:=congrArg (fun l:List AV=>l[j]?) hz
     simp only [Qu,Qv,intsL,Q7] at this
     rw [if_pos (by omega)] at this
     rw [this,Qb hj']; simp [hj']
    obtain⟨x,hx,hvx⟩:=hj _ _ e1
    cases hvx
    rw [QP]; exact hx
   have hH:Holds (QB .i64) w L.blk (L.off+o) zs.toArray:=fun j hj'=>by
    have hj':j<zs.length:=by simpa using hj'
    refine⟨?_,Zc9 hblk htw (by omega)⟩
    rw [cellz j hj']; simp [hj']
   have hbl:L.blk<w.heap.size:=hR.lt b L hL
   have:=h1 L.blk (L.off+o) cap zs w hH hbl (by omega)
   rw [hzl] at this
   refine this.mono ?_
   rintro e w' ⟨rfl,n,os,rfl⟩
   rw [Zlg]
   obtain⟨d,hd'⟩:∃ d,d=sortL zs:=⟨_,rfl⟩
   rw [<-hd']
   have hdl:d.length=hd.len:=by rw [hd',Zaz,hzl]
   obtain⟨w1,hw1⟩:∃ w1,w1=putRow (QB .i64) (Sort.ahead w n) L.blk (L.off+o) d.toArray:=⟨_,rfl⟩
   rw [<-hw1]
   have s1:w1.heap.size=w.heap.size:=by rw [hw1]; simp [putRow,mapBlock,Sort.ahead]
   have far:∀ c,c≠L.blk->w1.heap[c]?=w.heap[c]?:=fun c hc=>by
    rw [hw1]; simp [putRow,mapBlock,Sort.ahead,Qp,Ne.symm hc]
   have near:w1.heap[L.blk]?=some (.cells (putCells (QB .i64) (L.off+o) d.toArray ce) ty fz):=by
    rw [hw1]; simp [putRow,mapBlock,Sort.ahead,Qp,hblk,onCells]
   have hW:Ste μ σ w μ (σ.setO b (.cells (cs.take o++(intsL d++cs.drop (o+hd.len))) true 1)) w1:=by
    refine Ste.write hR ho hp hL s1 (by rw [hw1]; rfl) (by rw [hw1]; rfl) (by rw [hw1]; rfl) far ⟨_,_,_,near,by simp [putCells,hsz],by simpa [putCells] using htw⟩ ?_ ?_ (by rw [hw1]; exact QH _ _)
    ·simp only [Qc,Qe,intsL_length,Qs]; omega
    ·intro j v hjv
     have tk:(cs.take o).length=o:=by simp; omega
     by_cases c1:j<o
     ·rw [Qf (by omega),Qu,if_pos c1] at hjv
      obtain⟨x,hx,hvx⟩:=hj j v hjv
      refine⟨x,?_,hvx⟩
      simp only [World.cell?,hblk] at hx
      simp only [World.cell?,near]
      simp only [Qj,Qh,if_false] at hx ⊢
      rw [<-hx]
      simp only [putCells,Qg]
      cases hce:ce[L.off+j]? with
      | none=>rfl
      | some y=>simp; omega
     ·rw [Qk (by omega),tk] at hjv
      by_cases c2:j-o<hd.len
      ·rw [Qf (by simp; omega)] at hjv
       simp only [intsL,Q7,Option.map_eq_some_iff] at hjv
       obtain⟨z,hz1,rfl⟩:=hjv
       refine⟨.int .i64 z,?_,.int ..⟩
       simp only [World.cell?,near]
       simp only [Qj,Qh,if_false]
       simp only [putCells,Qg]
       have hlt:L.off+j<ce.size:=by omega
       rw [Q5 hlt]
       simp only [QL,QU.injEq]
       rw [if_pos ⟨by omega,by simp; omega⟩]
       congr 1
       have e5:L.off+j-(L.off+o)=j-o:=by omega
       rw [e5]
       obtain⟨hq,hq2⟩:=Ql.1 hz1
       rw [getElem!_pos _ (j-o) (by simpa using hq)]
       simpa using hq2
      ·rw [Qk (by simp; omega),Qv] at hjv
       have e5:o+hd.len+(j-o-(intsL d).length)=j:=by simp; omega
       rw [e5] at hjv
       obtain⟨x,hx,hvx⟩:=hj j v hjv
       refine⟨x,?_,hvx⟩
       simp only [World.cell?,hblk] at hx
       simp only [World.cell?,near]
       simp only [Qj,Qh,if_false] at hx ⊢
       rw [<-hx]
       simp only [putCells,Qg]
       cases hce:ce[L.off+j]? with
       | none=>rfl
       | some y=>simp; omega
   have hG:=Ste.same (w':=grow w1 os) hW.rel rfl rfl rfl (by simp [grow]) (fun c hc=>by simp only [grow]; rw [Q3 hc])
   exact⟨μ,_,rfl,.tuple (by simp) (by simp),hW.trans hG⟩
 ·intro g f e args σ v σ' h
  obtain⟨rfl,rfl⟩:=Zl0 e
  obtain⟨hd,rfl,rfl,hc⟩:=Zol h
  rcases hc with ⟨e0,rfl⟩ | ⟨b,o,cs,zs,ha,ho,hz,hp,hl,h62,hpos,rfl⟩
  ·exact Pre.refl _
  ·exact Pre.set σ hp _
def FirstOkX(P:Program)(sp:FuncId->Option (List AV->Store->Option (AV×Store)))(g:FuncId):Prop:=∃ fn k,P.funcs[g]?=some fn/\(fn.name == "runtime.NumGoroutine")=false/\fn.body.isNone=false/\okTrue (gam P Q4 sp k (.fn g) [] ⟨[],0⟩)=true
theorem Zti{P:Program}(hm:P.follows .mixedOrders=true){sp:FuncId->Option (List AV->Store->Option (AV×Store))}(h0:SpS P sp/\SpK sp){fs:List Nat}(h:∀ g∈fs,FirstOkX P sp g):SpS P (orTell sp fs)/\SpK (orTell sp fs):=by
 have shape:∀ g f,tell fs g=some f->g∈fs/\∀ args σ v σ',f args σ=some (v,σ')->args=[]/\v=.bool true/\σ'=σ:=by
  intro g f e
  unfold tell at e
  split at e
  ·rename_i ha
   injection e with e; subst e
   obtain⟨x,hx,hb⟩:=List.any_eq_true.1 ha
   have:x=g:=Nat.eq_of_beq_eq_true hb
   subst this
   refine⟨hx,fun args σ v σ' h=>?_⟩
   cases args with
   | nil=>simp at h; exact⟨rfl,h.1.symm,h.2.symm⟩
   | cons=>simp at h
  ·cases e
 have parts:∀ g f,orTell sp fs g=some f->sp g=some f\/tell fs g=some f:=fun g f e=>by
  unfold orTell at e
  split at e
  ·rename_i f' e'
   injection e with e; subst e; exact .inl e'
  ·exact .inr e
 constructor
 ·intro g f e args σ v σ' hf
  rcases parts g f e with e | e
  ·exact h0.1 g f e args σ v σ' hf
  obtain⟨hg,hs⟩:=shape g f e
  obtain⟨rfl,rfl,rfl⟩:=hs args σ v σ' hf
  obtain⟨fn,k,k1,k2,k3,k4⟩:=h g hg
  refine⟨fun cargs w=>Zbp k1 k2 k3 cargs w,fun μ w cargs hR hv=>?_⟩
  have hc:cargs.toList=[]:=hv.inv_nil
  obtain⟨σ1,hr⟩:∃ σ1,gam P Q4 sp k (.fn g) [] ⟨[],0⟩=some (.bool true,σ1):=by
   cases hx:gam P Q4 sp k (.fn g) [] ⟨[],0⟩ with
   | none=>rw [hx] at k4; cases k4
   | some r=>
    obtain⟨v,s⟩:=r
    rw [hx] at k4
    cases v with
    | bool b=>cases b with
     | true=>exact⟨s,rfl⟩
     | false=>cases k4
    | _=>cases k4
  have hs:=Zgp (P:=P) hm h0.1 h0.2 k _ _ _ _ _ hr (fun _=>none) w cargs (Rel.empty w) (by rw [hc]; exact VL.nil _)
  refine hs.2.mono fun e w' ⟨μ',c,e1,e2,e3⟩=>?_
  subst e1
  cases e2
  refine⟨μ,_,rfl,.bool _,Ste.same hR e3.os e3.tape e3.output e3.size (fun c hc=>e3.pres c hc ?_) e3.drawn⟩
  rintro⟨b,o,L,h1,_⟩
  simp at h1
 ·intro g f e args σ v σ' hf
  rcases parts g f e with e | e
  ·exact h0.2 g f e args σ v σ' hf
  obtain⟨_,hs⟩:=shape g f e
  obtain⟨_,_,rfl⟩:=hs args σ v σ' hf
  exact Pre.refl _
end Go.Ab

namespace Go.Ab
open Go Go.Proofs Go.Sort
def encP(x:Int×Int):List Value:=[.int .i64 x.1,.int .i64 x.2]
def valP(zs:List (Int×Int))(t:Nat):Int:=if t % 2=0 then (zs.getD (t / 2) (0,0)).1 else (zs.getD (t / 2) (0,0)).2
theorem Zzy(x:Int×Int)(zs:List (Int×Int))(t:Nat):valP (x::zs) (t+2)=valP zs t:=by
 unfold valP
 rw [show (t+2) % 2=t % 2 by omega,show (t+2) / 2=t / 2+1 by omega,List.getD_cons_succ]
theorem Zgk:∀ (zs:List (Int×Int)) (t:Nat),t<2*zs.length->(pairsA zs)[t]?=some (.int .i64 (valP zs t))
 | [],t,h=>by simp at h
 | x::zs,0,h=>rfl
 | x::zs,1,h=>rfl
 | x::zs,t+2,h=>by
  rw [Zzy]
  exact Zgk zs t (by simp at h; omega)
theorem Znt(zs:List (Int×Int))(t:Nat)(h:t<2*zs.length):(flatK encP 2 zs.toArray)[t]! = .int .i64 (valP zs t):=by
 rw [get_flatK _ _ _ _ (by simp; omega)]
 have e:(zs.toArray)[t / 2]! = zs.getD (t / 2) (0,0):=by
  rw [getElem!_pos _ _ (by simp; omega)]
  simp [Qr,Qb (show t / 2<zs.length by omega)]
 rw [e]
 unfold encP valP
 rcases Nat.mod_two_eq_zero_or_one t with m | m <;> rw [m] <;> rfl
theorem Zk1(zs:List (Int×Int)):(flatK encP 2 zs.toArray).size=2*zs.length:=by rw [size_flatK]; simp; omega
theorem Ztc{P:Program}{s cl:Nat}{fn:Func}(hf:P.funcs[s]?=some fn)(hn:(fn.name == "runtime.NumGoroutine")=false)(hb:fn.body.isNone=false)
  (h1:∀ (blk off cap:Nat) (zs:List (Int×Int)) (w:World),HoldsK encP 2 w blk off zs.toArray->blk<w.heap.size->zs.length<4611686018427387904 ->
   Calls P s #[.slice (some ⟨blk,off,none⟩) zs.length cap,.func (.func cl) #[] #[]] w fun e w'=>e=.returned (.tuple #[])/\∃ n os,w'=sortWorldK encP 2 w blk off n (zs.mergeSort fun x y=>!plx y x).toArray os)
  (h0:∀ (p:Option Addr) (cap:Nat) (fv:Value) (w:World),Calls P s #[.slice p 0 cap,fv] w fun e w'=>e=.returned (.tuple #[])/\w'=w):SpS P (sortFSp s cl)/\SpK (sortFSp s cl):=by
 constructor
 ·intro g f e args σ v σ' h
  obtain⟨rfl,rfl⟩:=Zjm e
  refine⟨fun cargs w=>Zbp hf hn hb cargs w,fun μ w cargs hR hv=>?_⟩
  obtain⟨hd,rfl,rfl,hc⟩:=Zly h
  obtain⟨c,c',hc1⟩:∃ c c',cargs=#[c,c']:=by
   have:=hv.1
   simp at this
   obtain⟨l⟩:=cargs
   match l,this with
   | [c,c'],_=>exact⟨c,c',rfl⟩
  subst hc1
  have hv1:VR μ (.slice hd) c:=hv.2 0 _ _ rfl rfl
  have hv2:VR μ (.func cl [] []) c':=hv.2 1 _ _ rfl rfl
  obtain rfl:c'=.func (.func cl) #[] #[]:=by
   cases hv2 with
   | @func _ _ _ a' b' ha hb _ _=>
    obtain rfl:a'=#[]:=Qy ha.symm
    obtain rfl:b'=#[]:=Qy hb.symm
    rfl
  rcases hc with ⟨e0,rfl⟩ | ⟨b,o,cs,zs,ha,ho,hz,hp,hl,h62,hpos,rfl⟩
  ·have:∃ p cap,c=.slice p 0 cap:=by
    cases hv1 with
    | slN h=>exact⟨_,_,rfl⟩
    | sl h hc hl hN=>simp at e0; subst e0; exact⟨_,_,rfl⟩
    | sl0 h=>exact⟨_,_,rfl⟩
   obtain⟨p,cap,rfl⟩:=this
   refine (h0 p cap _ w).mono ?_
   rintro e w' ⟨rfl,rfl⟩
   exact⟨μ,_,rfl,.tuple (by simp) (by simp),Ste.refl hR⟩
  ·have:∃ L cap,μ b=some L/\c=.slice (some ⟨L.blk,L.off+o,none⟩) hd.len cap:=by
    cases hv1 with
    | slN h=>cases ha
    | sl hm hc hl hN=>simp at ha; obtain⟨rfl,rfl⟩:=ha; exact⟨_,_,hm,rfl⟩
    | sl0 h=>simp at hpos
   obtain⟨L,cap,hL,rfl⟩:=this
   have hzl:zs.length=hd.len:=by
    have:=congrArg QT hz
    rw [Zg0] at this
    simp at this; omega
   obtain⟨ce,ty,fz,hblk,hsz,htw⟩:=hR.rw b cs 2 L ho hL
   obtain⟨_,hlN,hj⟩:=hR.cells b cs true 2 L ho hL
   have cellz:∀ j,j<2*zs.length->w.cell? ⟨L.blk,L.off+o+j,none⟩=some (.int .i64 (valP zs j)):=fun j hj'=>by
    have e1:cs[o+j]?=some (.int .i64 (valP zs j)):=by
     have:=congrArg (fun l:List AV=>l[j]?) hz
     simp only [Qu,Qv] at this
     rw [if_pos (by omega),Zgk _ _ hj'] at this
     exact this
    obtain⟨x,hx,hvx⟩:=hj _ _ e1
    cases hvx
    rw [QP]; exact hx
   have hH:HoldsK encP 2 w L.blk (L.off+o) zs.toArray:=fun j hj'=>by
    rw [Zk1] at hj'
    refine⟨?_,Zc9 hblk htw (by omega)⟩
    rw [cellz j hj',Znt _ _ hj']; rfl
   have hbl:L.blk<w.heap.size:=hR.lt b L hL
   have:=h1 L.blk (L.off+o) cap zs w hH hbl (by omega)
   rw [hzl] at this
   refine this.mono ?_
   rintro e w' ⟨rfl,n,os,rfl⟩
   obtain⟨d,hd'⟩:∃ d,d=sortP zs:=⟨_,rfl⟩
   rw [show (zs.mergeSort fun x y=>!plx y x)=d from hd'.symm,<-hd']
   have hdl:d.length=hd.len:=by rw [hd',Zer,hzl]
   obtain⟨F,hF⟩:∃ F,F=flatK encP 2 d.toArray:=⟨_,rfl⟩
   have hFs:F.size=2*hd.len:=by rw [hF,Zk1,hdl]
   obtain⟨w1,hw1⟩:∃ w1,w1=putRow id (Sort.ahead w n) L.blk (L.off+o) F:=⟨_,rfl⟩
   have e0:sortWorldK encP 2 w L.blk (L.off+o) n d.toArray os=grow w1 os:=by rw [hw1,hF]; rfl
   rw [e0]
   have s1:w1.heap.size=w.heap.size:=by rw [hw1]; simp [putRow,mapBlock,Sort.ahead]
   have far:∀ c,c≠L.blk->w1.heap[c]?=w.heap[c]?:=fun c hc=>by
    rw [hw1]; simp [putRow,mapBlock,Sort.ahead,Qp,Ne.symm hc]
   have near:w1.heap[L.blk]?=some (.cells (putCells id (L.off+o) F ce) ty fz):=by
    rw [hw1]; simp [putRow,mapBlock,Sort.ahead,Qp,hblk,onCells]
   have pdl:(pairsA d).length=2*hd.len:=by rw [Zg0,hdl]
   have hW:Ste μ σ w μ (σ.setO b (.cells (cs.take o++(pairsA d++cs.drop (o+2*hd.len))) true 2)) w1:=by
    refine Ste.write hR ho hp hL s1 (by rw [hw1]; rfl) (by rw [hw1]; rfl) (by rw [hw1]; rfl) far ⟨_,_,_,near,by simp [putCells,hsz],by simpa [putCells] using htw⟩ ?_ ?_ (by rw [hw1]; exact QH _ _)
    ·simp only [Qc,Qe,pdl,Qs]; omega
    ·intro j v hjv
     have tk:(cs.take o).length=o:=by simp; omega
     by_cases c1:j<o
     ·rw [Qf (by omega),Qu,if_pos c1] at hjv
      obtain⟨x,hx,hvx⟩:=hj j v hjv
      refine⟨x,?_,hvx⟩
      simp only [World.cell?,hblk] at hx
      simp only [World.cell?,near]
      simp only [Qj,Qh,if_false] at hx ⊢
      rw [<-hx]
      simp only [putCells,Qg]
      cases hce:ce[L.off+j]? with
      | none=>rfl
      | some y=>simp; omega
     ·rw [Qk (by omega),tk] at hjv
      by_cases c2:j-o<2*hd.len
      ·rw [Qf (by omega),Zgk _ _ (by omega)] at hjv
       injection hjv with hjv
       subst hjv
       refine⟨.int .i64 (valP d (j-o)),?_,.int ..⟩
       simp only [World.cell?,near]
       simp only [Qj,Qh,if_false]
       simp only [putCells,Qg]
       have hlt:L.off+j<ce.size:=by omega
       rw [Q5 hlt]
       simp only [QL,QU.injEq]
       rw [if_pos ⟨by omega,by omega⟩]
       have e5:L.off+j-(L.off+o)=j-o:=by omega
       rw [e5,hF,Znt _ _ (by omega)]
       rfl
      ·rw [Qk (by omega),Qv] at hjv
       have e5:o+2*hd.len+(j-o-(pairsA d).length)=j:=by omega
       rw [e5] at hjv
       obtain⟨x,hx,hvx⟩:=hj j v hjv
       refine⟨x,?_,hvx⟩
       simp only [World.cell?,hblk] at hx
       simp only [World.cell?,near]
       simp only [Qj,Qh,if_false] at hx ⊢
       rw [<-hx]
       simp only [putCells,Qg]
       cases hce:ce[L.off+j]? with
       | none=>rfl
       | some y=>simp; omega
   have hG:=Ste.same (w':=grow w1 os) hW.rel rfl rfl rfl (by simp [grow]) (fun c hc=>by simp only [grow]; rw [Q3 hc])
   exact⟨μ,_,rfl,.tuple (by simp) (by simp),hW.trans hG⟩
 ·intro g f e args σ v σ' h
  obtain⟨rfl,rfl⟩:=Zjm e
  obtain⟨hd,rfl,rfl,hc⟩:=Zly h
  rcases hc with ⟨e0,rfl⟩ | ⟨b,o,cs,zs,ha,ho,hz,hp,hl,h62,hpos,rfl⟩
  ·exact Pre.refl _
  ·exact Pre.set σ hp _
theorem Zwb{P:Program}{s t:FuncId->Option (List AV->Store->Option (AV×Store))}(hs:SpS P s/\SpK s)(ht:SpS P t/\SpK t):SpS P (orSp s t)/\SpK (orSp s t):=by
 constructor
 ·intro g f e args σ v σ' h
  rcases Zrw e with e | e
  ·exact hs.1 g f e args σ v σ' h
  ·exact ht.1 g f e args σ v σ' h
 ·intro g f e args σ v σ' h
  rcases Zrw e with e | e
  ·exact hs.2 g f e args σ v σ' h
  ·exact ht.2 g f e args σ v σ' h
theorem Z4i:SWO plx where
 irrefl x:=by rw [Zb2]; omega
 trans x y z h1 h2:=by rw [Zum] at *; omega
 ntrans x y z h1 h2:=by rw [Zb2] at *; omega
theorem Zy4(x y:Int×Int)(h1:plx x y=false)(h2:plx y x=false):x=y:=by
 rw [Zb2] at *
 exact Prod.ext (by omega) (by omega)
theorem Zu0{μ:Mu}(x:Int×Int):VR μ (.agg [.int .i64 x.1,.int .i64 x.2]) (.agg (encP x).toArray):=
 .agg rfl fun i u v hu hv=>by
  match i,hu,hv with
  | 0,hu,hv=>injection hu with hu; injection hv with hv; subst hu hv; exact .int ..
  | 1,hu,hv=>injection hu with hu; injection hv with hv; subst hu hv; exact .int ..
  | i+2,hu,hv=>simp at hu
theorem Zz8{P:Program}(hm:P.follows .mixedOrders=true){sp:FuncId->Option (List AV->Store->Option (AV×Store))}(h0:SpS P sp/\SpK sp){cl:Nat}{cf:Int×Int->Int×Int->Int}
  (hrun:∀ x y:Int×Int,∃ k σ',gam P Q4 sp k (.fn cl) [.agg [.int .i64 x.1,.int .i64 x.2],.agg [.int .i64 y.1,.int .i64 y.2]] ⟨[],0⟩=some (.int .i64 (cf x y),σ')) (blk off size:Nat) (w:World):CmpLays P cl #[] encP 2 cf blk off size w:=by
 intro m os dk hdk x y
 obtain⟨k,σ',hr⟩:=hrun x y
 generalize sortWorldK encP 2 w blk off m dk os=W
 have hs:=Zgp (P:=P) hm h0.1 h0.2 k _ _ _ _ _ hr (fun _=>none) W #[.agg (encP x).toArray,.agg (encP y).toArray] (Rel.empty W) (VL.cons (Zu0 x) (VL.cons (Zu0 y) (VL.nil _)))
 rw [Array.append_empty]
 refine hs.2.mono fun e w' ⟨μ',c,e1,e2,e3⟩=>?_
 subst e1
 cases e2
 have bel:Go.RowKit.Below W.heap.size W w':=⟨e3.os,e3.tape,e3.output,e3.size,fun k hk=>e3.pres k hk (by rintro⟨b,o,L,h1,_⟩; simp at h1)⟩
 refine⟨rfl,w'.drawn-W.drawn,?_⟩
 obtain⟨p,hp⟩:=regrown_of_below bel
 refine⟨p.os,?_⟩
 have hd:w'.drawn=p.d:=by rw [hp]; rfl
 have e4:W.drewN (w'.drawn-W.drawn)=redrawn W p.d:=by
  have:=e3.drawn
  unfold World.drewN redrawn
  congr 1; omega
 rw [e4]; exact hp
end Go.Ab

namespace Go.Ab
open Go Go.Proofs Go.Ab.Wd Go.Ab.Bs Go.Ab.Sai
section
variable [T:Told Qa] (hT:∀ g,Told.sp Qa g=none)
include hT
theorem Zyc(σ:Store)(x:Int):Runs Qa 145 [.int .i64 x] σ (.bool false) σ:=by
 refine Runs.intro (fn:=Tryz.f145) (by kernel_rfl) (by kernel_rfl) (Ev.of fun k=>?_) (hT _)
 simp only [Zty]
 simp
theorem Z14(σ:Store)(x y:Int):Runs Qa 81 [.int .i64 x,.int .i64 y] σ (.int .i64 (cmpI x y)) σ:=by
 obtain⟨n1,r1⟩:=Zyc hT σ x
 obtain⟨n2,r2⟩:=Zyc hT σ y
 refine Runs.intro (fn:=Tryz.f81) (by kernel_rfl) (by kernel_rfl) ⟨n1+n2,fun k hk=>?_⟩ (hT _)
 have r1:=r1 k (by omega)
 have r2:=r2 k (by omega)
 simp only at r1 r2
 simp only [Zxz]
 simp only [stp,r1,r2]
 unfold cmpI
 split
 ·rfl
 ·split <;> rfl
theorem or0{σ:Store}{h:Hdl}{x y:Int}(s:σ.Ints h [x,y]):Runs Qa 80 [.slice h] σ (.int .i64 (if x≠0 then x else y)) σ:=by
 have hl:=s.ilen
 simp only [QF,QI,Nat.zero_add] at hl
 have g0:σ.ldInt .i64 (h.idx 0 1)=some x:=s.rd (i:=0) (by omega) (by simp)
 have g1:σ.ldInt .i64 (h.idx 1 1)=some y:=s.rd (i:=1) (by omega) (by simp)
 have w1:Qo .i64 1=1:=by rfl
 have w2:Qo .i64 2=2:=by rfl
 by_cases c:x=0
 ·rw [if_neg (by simpa using c)]
  have s0:Ev (fun k=>QA Qa (gm Qa k) Q4 k Tryz.f80 [1,1,0,1,0] [8,7,6,3] ([.int .i64 0,.int .i64 2,.slice h,.int .i64 0],σ)) (.inl ([.int .i64 1,.int .i64 2,.slice h,.int .i64 0],σ)):=Ev.of fun k=>by
   simp only [Zad]
   simp [hl,g0,c,w1]
  by_cases d:y=0
  ·have e:EvI (fun k s=>QA Qa (gm Qa k) Q4 k Tryz.f80 [1,1,0,1,0] [8,7,6,3] s) ([.int .i64 0,.int .i64 2,.slice h,.int .i64 0],σ) (Q6 0,[(3,.int .i64 0)],σ):=by
    refine EvI.step s0 (EvI.step (s':=([.int .i64 2,.int .i64 2,.slice h,.int .i64 0],σ)) (Ev.of fun k=>?_) (EvI.done (Ev.of fun k=>?_)))
    ·simp only [Zad]
     simp [hl,g1,d,w2]
    ·simp only [Zad]
     simp
   obtain⟨n,e⟩:=Zc e
   refine Runs.intro (fn:=Tryz.f80) (by kernel_rfl) (by kernel_rfl) ⟨n,fun k hk=>?_⟩ (hT _)
   have e:=e k hk
   simp only at e
   simp only [Zfq,hl]
   rw [show ((2:Nat):Int)=2 from rfl,e,Qn,Zhq,d]
  ·have e:EvI (fun k s=>QA Qa (gm Qa k) Q4 k Tryz.f80 [1,1,0,1,0] [8,7,6,3] s) ([.int .i64 0,.int .i64 2,.slice h,.int .i64 0],σ) (AX.ret,[(2,.int .i64 y)],σ):=by
    refine EvI.step s0 (EvI.done (Ev.of fun k=>?_))
    simp only [Zad]
    simp [hl,g1,d]
   obtain⟨n,e⟩:=Zc e
   refine Runs.intro (fn:=Tryz.f80) (by kernel_rfl) (by kernel_rfl) ⟨n,fun k hk=>?_⟩ (hT _)
   have e:=e k hk
   simp only at e
   simp only [Zfq,hl]
   rw [show ((2:Nat):Int)=2 from rfl,e,Qn,Zci]
 ·rw [if_pos c]
  have e:EvI (fun k s=>QA Qa (gm Qa k) Q4 k Tryz.f80 [1,1,0,1,0] [8,7,6,3] s) ([.int .i64 0,.int .i64 2,.slice h,.int .i64 0],σ) (AX.ret,[(2,.int .i64 x)],σ):=by
   refine EvI.done (Ev.of fun k=>?_)
   simp only [Zad]
   simp [hl,g0,c]
  obtain⟨n,e⟩:=Zc e
  refine Runs.intro (fn:=Tryz.f80) (by kernel_rfl) (by kernel_rfl) ⟨n,fun k hk=>?_⟩ (hT _)
  have e:=e k hk
  simp only at e
  simp only [Zfq,hl]
  rw [show ((2:Nat):Int)=2 from rfl,e,Qn,Zci]
def cmpP(x y:Int×Int):Int:=if cmpI x.1 y.1≠0 then cmpI x.1 y.1 else cmpI x.2 y.2
theorem Z65(σ:Store)(hp:σ.prot<=σ.objs.length)(x y:Int×Int):∃ σ',Runs Qa 79 [.agg [.int .i64 x.1,.int .i64 x.2],.agg [.int .i64 y.1,.int .i64 y.2]] σ (.int .i64 (cmpP x y)) σ':=by
 obtain⟨n,hn⟩:∃ n,n=σ.objs.length:=⟨_,rfl⟩
 obtain⟨s1,h1⟩:∃ s,s=(σ.push [.int .i64 x.1,.int .i64 x.2] 2).push [.int .i64 y.1,.int .i64 y.2] 2:=⟨_,rfl⟩
 have len1:(σ.push [Qm .i64 x.1,.int .i64 x.2] 2).objs.length=n+1:=by rw [hn]; simp
 have R0:s1.Row n 2 [.int .i64 x.1,.int .i64 x.2]:=by rw [h1,hn]; exact Store.Row.push Store.Row.new
 have R1:s1.Row (n+1) 2 [.int .i64 y.1,.int .i64 y.2]:=by rw [h1,<-len1]; exact Store.Row.new
 obtain⟨f0,f1⟩:=ld2 R0
 obtain⟨g0,g1⟩:=ld2 R1
 obtain⟨n1,r1⟩:=Z14 hT { s1 with prot:=s1.objs.length } x.1 y.1
 obtain⟨n2,r2⟩:=Z14 hT s1 x.2 y.2
 have I3:(s1.push [.int .i64 (cmpI x.1 y.1),.int .i64 (cmpI x.2 y.2)] 1).Ints ⟨some (s1.objs.length,0),2,some 2⟩ [cmpI x.1 y.1,cmpI x.2 y.2]:=Store.Row.new.sl (by rfl)
 obtain⟨n3,r3⟩:=or0 hT I3
 refine⟨s1.push [.int .i64 (cmpI x.1 y.1),.int .i64 (cmpI x.2 y.2)] 1,Runs.intro (fn:=Tryz.f79) (by kernel_rfl) (by kernel_rfl) ⟨n1+n2+n3,fun k hk=>?_⟩ (hT _)⟩
 have r1:=Zq (r1 k (by omega))
 have r2:=r2 k (by omega)
 have r3:=r3 k (by omega)
 simp only at r2 r3
 simp only [Z5u]
 simp only [stp,<-h1,len1,<-hn,f0,f1,g0,g1,r1,r2]
 erw [r3]
 rfl
end
theorem Zh1:ltOf cmpP=plx:=by
 funext x y
 unfold ltOf
 rw [Bool.eq_iff_iff,Zum,decide_eq_true_eq]
 unfold cmpP cmpI
 split <;> split <;> (try split) <;> (try split) <;> omega
end Go.Ab

namespace Go.Ab
open Go Go.Proofs Go.Shelf Go.Sort
def Tryz.sortA_ren:Go.Shelf.Ren:=⟨fun | 5=>187 | 8=>144 | 7=>225 | 19=>203 | 20=>178 | 10=>240 | 11=>241 | 12=>242 | 13=>243 | 14=>244 | 15=>245 | 16=>246 | 17=>247 | 18=>248 | 30=>253 | 31=>232 | 32=>233 | 33=>254 | 34=>255 | 35=>145 | 40=>257 | n=>n,fun | 23=>34 | 25=>3 | 3=>3 | 32=>58 | 22=>34 | 0=>0 | 44=>86 | 46=>183 | 4=>4 | 36=>273 | 35=>272 | 41=>254 | 5=>5 | 9=>9 | 53=>302 | 57=>306 | 63=>320 | 64=>51 | n=>n,fun | n=>n⟩
theorem Tryz.sortA:Go.Proofs.SlLaysM.n5 Qa Tryz.sortA_ren:={
 mixed:=by kernel_rfl,
 f5:=⟨Tryz.f187.name,by decide,Tryz.func187.trans (congrArg some (by kernel_rfl))⟩,
 f7:=⟨Tryz.f225.name,by decide,Tryz.func225.trans (congrArg some (by kernel_rfl))⟩,
 f8:=Tryz.func144.trans (congrArg some (by kernel_rfl)),
 f10:=⟨Tryz.f240.name,by decide,Tryz.func240.trans (congrArg some (by kernel_rfl))⟩,
 f11:=⟨Tryz.f241.name,by decide,Tryz.func241.trans (congrArg some (by kernel_rfl))⟩,
 f12:=⟨Tryz.f242.name,by decide,Tryz.func242.trans (congrArg some (by kernel_rfl))⟩,
 f13:=⟨Tryz.f243.name,by decide,Tryz.func243.trans (congrArg some (by kernel_rfl))⟩,
 f14:=⟨Tryz.f244.name,by decide,Tryz.func244.trans (congrArg some (by kernel_rfl))⟩,
 f15:=⟨Tryz.f245.name,by decide,Tryz.func245.trans (congrArg some (by kernel_rfl))⟩,
 f16:=⟨Tryz.f246.name,by decide,Tryz.func246.trans (congrArg some (by kernel_rfl))⟩,
 f17:=⟨Tryz.f247.name,by decide,Tryz.func247.trans (congrArg some (by kernel_rfl))⟩,
 f18:=⟨Tryz.f248.name,by decide,Tryz.func248.trans (congrArg some (by kernel_rfl))⟩,
 f19:=Tryz.func203.trans (congrArg some (by kernel_rfl)),
 f20:=Tryz.func178.trans (congrArg some (by kernel_rfl)),
 f30:=⟨Tryz.f253.name,by decide,Tryz.func253.trans (congrArg some (by kernel_rfl))⟩,
 f31:=Tryz.func232.trans (congrArg some (by kernel_rfl)),
 f32:=Tryz.func233.trans (congrArg some (by kernel_rfl)),
 f33:=⟨Tryz.f254.name,by decide,Tryz.func254.trans (congrArg some (by kernel_rfl))⟩,
 f34:=⟨Tryz.f255.name,by decide,Tryz.func255.trans (congrArg some (by kernel_rfl))⟩,
 f35:=⟨Tryz.f145.name,by decide,Tryz.func145.trans (congrArg some (by kernel_rfl))⟩,
 f40:=⟨Tryz.f257.name,by decide,Tryz.func257.trans (congrArg some (by kernel_rfl))⟩,
 t0:=Tryz.underlying0,
 a0:=Tryz.isAgg0,
 z0:=Tryz.sizeOf0,
 v0:=Tryz.zeroValue0,
 t3:=Tryz.underlying3,
 a3:=Tryz.isAgg3,
 z3:=Tryz.sizeOf3,
 v3:=Tryz.zeroValue3,
 t4:=Tryz.underlying4,
 a4:=Tryz.isAgg4,
 z4:=Tryz.sizeOf4,
 v4:=Tryz.zeroValue4,
 t5:=Tryz.underlying5,
 a5:=Tryz.isAgg5,
 z5:=Tryz.sizeOf5,
 v5:=Tryz.zeroValue5,
 t9:=Tryz.underlying9,
 a9:=Tryz.isAgg9,
 z9:=Tryz.sizeOf9,
 v9:=Tryz.zeroValue9,
 t22:=Tryz.underlying34,
 a22:=Tryz.isAgg34,
 z22:=Tryz.sizeOf34,
 v22:=Tryz.zeroValue34,
 t23:=Tryz.underlying34,
 a23:=Tryz.isAgg34,
 z23:=Tryz.sizeOf34,
 v23:=Tryz.zeroValue34,
 t25:=Tryz.underlying3,
 a25:=Tryz.isAgg3,
 z25:=Tryz.sizeOf3,
 v25:=Tryz.zeroValue3,
 t32:=Tryz.underlying58,
 a32:=Tryz.isAgg58,
 z32:=Tryz.sizeOf58,
 v32:=Tryz.zeroValue58,
 t35:=Tryz.underlying272,
 a35:=Tryz.isAgg272,
 z35:=Tryz.sizeOf272,
 v35:=Tryz.zeroValue272,
 t36:=Tryz.underlying273,
 a36:=Tryz.isAgg273,
 z36:=Tryz.sizeOf273,
 v36:=Tryz.zeroValue273,
 t41:=Tryz.underlying254,
 a41:=Tryz.isAgg254,
 z41:=Tryz.sizeOf254,
 v41:=Tryz.zeroValue254,
 t44:=Tryz.underlying86,
 a44:=Tryz.isAgg86,
 z44:=Tryz.sizeOf86,
 v44:=Tryz.zeroValue86,
 t46:=Tryz.underlying183,
 a46:=Tryz.isAgg183,
 z46:=Tryz.sizeOf183,
 v46:=Tryz.zeroValue183,
 t53:=Tryz.underlying302,
 a53:=Tryz.isAgg302,
 z53:=Tryz.sizeOf302,
 v53:=Tryz.zeroValue302,
 t57:=Tryz.underlying306,
 a57:=Tryz.isAgg306,
 z57:=Tryz.sizeOf306,
 v57:=Tryz.zeroValue306,
 t63:=Tryz.underlying320,
 a63:=Tryz.isAgg320,
 z63:=Tryz.sizeOf320,
 v63:=Tryz.zeroValue320,
 t64:=Tryz.underlying51,
 a64:=Tryz.isAgg51,
 z64:=Tryz.sizeOf51,
 v64:=Tryz.zeroValue51
}
def Tryz.placesL_ren:Go.Shelf.Ren:=⟨fun | 6=>78 | 15=>144 | 14=>143 | 28=>203 | 29=>178 | 20=>195 | 21=>196 | 22=>197 | 23=>198 | 24=>199 | 25=>200 | 26=>201 | 27=>202 | 46=>231 | 47=>232 | 48=>233 | 49=>234 | 50=>235 | 57=>251 | n=>n,fun | 22=>48 | 24=>62 | 25=>135 | 3=>3 | 39=>58 | 0=>0 | 53=>86 | 55=>183 | 4=>4 | 46=>273 | 45=>272 | 50=>254 | 5=>5 | 9=>9 | 66=>302 | 70=>306 | 76=>320 | 77=>51 | n=>n,fun | n=>n⟩
theorem Tryz.placesL:Go.Proofs.SlLaysF0.n6 Qa Tryz.placesL_ren:={
 mixed:=by kernel_rfl,
 f6:=⟨Tryz.f78.name,by decide,Tryz.func78.trans (congrArg some (by kernel_rfl))⟩,
 f14:=⟨Tryz.f143.name,by decide,Tryz.func143.trans (congrArg some (by kernel_rfl))⟩,
 f15:=Tryz.func144.trans (congrArg some (by kernel_rfl)),
 f20:=⟨Tryz.f195.name,by decide,Tryz.func195.trans (congrArg some (by kernel_rfl))⟩,
 f21:=⟨Tryz.f196.name,by decide,Tryz.func196.trans (congrArg some (by kernel_rfl))⟩,
 f22:=⟨Tryz.f197.name,by decide,Tryz.func197.trans (congrArg some (by kernel_rfl))⟩,
 f23:=⟨Tryz.f198.name,by decide,Tryz.func198.trans (congrArg some (by kernel_rfl))⟩,
 f24:=⟨Tryz.f199.name,by decide,Tryz.func199.trans (congrArg some (by kernel_rfl))⟩,
 f25:=⟨Tryz.f200.name,by decide,Tryz.func200.trans (congrArg some (by kernel_rfl))⟩,
 f26:=⟨Tryz.f201.name,by decide,Tryz.func201.trans (congrArg some (by kernel_rfl))⟩,
 f27:=⟨Tryz.f202.name,by decide,Tryz.func202.trans (congrArg some (by kernel_rfl))⟩,
 f28:=Tryz.func203.trans (congrArg some (by kernel_rfl)),
 f29:=Tryz.func178.trans (congrArg some (by kernel_rfl)),
 f46:=⟨Tryz.f231.name,by decide,Tryz.func231.trans (congrArg some (by kernel_rfl))⟩,
 f47:=Tryz.func232.trans (congrArg some (by kernel_rfl)),
 f48:=Tryz.func233.trans (congrArg some (by kernel_rfl)),
 f49:=⟨Tryz.f234.name,by decide,Tryz.func234.trans (congrArg some (by kernel_rfl))⟩,
 f50:=⟨Tryz.f235.name,by decide,Tryz.func235.trans (congrArg some (by kernel_rfl))⟩,
 f57:=⟨Tryz.f251.name,by decide,Tryz.func251.trans (congrArg some (by kernel_rfl))⟩,
 t0:=Tryz.underlying0,
 a0:=Tryz.isAgg0,
 z0:=Tryz.sizeOf0,
 v0:=Tryz.zeroValue0,
 t3:=Tryz.underlying3,
 a3:=Tryz.isAgg3,
 z3:=Tryz.sizeOf3,
 v3:=Tryz.zeroValue3,
 t4:=Tryz.underlying4,
 a4:=Tryz.isAgg4,
 z4:=Tryz.sizeOf4,
 v4:=Tryz.zeroValue4,
 t5:=Tryz.underlying5,
 a5:=Tryz.isAgg5,
 z5:=Tryz.sizeOf5,
 v5:=Tryz.zeroValue5,
 t9:=Tryz.underlying9,
 a9:=Tryz.isAgg9,
 z9:=Tryz.sizeOf9,
 v9:=Tryz.zeroValue9,
 t22:=Tryz.underlying48,
 a22:=Tryz.isAgg48,
 z22:=Tryz.sizeOf48,
 v22:=Tryz.zeroValue48,
 t25:=Tryz.underlying135,
 a25:=Tryz.isAgg135,
 z25:=Tryz.sizeOf135,
 v25:=Tryz.zeroValue135,
 t39:=Tryz.underlying58,
 a39:=Tryz.isAgg58,
 z39:=Tryz.sizeOf58,
 v39:=Tryz.zeroValue58,
 t45:=Tryz.underlying272,
 a45:=Tryz.isAgg272,
 z45:=Tryz.sizeOf272,
 v45:=Tryz.zeroValue272,
 t46:=Tryz.underlying273,
 a46:=Tryz.isAgg273,
 z46:=Tryz.sizeOf273,
 v46:=Tryz.zeroValue273,
 t50:=Tryz.underlying254,
 a50:=Tryz.isAgg254,
 z50:=Tryz.sizeOf254,
 v50:=Tryz.zeroValue254,
 t53:=Tryz.underlying86,
 a53:=Tryz.isAgg86,
 z53:=Tryz.sizeOf86,
 v53:=Tryz.zeroValue86,
 t55:=Tryz.underlying183,
 a55:=Tryz.isAgg183,
 z55:=Tryz.sizeOf183,
 v55:=Tryz.zeroValue183,
 t66:=Tryz.underlying302,
 a66:=Tryz.isAgg302,
 z66:=Tryz.sizeOf302,
 v66:=Tryz.zeroValue302,
 t70:=Tryz.underlying306,
 a70:=Tryz.isAgg306,
 z70:=Tryz.sizeOf306,
 v70:=Tryz.zeroValue306,
 t76:=Tryz.underlying320,
 a76:=Tryz.isAgg320,
 z76:=Tryz.sizeOf320,
 v76:=Tryz.zeroValue320,
 t77:=Tryz.underlying51,
 a77:=Tryz.isAgg51,
 z77:=Tryz.sizeOf51,
 v77:=Tryz.zeroValue51
}
theorem Z6p:SpS Qa (sortSp 187)/\SpK (sortSp 187):=
 Zwv (fn:=Tryz.f187) (by kernel_rfl) (by kernel_rfl) (by kernel_rfl)
  (fun blk off cap zs w hH hb hl=>AnyM.slices_Sort_int Tryz.sortA blk off cap zs w hH hb hl)
  (fun p cap w=>AnyM.slices_Sort_int_none Tryz.sortA p cap w)
theorem Z47(hm:Qa.follows .mixedOrders=true)(blk off size:Nat)(w:World):CmpLays Qa 79 #[] encP 2 cmpP blk off size w:=
 Zz8 hm (sp:=fun _=>none) (And.intro (fun _ _ h=>absurd h (by simp)) (fun _ _ h=>absurd h (by simp))) (fun x y=>by
  obtain⟨σ',k,h⟩:=@Z65 ⟨fun _=>none⟩ (fun _=>rfl) ⟨[],0⟩ (Qd _) x y
  exact⟨k,σ',h k (Qd _)⟩) blk off size w
theorem Z4v(hm:Qa.follows .mixedOrders=true):SpS Qa (sortFSp 78 79)/\SpK (sortFSp 78 79):=
 Ztc (fn:=Tryz.f78) (by kernel_rfl) (by kernel_rfl) (by kernel_rfl)
  (fun blk off cap zs w hH hb hl=>by
   have eg:∀ args w,(callFunc 79 args).run Qa w=.ok (.enter 79 args) w:=enters_of Tryz.func79 (by kernel_rfl) rfl
   have h:=AnyQ.slices_SortFunc_total Tryz.placesL 2 Tryz.isAgg62 Tryz.sizeOf62 encP (fun _=>rfl) (fun x v hv=>by simp [encP] at hv; rcases hv with rfl | rfl <;> rfl) cmpP (by rw [Zh1]; exact Z4i) 79 #[] blk off cap zs.toArray w eg (Z47 hm blk off _ w) hH hb (by simpa using hl) (by rw [Zh1]; exact Zy4)
   rw [Zh1] at h
   simp only [List.size_toArray,List.toList_toArray] at h
   exact h)
  (fun p cap fv w=>AnyF.slices_SortFunc_none { Tryz.placesL with } p cap fv w)
theorem toldOk(hm:Qa.follows .mixedOrders=true):SpS Qa (Told.sp Qa)/\SpK (Told.sp Qa):=
 Zti hm (Zwb Z6p (Z4v hm)) fun g hg=>by simp at hg
end Go.Ab

namespace Go.Ab
open Go
section
variable {H:Type} {enc:TypeId×Value->H} {P:Program} {w:World} {base:Nat} {spare:Nat->Bool} {held:Bool}
end
end Go.Ab
