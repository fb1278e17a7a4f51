/- Lemmas. -/
import Derived.Test.YtekmpjgcmooppaaGreatAbIndexAgrees3
import Derived.Test.YtekmpjgcmooppaaGreatAbIndexAgrees1
set_option linter.unusedVariables false
set_option linter.unusedSimpArgs false
open Go.IntKind renaming wrap->Qa
open Go.Proofs.Tryz renaming prog->Qb
open Int renaming toNat_natCast->Qc,eq_ofNat_of_zero_le->Qg,tdiv_eq_ediv_of_nonneg->Qq,lt_irrefl->Qv,tmod_eq_emod_of_nonneg->QE,fdiv_eq_ediv_of_nonneg->QY,ofNat_eq_natCast->QZ,natCast_ediv->Qab,le_refl->Qat,mul_ediv_add_emod->QaT,tmod->QaX,le_of_lt->Qbl,tdiv->Qbm,ofNat->Qbw,natCast_zero->Qbz,pow_pos->Qb2,one_mul->Qb3,natCast_add->QbB,toNat_zero->QbG,add_zero->QbM
open Option renaming isNone_some->Qd,bind_some->Qj,map_some->Q9,getD_some->QQ,getD_none->QaB,bind->Qb4,isNone->QbJ,getD->QbO
open Nat renaming le_refl->Qe,pow_le_pow_right->Qh,div_div_eq_div_mul->Qi,mul_le_mul_right->Qr,min_eq_left->Qs,mod_eq_of_lt->Qy,zero_add->Q0,mod_lt->Q2,div_le_self->Q4,mul_comm->QB,two_pow_pos->QI,mul_add->QL,pow_succ->QM,div_eq_of_lt->QP,testBit_lt_two_pow->QR,mod_add_div->QU,or_lt_two_pow->QW,testBit_two_pow_sub_one->QX,lt_succ_self->Qaa,add_mul_mod_self_left->Qac,lt_of_le_of_lt->Qae,lt_of_lt_of_le->Qaf,eq_zero_or_pos->Qag,add_mul->Qai,one_mul->Qaj,sub_self->Qan,and_two_pow_sub_one_eq_mod->Qap,and_le_right->Qar,add_assoc->Qas,eq_of_testBit_eq->Qau,pow_zero->Qa0,testBit_or->Qa1,mul_le_mul->Qa2,add_sub_cancel_left->Qa7,add_zero->QaD,le_of_lt->QaF,lt_or_ge->QaG,div_add_mod->QaJ,testBit_and->QaK,div_lt_iff_lt_mul->QaQ,le_div_iff_mul_le->QaR,add_mul_div_left->QaV,mod_mul_left_mod->QaW,mul_le_mul_left->Qbb,testBit_two_pow->Qbc,mul_assoc->Qbg,and_one_is_mod->Qbi,one_le_two_pow->Qbj,sub_zero->Qbp,min_eq_right->Qbv,max_eq_right->Qbx,pow_add->Qb1,div_one->Qb5,and_le_left->QbA,mod_le->QbF,add_comm->QbL,le_trans->QbN,mul_one->QbP
open List renaming getElem?_eq_some_iff->Qf,getElem?_set->Qk,replicate->Ql,length_append->Qm,getElem?_append_right->Qn,getD_eq_getElem?_getD->Qo,getElem?_append_left->Qp,append_assoc->Qu,map_append->Qx,length_take->Qz,take_append_drop->Q5,length_cons->Q6,mem_of_mem_take->Q7,length_map->Q8,replicate_succ->QA,take_of_length_le->QC,filter_eq_nil_iff->QD,mem_singleton->QF,getElem?_eq_none->QH,mem_filter->QJ,length_set->QK,range->QN,filter_append->QS,pairwise_cons->QT,length_filter_le->QV,getElem?_eq_getElem->Qad,filter_cons_of_neg->Qak,filter_cons_of_pos->Qal,mem_map->Qao,take_length->Qaq,eq_nil_of_length_eq_zero->Qav,mem_append->Qaw,countP_eq_length_filter->Qax,take_succ_cons->Qay,filter_sublist->Qaz,getElem?_take->Qa3,nodup_iff_pairwise_ne->Qa4,any_eq_false->Qa5,mem_cons->Qa6,length_eq_zero_iff->Qa8,getElem?_replicate->Qa9,getElem_set->QaA,length_drop->QaC,getElem_cons_drop->QaH,range_succ->QaL,append_nil->QaM,nodup_cons->QaO,length_nil->QaP,set_append_right->QaS,mem_append_right->QaU,mem_of_mem_drop->QaZ,pairwise_append->Qba,filter_eq_self->Qbd,drop_set_of_lt->Qbe,flatMap_append->Qbf,map_cons->Qbh,mem_cons_self->Qbk,getElem?_map->Qbo,filter_congr->Qbq,pairwise_map->Qbr,mem_range'_1->Qbs,flatMap_cons->Qbt,nodup_append->Qbu,filter_cons->Qb0,range'->Qb7,filter_map->Qb8,take_left'->Qb9,filter_nil->QbC,nil_append->QbD,drop_zero->QbH,map_take->QbI
open Go.Ab.AX renaming exit->Qw
open Go.Ab.Hdl renaming nil->Q3
open Go.Ab.Ptr renaming add->QG
open Go.Ab renaming drawn->QO,stepF->Qam
open Go.Ab.Store renaming ldInt->Qah,readSl->QaE,push->QaI,ldPtr->Qb6,ldSl->QbE,stL->QbR
open Bool renaming or_eq_true->QaN,not_eq_true'->Qbn,and_eq_true->Qby,true_and->QbK
open Go.Ab.AV renaming slice->QaY,asInt->QbQ
namespace Go.Ab.Pop
def Dg(P:Nat):Nat->Nat->Nat
 | 0,_=>0
 | n+1,x=>x % P+Dg P n (x / P)
def Em(P:Nat):Nat->Nat->Nat
 | 0,_=>0
 | n+1,x=>x % P+P*P*Em P n (x / (P*P))
def Small(P m:Nat):Nat->Nat->Prop
 | 0,_=>True
 | n+1,x=>x % P<=m/\Small P m n (x / P)
theorem Zhz{P a b:Nat}(ha:a<P*P):(a+P*P*b) % (P*P)=a/\(a+P*P*b) / (P*P)=b:=by
 have h0:0<P*P:=by omega
 exact⟨by rw [Qac,Qy ha],by rw [QaV _ _ h0,QP ha,Q0]⟩
theorem Zy2{P a b:Nat}(hP:2<=P)(ha:a<P)(hb:b<P):a+b<P*P:=by
 have:2*P<=P*P:=Qr P hP
 omega
theorem Zzi(x P:Nat):x / P / (P*P)=x / (P*P) / P:=by rw [Qi,Qi,QB]
theorem Zer{P:Nat}(hP:2<=P):∀ (n x:Nat),Dg (P*P) n (Em P n x+Em P n (x / P))=Dg P (2*n) x
 | 0,_=>rfl
 | n+1,x=>by
  have e:Em P (n+1) x+Em P (n+1) (x / P)=(x % P+x / P % P)+P*P*(Em P n (x / (P*P))+Em P n (x / (P*P) / P)):=by
   simp only [Em]; rw [Zzi,QL]; omega
  have hlt:=Zy2 hP (Q2 x (by omega)) (Q2 (x / P) (show P>0 by omega))
  obtain⟨h1,h2⟩:=Zhz (b:=Em P n (x / (P*P))+Em P n (x / (P*P) / P)) hlt
  rw [show 2*(n+1)=2*n+1+1 by omega]
  simp only [Dg]
  rw [e,h1,h2,Zer hP n,Qi]; omega
theorem Zdp{P m:Nat}(hP:2<=P):∀ (n x:Nat),Small P m (2*n) x->Small (P*P) (2*m) n (Em P n x+Em P n (x / P))
 | 0,_,_=>trivial
 | n+1,x,h=>by
  have e:Em P (n+1) x+Em P (n+1) (x / P)=(x % P+x / P % P)+P*P*(Em P n (x / (P*P))+Em P n (x / (P*P) / P)):=by
   simp only [Em]; rw [Zzi,QL]; omega
  have hlt:=Zy2 hP (Q2 x (by omega)) (Q2 (x / P) (show P>0 by omega))
  obtain⟨h1,h2⟩:=Zhz (b:=Em P n (x / (P*P))+Em P n (x / (P*P) / P)) hlt
  rw [show 2*(n+1)=2*n+1+1 by omega] at h
  simp only [Small] at h ⊢
  rw [e,h1,h2]
  refine⟨by omega,Zdp hP n _ ?_⟩
  have:=h.2.2
  rwa [Qi] at this
theorem Zwt{P m:Nat}(hP:2<=P)(hm:2*m<P):∀ (n x:Nat),Small P m (2*n+1) x->Em P n (x / P+x)=Em P n x+Em P n (x / P)
 | 0,_,_=>rfl
 | n+1,x,h=>by
  rw [show 2*(n+1)+1=2*n+1+1+1 by omega] at h
  simp only [Small] at h
  obtain⟨h0,h1,h2⟩:=h
  rw [Qi] at h2
  have h2':x / (P*P) % P<=m:=h2.1
  have ih:=Zwt hP hm n (x / (P*P)) h2
  have hP0:0<P:=by omega
  have ex:x=x % P+P*(x / P % P)+P*P*(x / (P*P)):=by
   have a1:=QU x P
   have a2:=QU (x / P) P
   rw [Qi] at a2
   calc x=x % P+P*(x / P):=a1.symm
    _=x % P+P*(x / P % P+P*(x / (P*P))):=by rw [a2]
    _=_:=by rw [QL,Qbg,Qas]
  have ey:x / P=x / P % P+P*(x / (P*P) % P)+P*P*(x / (P*P) / P):=by
   have a1:=QU (x / P) P
   have a2:=QU (x / (P*P)) P
   rw [Qi] at a1
   calc x / P=x / P % P+P*(x / (P*P)):=a1.symm
    _=x / P % P+P*(x / (P*P) % P+P*(x / (P*P) / P)):=by rw [a2]
    _=_:=by rw [QL,Qbg,Qas]
  have es:x / P+x=((x % P+x / P % P)+P*(x / P % P+x / (P*P) % P))+P*P*(x / (P*P) / P+x / (P*P)):=by
   conv=>lhs; rw [ey]; rhs; rw [ex]
   rw [QL,QL]; omega
  have hs1:x % P+x / P % P<P:=by omega
  have hs2:x / P % P+x / (P*P) % P<P:=by omega
  have hlt:(x % P+x / P % P)+P*(x / P % P+x / (P*P) % P)<P*P:=by
   have:P*(x / P % P+x / (P*P) % P+1)<=P*P:=Qbb P (by omega)
   rw [QL] at this; omega
  obtain⟨s1,s2⟩:=Zhz (b:=x / (P*P) / P+x / (P*P)) hlt
  have sm:(x / P+x) % P=x % P+x / P % P:=by
   have:(x / P+x) % P=(x / P+x) % (P*P) % P:=by rw [QaW]
   rw [this,es,s1,Qac,Qy hs1]
  simp only [Em]
  rw [sm,show (x / P+x) / (P*P)=x / (P*P) / P+x / (P*P) by rw [es,s2],ih,Zzi,QL]
  omega
def mask(w:Nat):Nat->Nat
 | 0=>0
 | n+1=>(2^w-1)+2^w*2^w*mask w n
theorem Zcp(w:Nat)(hw:0<w):∀ (n x:Nat),x &&& mask w n=Em (2^w) n x
 | 0,x=>by simp [mask,Em]
 | n+1,x=>by
  have hp:2^w*2^w=2^(2*w):=by rw [<-Qb1]; congr 1; omega
  have h0:0<2^w:=QI w
  have h1:2^w-1<2^w*2^w:=by
   have:1*2^w<=2^w*2^w:=Qr _ h0
   omega
  obtain⟨m1,m2⟩:=Zhz (b:=mask w n) h1
  simp only [mask,Em]
  rw [<-QU (x &&& (2^w-1+2^w*2^w*mask w n)) (2^w*2^w)]
  rw [hp] at m1 m2 ⊢
  rw [Nat.and_mod_two_pow,Nat.and_div_two_pow,m1,m2,Zcp w hw n,Qap,<-hp,QaW,hp]
theorem Zrn(P m:Nat)(hP:0<P)(hm:P<=m+1):∀ n x,Small P m n x
 | 0,_=>trivial
 | n+1,x=>⟨by have:=Q2 x hP; omega,Zrn P m hP hm n _⟩
def pop:Nat->Nat->Nat
 | 0,_=>0
 | n+1,x=>x % 2+pop n (x / 2)
theorem Zx9:∀ n x,pop n x=Dg 2 n x
 | 0,_=>rfl
 | n+1,x=>by simp only [pop,Dg,Zx9 n]
theorem Zld{P m:Nat}:∀ n,Small P m n 0
 | 0=>trivial
 | n+1=>⟨by simp,by rw [Nat.zero_div]; exact Zld n⟩
theorem Zlc{P m:Nat}(hP:1<P):∀ (n k x:Nat),x<P^n->Small P m n x->Small P m (n+k) x
 | 0,k,x,hx,_=>by
  have:x=0:=by simpa using hx
  subst this; exact Zld _
 | n+1,k,x,hx,h=>by
  rw [show n+1+k=(n+k)+1 by omega]
  refine⟨h.1,Zlc hP n k _ ?_ h.2⟩
  rw [QaQ (by omega),<-QM]; exact hx
theorem Zh9{P:Nat}(hP:0<P):∀ n x,Em P n x<(P*P)^n
 | 0,_=>by simp [Em]
 | n+1,x=>by
  have ih:=Zh9 hP n (x / (P*P))
  have h1:=Q2 x hP
  have h2:P<=P*P:=by have:1*P<=P*P:=Qr _ hP; omega
  simp only [Em,QM]
  have:P*P*(Em P n (x / (P*P))+1)<=P*P*(P*P)^n:=Qbb _ ih
  rw [QL,QB (P*P) ((P*P)^n)] at this
  omega
def fold64(x:Nat):Nat:=
 let a:=(x / 2 &&& 0x5555555555555555)+(x &&& 0x5555555555555555)
 let b:=(a / 4 &&& 0x3333333333333333)+(a &&& 0x3333333333333333)
 (b / 16+b) &&& 0x0f0f0f0f0f0f0f0f
theorem fold64_spec(x:Nat)(hx:x<2^64):Small 256 8 8 (fold64 x)/\Dg 256 8 (fold64 x)=pop 64 x/\fold64 x<2^64:=by
 have m1:mask 1 32=0x5555555555555555:=by decide
 have m2:mask 2 16=0x3333333333333333:=by decide
 have m3:mask 4 8=0x0f0f0f0f0f0f0f0f:=by decide
 simp only [fold64]
 rw [<-m1,<-m2,<-m3,Zcp 1 (by omega),Zcp 1 (by omega),Zcp 2 (by omega),Zcp 2 (by omega),Zcp 4 (by omega)]
 simp only [show 2^1=2 by rfl,show 2^2=4 by rfl,show 2^4=16 by rfl]
 rw [QbL (Em 2 32 (x / 2))]
 have f1:=Zer (P:=2) (by omega) 32 x
 have s1:=Zdp (P:=2) (m:=1) (by omega) 32 x (Zrn 2 1 (by omega) (by omega) _ _)
 generalize ha:Em 2 32 x+Em 2 32 (x / 2)=a at f1 s1 ⊢
 rw [QbL (Em 4 16 (a / 4))]
 have f2:=Zer (P:=4) (by omega) 16 a
 have s2:=Zdp (P:=4) (m:=2) (by omega) 16 a s1
 generalize hb:Em 4 16 a+Em 4 16 (a / 4)=b at f2 s2 ⊢
 have lb:b<16^17:=by
  have h1:=Zh9 (P:=4) (by omega) 16 a
  have h2:=Zh9 (P:=4) (by omega) 16 (a / 4)
  have:(4*4)^16+(4*4)^16<=16^17:=by decide
  omega
 have lb16:b<16^16:=by
  have hd:b / 16^16=0:=by
   have h1:=Zh9 (P:=4) (by omega) 16 a
   have h2:=Zh9 (P:=4) (by omega) 16 (a / 4)
   have key:∀ (n u v:Nat),(Em 4 n u+Em 4 n v) / (4*4)^n=0:=by
    intro n
    induction n with
    | zero=>intro u v; simp [Em]
    | succ n ih=>
     intro u v
     have e:Em 4 (n+1) u+Em 4 (n+1) v=(u % 4+v % 4)+4*4*(Em 4 n (u / (4*4))+Em 4 n (v / (4*4))):=by simp only [Em]; omega
     have hlt:u % 4+v % 4<4*4:=by omega
     rw [e,QM,QB ((4*4)^n),<-Qi,(Zhz hlt).2]
     exact ih _ _
   have:=key 16 a (a / 4)
   rw [hb] at this
   exact this
  have:=QaJ b (16^16)
  have:=Q2 b (show 16^16>0 by decide)
  omega
 have s3:=Zwt (P:=16) (m:=4) (by omega) (by omega) 8 b (Zlc (by omega) 16 1 b lb16 s2)
 rw [s3]
 refine⟨Zdp (P:=16) (m:=4) (by omega) 8 b s2,?_,?_⟩
 ·rw [Zer (P:=16) (by omega) 8 b,f2,f1,Zx9]
 ·have h1:=Zh9 (P:=16) (by omega) 8 (b / 16+b)
  rw [s3] at h1
  have:(16*16)^8=2^64:=by decide
  omega
theorem pop_le:∀ n x,pop n x<=n
 | 0,_=>Qe _
 | n+1,x=>by simp only [pop]; have:=pop_le n (x / 2); omega
theorem Z4f{a b m:Nat}(ha:a<m):(a+m*b) / m=b:=by rw [QaV _ _ (by omega),QP ha,Q0]
def eight(x0 x1 x2 x3 x4 x5 x6 x7:Nat):Nat:=x0+256*(x1+256*(x2+256*(x3+256*(x4+256*(x5+256*(x6+256*x7))))))
theorem Za1(x0 x1 x2 x3 x4 x5 x6 x7:Nat)(h:x0<256):eight x0 x1 x2 x3 x4 x5 x6 x7 / 256=eight x1 x2 x3 x4 x5 x6 x7 0:=by
 unfold eight; rw [Z4f h,Nat.mul_zero,QaD]
theorem Zgz(x0 x1 x2 x3 x4 x5 x6 x7 y0 y1 y2 y3 y4 y5 y6 y7:Nat):eight x0 x1 x2 x3 x4 x5 x6 x7+eight y0 y1 y2 y3 y4 y5 y6 y7=eight (x0+y0) (x1+y1) (x2+y2) (x3+y3) (x4+y4) (x5+y5) (x6+y6) (x7+y7):=by
 unfold eight; omega
theorem Zji(x0 x1 x2 x3 x4 x5 x6 x7:Nat)(h0:x0<256)(h1:x1<256)(h2:x2<256)(h3:x3<256)(h4:x4<256)(h5:x5<256)(h6:x6<256)(h7:x7<256):eight x0 x1 x2 x3 x4 x5 x6 x7<18446744073709551616:=by
 unfold eight; omega
theorem Zzt{z:Nat}(hz:z<2^64):z=eight (z % 256) (z / 256 % 256) (z / 256 / 256 % 256) (z / 256 / 256 / 256 % 256) (z / 256 / 256 / 256 / 256 % 256) (z / 256 / 256 / 256 / 256 / 256 % 256) (z / 256 / 256 / 256 / 256 / 256 / 256 % 256) (z / 256 / 256 / 256 / 256 / 256 / 256 / 256 % 256):=by
 have step:∀ x:Nat,x=x % 256+256*(x / 256):=fun x=>(QU x 256).symm
 have last:z / 256 / 256 / 256 / 256 / 256 / 256 / 256 % 256=z / 256 / 256 / 256 / 256 / 256 / 256 / 256:=by
  rw [Qy]
  simp only [Qi]
  exact Nat.div_lt_of_lt_mul (by simpa using hz)
 unfold eight
 rw [last,<-step,<-step,<-step,<-step,<-step,<-step,<-step]
theorem Zu8(x0 x1 x2 x3 x4 x5 x6 x7:Nat)(h0:x0<=8)(h1:x1<=8)(h2:x2<=8)(h3:x3<=8)(h4:x4<=8)(h5:x5<=8)(h6:x6<=8)(h7:x7<=8){z c d:Nat}(hz:z=eight x0 x1 x2 x3 x4 x5 x6 x7)(hc:c=z+z / 256)(hd:d=c+c / 256 / 256) :
  (d+d / 256 / 256 / 256 / 256) % 128=x0+x1+x2+x3+x4+x5+x6+x7/\d+d / 256 / 256 / 256 / 256<18446744073709551616/\d<18446744073709551616/\c<18446744073709551616:=by
 rw [hz,Za1 _ _ _ _ _ _ _ _ (by omega),Zgz] at hc
 rw [hc,Za1 _ _ _ _ _ _ _ _ (by omega),Za1 _ _ _ _ _ _ _ _ (by omega),Zgz] at hd
 obtain⟨f,e⟩:∃ f,d+d / 256 / 256 / 256 / 256=f:=⟨_,rfl⟩
 rw [e]
 rw [hd,Za1 _ _ _ _ _ _ _ _ (by omega),Za1 _ _ _ _ _ _ _ _ (by omega),Za1 _ _ _ _ _ _ _ _ (by omega),Za1 _ _ _ _ _ _ _ _ (by omega),Zgz] at e
 clear hz
 refine⟨?_,?_,?_,?_⟩
 ·rw [<-e]
  unfold eight
  rw [show ∀ a b:Nat,a+256*b=a+128*(2*b) from fun a b=>by omega,Qac,Qy (by omega)]
  omega
 ·rw [<-e]; exact Zji _ _ _ _ _ _ _ _ (by omega) (by omega) (by omega) (by omega) (by omega) (by omega) (by omega) (by omega)
 ·rw [hd]; exact Zji _ _ _ _ _ _ _ _ (by omega) (by omega) (by omega) (by omega) (by omega) (by omega) (by omega) (by omega)
 ·rw [hc]; exact Zji _ _ _ _ _ _ _ _ (by omega) (by omega) (by omega) (by omega) (by omega) (by omega) (by omega) (by omega)
theorem last_sum{z:Nat}(h:Small 256 8 8 z)(hz:z<2^64){c d:Nat}(hc:c=z+z / 256)(hd:d=c+c / 65536) :
  (d+d / 4294967296) % 128=Dg 256 8 z/\d+d / 4294967296<18446744073709551616/\d<18446744073709551616/\c<18446744073709551616:=by
 obtain⟨h0,h1,h2,h3,h4,h5,h6,h7,_⟩:=h
 have hd':d=c+c / 256 / 256:=by rw [hd,Qi]
 have:=Zu8 _ _ _ _ _ _ _ _ h0 h1 h2 h3 h4 h5 h6 h7 (Zzt hz) hc hd'
 rw [show d / 4294967296=d / 256 / 256 / 256 / 256 by simp only [Qi]]
 refine⟨?_,this.2⟩
 rw [this.1]
 simp only [Dg]
 omega
end Go.Ab.Pop

namespace Go.Ab.Bs
open Go.Ab.Wd
def bitb(k:Nat)(x:Int):Bool:=decide (x.toNat / 2^k % 2=1)
def low(k:Nat)(l:List Int):List Int:=l.filter fun x=>!bitb k x
def high(k:Nat)(l:List Int):List Int:=l.filter (bitb k)
def down(k:Nat)(l:List Int):List Int:=low k l++high k l
def levels:Nat->List Int->List (List Bool)
 | 0,_=>[]
 | k+1,l=>l.map (bitb k)::levels k (down k l)
theorem Zf4(k:Nat)(l:List Int):(low k l).length+(high k l).length=l.length:=by
 induction l with
 | nil=>rfl
 | cons x l ih=>
  unfold low high at ih ⊢
  cases h:bitb k x <;> simp [h] <;> omega
theorem Zr3(k:Nat)(l:List Int):(down k l).length=l.length:=by unfold down; rw [Qm,Zf4]
theorem Zzq{k:Nat}{l:List Int}{x:Int}:x∈down k l ↔ x∈l:=by
 unfold down low high
 rw [Qaw,QJ,QJ]
 cases h:bitb k x <;> simp
def rowAt:Nat->List Int->Nat->List Int
 | 0,l,_=>l
 | w+1,l,k=>if k=w+1 then l else rowAt w (down w l) k
theorem Zey(w:Nat)(l:List Int):rowAt w l w=l:=by cases w <;> simp [rowAt]
theorem Zdo:∀ (w:Nat) (l:List Int) (k:Nat),k<w->rowAt w l k=down k (rowAt w l (k+1))
 | 0,_,_,h=>by omega
 | w+1,l,k,h=>by
  by_cases c:k=w
  ·subst c
   rw [rowAt,if_neg (by omega),Zey,rowAt,if_pos rfl]
  ·rw [rowAt,if_neg (by omega),rowAt,if_neg (by omega)]
   exact Zdo w _ k (by omega)
theorem Zcl(w:Nat)(l:List Int)(k:Nat):(rowAt w l k).length=l.length:=by
 induction w generalizing l with
 | zero=>rfl
 | succ w ih=>
  rw [rowAt]
  split
  ·rfl
  ·rw [ih,Zr3]
theorem Zyi(w:Nat)(l:List Int)(k:Nat)(x:Int):x∈rowAt w l k ↔ x∈l:=by
 induction w generalizing l with
 | zero=>rfl
 | succ w ih=>
  rw [rowAt]
  split
  ·rfl
  ·rw [ih,Zzq]
def Part(r:List Int)(a:Nat)(s:List Int):Prop:=∃ x y,r=x++s++y/\x.length=a
theorem Part.le{r s:List Int}{a:Nat}(h:Part r a s):a+s.length<=r.length:=by obtain⟨x,y,rfl,rfl⟩:=h; simp
theorem Part.get{r s:List Int}{a i:Nat}(h:Part r a s)(hi:i<s.length):r[a+i]?=s[i]?:=by
 obtain⟨x,y,rfl,rfl⟩:=h
 rw [Qu,Qn (by omega),Qa7,Qp hi]
theorem Part.of_take{r:List Int}{a b:Nat}(hab:a<=b)(hb:b<=r.length):Part r a ((r.take b).drop a):=
 ⟨r.take a,r.drop b,by
  have e1:r.take b=r.take a++(r.take b).drop a:=by
   conv=>lhs; rw [<-Q5 a (r.take b)]
   rw [List.take_take,Qs hab]
  rw [<-e1,Q5],by simp; omega⟩
def onesTo(b:List Bool)(i:Nat):Nat:=((b.take i).filter id).length
def zerosTo(b:List Bool)(i:Nat):Nat:=min i b.length-onesTo b i
theorem Zk1(k:Nat)(r:List Int)(i:Nat):onesTo (r.map (bitb k)) i=(high k (r.take i)).length:=by
 unfold onesTo high
 rw [<-QbI,Qb8,Q8]; rfl
theorem Zjb(k:Nat)(r:List Int)(i:Nat):zerosTo (r.map (bitb k)) i=(low k (r.take i)).length:=by
 unfold zerosTo
 rw [Zk1,Q8]
 have:=Zf4 k (r.take i)
 rw [Qz] at this
 omega
def goto(b:List Bool)(i:Nat)(one:Bool):Nat:=if one=true then zerosTo b b.length+onesTo b i else zerosTo b i
theorem Part.down{r s:List Int}{a:Nat}(h:Part r a s)(k:Nat)(one:Bool) :
  Part (down k r) (goto (r.map (bitb k)) a one) (s.filter fun x=>bitb k x == one) /\
   goto (r.map (bitb k)) (a+s.length) one=goto (r.map (bitb k)) a one+(s.filter fun x=>bitb k x == one).length:=by
 obtain⟨x,y,rfl,rfl⟩:=h
 have e1:(x++s++y).take x.length=x:=by rw [Qu,Qb9]; rfl
 have e2:(x++s++y).take (x.length+s.length)=x++s:=by rw [Qb9]; simp
 cases one with
 | false=>
  simp only [goto,Bool.false_eq_true,if_false,Zjb,e1,e2]
  have hl:(s.filter fun x=>bitb k x == false)=low k s:=by unfold low; congr 1; funext z; cases bitb k z <;> rfl
  rw [hl]
  refine⟨⟨low k x,low k y++high k (x++s++y),by simp [Bs.down,low],rfl⟩,by simp [low]⟩
 | true=>
  simp only [goto,if_true,Zjb,Zk1,e1,e2,Q8,Qaq]
  have hl:(s.filter fun x=>bitb k x == true)=high k s:=by unfold high; congr 1; funext z; cases bitb k z <;> rfl
  rw [hl]
  refine⟨⟨low k (x++s++y)++high k x,high k y,by simp [Bs.down,high],by simp⟩,by simp [high]; omega⟩
def alike(k:Nat)(c x:Int):Bool:=decide (x.toNat / 2^k=c.toNat / 2^k)
end Go.Ab.Bs

namespace Go.Ab
open Go Go.Proofs Go.Ab.Wd Go.Ab.Bs Go.Ab.Sai
theorem Zx{x:Int}(h0:0<=x)(h1:x<18446744073709551616):Qa .u64 x=x:=by
 unfold Qa
 have e2:(2:Int)^IntKind.u64.bits=18446744073709551616:=by decide
 simp [e2,IntKind.signed]; omega
theorem Zbm{a b:Nat}(ha:a<18446744073709551616)(hb:b<18446744073709551616):bitOp .and .u64 (a:Int) (b:Int)=((a &&& b:Nat):Int):=by
 have e:IntKind.u64.bits=64:=by decide
 have h:a &&& b<18446744073709551616:=Qae QbA ha
 unfold bitOp; simp only [e,BitVec.ofInt_natCast,BitVec.toNat_and,BitVec.toNat_ofNat]
 rw [Qy (by simpa using ha),Qy (by simpa using hb),Zx (by omega) (by omega)]
theorem Zk2{a b:Nat}(ha:a<18446744073709551616)(hb:b<18446744073709551616):bitOp .or .u64 (a:Int) (b:Int)=((a ||| b:Nat):Int):=by
 have e:IntKind.u64.bits=64:=by decide
 have h:a ||| b<2^64:=QW (by simpa using ha) (by simpa using hb)
 unfold bitOp; simp only [e,BitVec.ofInt_natCast,BitVec.toNat_or,BitVec.toNat_ofNat]
 rw [Qy (by simpa using ha),Qy (by simpa using hb),Zx (by omega) (by omega)]
theorem Zal{a s:Nat}(hs:s<=64):shrI .u64 (a:Int) (s:Int)=((a / 2^s:Nat):Int):=by
 have e:IntKind.u64.bits=64:=by decide
 unfold shrI
 rw [e,Qc,Qs hs,QY _ (Qbl (Qb2 (by omega)))]
 simp
theorem Zy6(s:Nat):BitVec.ofInt 64 (Qa .i64 (s:Int))=BitVec.ofNat 64 s:=by
 apply BitVec.eq_of_toNat_eq
 rw [BitVec.toNat_ofInt,BitVec.toNat_ofNat]
 unfold Qa
 have e1:(2:Int)^IntKind.i64.bits=18446744073709551616:=by decide
 have e3:(2:Int)^(IntKind.i64.bits-1)=9223372036854775808:=by decide
 simp only [e1,e3,IntKind.signed]
 simp
 split <;> omega
theorem Z1c{s:Nat}:bitOp .and .i64 (Qa .i64 (s:Int)) 127=((s % 128:Nat):Int):=by
 have e:IntKind.i64.bits=64:=by decide
 show Qa .i64 (BitVec.ofInt 64 (Qa .i64 (s:Int)) &&& BitVec.ofInt 64 127).toNat=_
 rw [Zy6]
 have h:(BitVec.ofNat 64 s &&& BitVec.ofInt 64 127).toNat=s % 128:=by
  rw [BitVec.toNat_and,BitVec.toNat_ofNat,show (BitVec.ofInt 64 127).toNat=2^7-1 by decide,Qap]
  omega
 rw [h,Za (by omega) (by omega)]
theorem Zeq(σ:Store){x:Nat}(hx:x<2^64):Runs Qb 111 [.int .u64 x] σ (.int .i64 (Pop.pop 64 x:Nat)) σ:=by
 refine rI Tryz.f111 (Ev.of fun k=>?_)
 rw [Z1q]
 obtain⟨F1,F2,F3⟩:=Pop.fold64_spec x hx
 obtain⟨a,ha⟩:∃ a,a=(x / 2 &&& 0x5555555555555555)+(x &&& 0x5555555555555555):=⟨_,rfl⟩
 obtain⟨b,hb⟩:∃ b,b=(a / 4 &&& 0x3333333333333333)+(a &&& 0x3333333333333333):=⟨_,rfl⟩
 obtain⟨z,hz⟩:∃ z,z=(b / 16+b) &&& 0x0f0f0f0f0f0f0f0f:=⟨_,rfl⟩
 have ez:Pop.fold64 x=z:=by rw [hz,hb,ha]; rfl
 rw [ez] at F1 F2 F3
 obtain⟨c,hc⟩:∃ c,c=z+z / 256:=⟨_,rfl⟩
 obtain⟨d,hd⟩:∃ d,d=c+c / 65536:=⟨_,rfl⟩
 obtain⟨L1,L2,L3,L4⟩:=Pop.last_sum F1 F3 hc hd
 have a1:x / 2 &&& 0x5555555555555555<=0x5555555555555555:=Qar
 have a2:x &&& 0x5555555555555555<=0x5555555555555555:=Qar
 have b1:a / 4 &&& 0x3333333333333333<=0x3333333333333333:=Qar
 have b2:a &&& 0x3333333333333333<=0x3333333333333333:=Qar
 have s1:shrI .u64 (x:Int) 1=((x / 2:Nat):Int):=Zal (s:=1) (by omega)
 have s2:shrI .u64 (a:Int) 2=((a / 4:Nat):Int):=Zal (s:=2) (by omega)
 have s4:shrI .u64 (b:Int) 4=((b / 16:Nat):Int):=Zal (s:=4) (by omega)
 have s8:shrI .u64 (z:Int) 8=((z / 256:Nat):Int):=Zal (s:=8) (by omega)
 have s16:shrI .u64 (c:Int) 16=((c / 65536:Nat):Int):=Zal (s:=16) (by omega)
 have s32:shrI .u64 (d:Int) 32=((d / 4294967296:Nat):Int):=Zal (s:=32) (by omega)
 have e1:Qa .u64 (bitOp .and .u64 (shrI .u64 (x:Int) 1) 6148914691236517205+bitOp .and .u64 (x:Int) 6148914691236517205)=(a:Int):=by
  have q1:bitOp .and .u64 ((x / 2:Nat):Int) 6148914691236517205=((x / 2 &&& 0x5555555555555555:Nat):Int):=Zbm (b:=6148914691236517205) (by omega) (by omega)
  have q2:bitOp .and .u64 (x:Int) 6148914691236517205=((x &&& 0x5555555555555555:Nat):Int):=Zbm (b:=6148914691236517205) (by omega) (by omega)
  rw [s1,q1,q2,Zx (by omega) (by omega),ha]; omega
 have e2:Qa .u64 (bitOp .and .u64 (shrI .u64 (a:Int) 2) 3689348814741910323+bitOp .and .u64 (a:Int) 3689348814741910323)=(b:Int):=by
  have q1:bitOp .and .u64 ((a / 4:Nat):Int) 3689348814741910323=((a / 4 &&& 0x3333333333333333:Nat):Int):=Zbm (b:=3689348814741910323) (by omega) (by omega)
  have q2:bitOp .and .u64 (a:Int) 3689348814741910323=((a &&& 0x3333333333333333:Nat):Int):=Zbm (b:=3689348814741910323) (by omega) (by omega)
  rw [s2,q1,q2,Zx (by omega) (by omega),hb]; omega
 have e3:bitOp .and .u64 (Qa .u64 (shrI .u64 (b:Int) 4+(b:Int))) 1085102592571150095=(z:Int):=by
  rw [s4,Zx (by omega) (by omega),<-QbB,hz]
  exact Zbm (b:=1085102592571150095) (by omega) (by omega)
 have e4:Qa .u64 ((z:Int)+shrI .u64 (z:Int) 8)=(c:Int):=by rw [s8,Zx (by omega) (by omega)]; omega
 have e5:Qa .u64 ((c:Int)+shrI .u64 (c:Int) 16)=(d:Int):=by rw [s16,Zx (by omega) (by omega)]; omega
 have e6:Qa .u64 ((d:Int)+shrI .u64 (d:Int) 32)=((d+d / 4294967296:Nat):Int):=by rw [s32,Zx (by omega) (by omega)]; omega
 simp only [e1,e2,e3,e4,e5,e6,Z1c]
 rw [L1,F2]
end Go.Ab

namespace Go.Ab.Bs
open Go.Ab.Wd
def bitAt(B:List Bool)(i:Nat):Bool:=B[i]?.getD false
theorem Zc2(B:List Bool)(i:Nat):onesTo B (i+1)=onesTo B i+if bitAt B i=true then 1 else 0:=by
 unfold onesTo bitAt
 rw [List.take_add_one]
 cases h:B[i]? with
 | none=>simp
 | some b=>cases b <;> simp
theorem Zi6(B:List Bool):onesTo B 0=0:=by simp [onesTo]
theorem Zcb(B:List Bool)(i:Nat):onesTo B i<=i:=by
 unfold onesTo; have:=QV id (B.take i); rw [Qz] at this; omega
theorem Zbp(B:List Bool)(i:Nat):onesTo B i<=B.length:=by
 unfold onesTo; have:=QV id (B.take i); rw [Qz] at this; omega
theorem Zhr(B:List Bool){i:Nat}(h:B.length<=i):onesTo B i=onesTo B B.length:=by
 unfold onesTo; rw [QC h,QC (Qe _)]
theorem Zi5(B:List Bool){i j:Nat}(h:i<=j):onesTo B i<=onesTo B j:=by
 induction j with
 | zero=>rw [show i=0 by omega]; exact Qe _
 | succ j ih=>
  by_cases c:i=j+1
  ·rw [c]; exact Qe _
  ·have:=ih (by omega); rw [Zc2]; omega
theorem Zga:∀ (s x:Nat),Pop.pop (s+1) x=Pop.pop s x+if x.testBit s=true then 1 else 0
 | 0,x=>by
  simp only [Pop.pop,QaD,Q0,Nat.testBit_zero]
  rcases Nat.mod_two_eq_zero_or_one x with h | h <;> simp [h]
 | s+1,x=>by
  rw [Pop.pop,Zga s (x / 2),Pop.pop,Nat.testBit_succ]; omega
structure WB (B:List Bool) (ws:List Int):Prop where
 len:ws.length=(B.length+63) / 64
 bit:∀ j:Nat,j<ws.length->∃ x:Nat,rd ws j=x/\x<2^64/\∀ b,b<64->x.testBit b=bitAt B (64*j+b)
theorem Zf5{B:List Bool}{x j:Nat}(h:∀ b,b<64->x.testBit b=bitAt B (64*j+b)):∀ s,s<=64->onesTo B (64*j+s)=onesTo B (64*j)+Pop.pop s x
 | 0,_=>by simp [Pop.pop]
 | s+1,hs=>by
  rw [<-Qas,Zc2,Zf5 h s (by omega),Zga,h s (by omega)]; omega
theorem Ztw{x s:Nat}:∀ t,Pop.pop t (x &&& (2^s-1))=Pop.pop (min t s) x
 | 0=>by simp [Pop.pop]
 | t+1=>by
  rw [Zga,Ztw t,QaK,QX]
  by_cases c:t<s
  ·rw [show min (t+1) s=min t s+1 by omega,Zga,show min t s=t by omega]; simp [c]
  ·rw [show min (t+1) s=min t s by omega]; simp [c]
structure AH (B:List Bool) (ws ah:List Int):Prop where
 len:ah.length=(ws.length+7) / 8
 val:∀ j:Nat,j<ah.length->rd ah j=(onesTo B (512*j):Nat)
theorem Zsr(x s:Nat):x.testBit s=decide (x / 2^s % 2=1):=Nat.testBit_eq_decide_div_mod_eq
theorem Zli(B:List Bool){i:Nat}(h:B.length<=i):zerosTo B i=zerosTo B B.length:=by
 unfold zerosTo; rw [Zhr B h]; omega
end Go.Ab.Bs

namespace Go.Ab
open Go Go.Proofs Go.Ab.Wd Go.Ab.Bs Go.Ab.Sai
section
variable {σ:Store} {b es o:Nat} {l:List AV}
theorem Zd{k:IntKind}{x:Int}(r:σ.Row b es l)(h:l[o]?=some (.int k x)):σ.ldInt k (QG (some (b,0)) o)=some x:=by
 simp only [Qah,QG,Q9,r.cell,Q0,h,if_true]
theorem Zg{x:Hdl}(r:σ.Row b es l)(h:l[o]?=some (.slice x)):σ.ldSl (QG (some (b,0)) o)=some x:=by
 simp only [QbE,QG,Q9,r.cell,Q0,h]
end
structure Vec (σ:Store) (p:Ptr) (B:List Bool):Prop where
 ex:∃ b hw ha ws ah,p=some (b,0)/\σ.Row b 4 [.int .i64 B.length,.slice hw,.slice ha,.int .i64 (onesTo B B.length:Nat)]/\Store.Nums .u64 σ hw ws/\σ.Ints ha ah/\WB B ws/\AH B ws ah
 small:B.length<2^30
theorem Vec.kp{σ σ':Store}{p:Ptr}{B:List Bool}(v:Vec σ p B)(k:Kp σ.objs.length σ σ'):Vec σ' p B:=by
 obtain⟨b,hw,ha,ws,ah,rfl,R,W,A,wb,ab⟩:=v.ex
 exact⟨⟨b,hw,ha,ws,ah,rfl,R.kp k R.lt,Store.Sl.kp W k,Store.Sl.kp A k,wb,ab⟩,v.small⟩
structure VecF (σ:Store) (p:Ptr) (B:List Bool) (F:Nat->Prop):Prop where
 ex:∃ b hw ha ws ah,p=some (b,0)/\σ.Row b 4 [.int .i64 B.length,.slice hw,.slice ha,.int .i64 (onesTo B B.length:Nat)]/\Store.Nums .u64 σ hw ws/\σ.Ints ha ah/\WB B ws/\AH B ws ah/\F b/\(∀ x,hw.row=some x->F x)/\∀ x,ha.row=some x->F x
 small:B.length<2^30
theorem VecF.vec{σ:Store}{p:Ptr}{B:List Bool}{F:Nat->Prop}(v:VecF σ p B F):Vec σ p B:=by
 obtain⟨b,hw,ha,ws,ah,rfl,R,W,A,wb,ab,_,_,_⟩:=v.ex
 exact⟨⟨b,hw,ha,ws,ah,rfl,R,W,A,wb,ab⟩,v.small⟩
theorem VecF.keep{σ σ':Store}{p:Ptr}{B:List Bool}{F:Nat->Prop}(v:VecF σ p B F)(k:∀ x,F x->σ'.objs[x]?=σ.objs[x]?):VecF σ' p B F:=by
 obtain⟨b,hw,ha,ws,ah,rfl,R,W,A,wb,ab,f1,f2,f3⟩:=v.ex
 exact⟨⟨b,hw,ha,ws,ah,rfl,(k b f1).trans R,W.keep fun c o e=>k c (f2 c (by simp [Hdl.row,e])),A.keep fun c o e=>k c (f3 c (by simp [Hdl.row,e])),wb,ab,f1,f2,f3⟩,v.small⟩
section
variable {σ:Store} {p:Ptr} {B:List Bool}
theorem Zih(v:Vec σ p B):Runs Qb 211 [.ptr p] σ (.int .i64 B.length) σ:=by
 obtain⟨b,hw,ha,ws,ah,rfl,R,W,A,wb,ab⟩:=v.ex
 have e0:=Zd R (o:=0) rfl
 refine rI Tryz.f211 (Ev.of fun k=>?_)
 rw [Z2p]
 simp only [stp,Qd,e0]
theorem Zrw(v:Vec σ p B):Runs Qb 223 [.ptr p] σ (.int .i64 (onesTo B B.length:Nat)) σ:=by
 obtain⟨b,hw,ha,ws,ah,rfl,R,W,A,wb,ab⟩:=v.ex
 have e0:=Zd R (o:=3) rfl
 refine rI Tryz.f223 (Ev.of fun k=>?_)
 rw [Z2s]
 simp only [stp,Qd,e0]
theorem Zhe{i:Int}(h0:0<=i)(h1:i<2^62):Qa .i64 (Qbm i 64)=(i.toNat / 64:Nat)/\QaX i 64=(i.toNat % 64:Nat):=by
 rw [Qq h0,QE h0,Za (by omega) (by omega)]
 omega
theorem Zy5(v:Vec σ p B)(i:Int):Runs Qb 139 [.ptr p,.int .i64 i] σ (.bool (decide (0<=i)&&bitAt B i.toNat)) σ:=by
 obtain⟨b,hw,ha,ws,ah,rfl,R,W,A,wb,ab⟩:=v.ex
 have sm:=v.small
 have e0:=Zd R (o:=0) rfl
 have e1:=Zg R (o:=1) rfl
 refine rI Tryz.f139 (Ev.of fun k=>?_)
 rw [Z16]
 by_cases c0:0<=i
 ·by_cases c1:i<B.length
  ·obtain⟨d1,d2⟩:=Zhe c0 (by omega)
   have lw:=Zak W
   have wl:=wb.len
   have j1:i.toNat / 64<ws.length:=by omega
   obtain⟨x,x1,x2,x3⟩:=wb.bit _ j1
   have rx:=Zdt W (i:=(i.toNat / 64:Nat)) (by omega) (by omega)
   have c2:(0:Int)<=(i.toNat / 64:Nat):=by omega
   have c3:((i.toNat / 64:Nat):Int)<hw.len:=by omega
   have c4:(0:Int)<=(i.toNat % 64:Nat):=by omega
   have q1:shrI .u64 (x:Int) (i.toNat % 64:Nat)=((x / 2^(i.toNat % 64):Nat):Int):=Zal (by omega)
   have q2:x / 2^(i.toNat % 64)<2^64:=Qae (Q4 _ _) x2
   have q3:bitOp .and .u64 ((x / 2^(i.toNat % 64):Nat):Int) 1=((x / 2^(i.toNat % 64) % 2:Nat):Int):=by
    rw [<-Qbi]; exact Zbm (b:=1) (by omega) (by omega)
   have hb:=x3 (i.toNat % 64) (by omega)
   rw [Zsr,show 64*(i.toNat / 64)+i.toNat % 64=i.toNat by omega] at hb
   simp only [stp,Qd,e0,e1,c0,c1,d1,d2,c2,c3,c4,rx,x1,q1,q3,<-hb]
   have:((x / 2^(i.toNat % 64) % 2:Nat):Int)=1 ↔ x / 2^(i.toNat % 64) % 2=1:=by omega
   simp only [this]
  ·have:bitAt B i.toNat=false:=by unfold bitAt; rw [QH (by omega)]; rfl
   simp only [stp,Qd,e0,c0,c1,this]
 ·simp only [stp,Qd,c0]
theorem Zem(v:Vec σ p B)(i:Int):Runs Qb 56 [.ptr p,.int .i64 i] σ (.int .i64 (onesTo B i.toNat:Nat)) σ:=by
 obtain⟨b,hw,ha,ws,ah,rfl,R,W,A,wb,ab⟩:=v.ex
 have sm:=v.small
 have e0:=Zd R (o:=0) rfl
 have e1:=Zg R (o:=1) rfl
 have e2:=Zg R (o:=2) rfl
 have e3:=Zd R (o:=3) rfl
 by_cases c0:i<=0
 ·refine rI Tryz.f56 (Ev.of fun k=>?_)
  rw [Zp5]
  simp only [stp,Qd,c0]
  rw [show i.toNat=0 by omega,Zi6]; rfl
 by_cases c1:(B.length:Int)<=i
 ·refine rI Tryz.f56 (Ev.of fun k=>?_)
  rw [Zp5]
  simp only [stp,Qd,c0,e0,c1,e3]
  rw [Zhr B (i:=i.toNat) (by omega)]
 obtain⟨d1,d2⟩:=Zhe (i:=i) (by omega) (by omega)
 obtain⟨w,hw_⟩:∃ w,w=i.toNat / 64:=⟨_,rfl⟩
 rw [<-hw_] at d1
 have lw:=Zak W
 have la:=A.ilen
 have wl:=wb.len
 have al:=ab.len
 have d3:Qa .i64 (Qbm (w:Nat) 8)=(w / 8:Nat):=by
  rw [Qq (by omega),Za (by omega) (by omega)]; omega
 have d4:Qa .i64 ((w / 8:Nat)*8)=(w / 8*8:Nat):=by
  rw [Za (by omega) (by omega)]; omega
 have ra:=A.rd (i:=(w / 8:Nat)) (by omega) (by omega)
 rw [ab.val _ (by omega)] at ra
 obtain⟨r,e,rfl⟩:=EvI.up (f:=fun k s=>Qam Qb (gm Qb k) QO k Tryz.f56 [1,1,1,1,1,0,1,0] [7,6,5,1,0] s) (w-w / 8*8)
  (fun t s=>s=([.int .i64 (w / 8*8+t:Nat),.int .i64 (onesTo B (64*(w / 8*8+t)):Nat),.int .i64 (w:Nat),.int .i64 i,.ptr (some (b,0))],σ))
  (fun r=>r=(Qw 0,[(6,.int .i64 (onesTo B (64*w):Nat)),(5,.int .i64 (w:Nat)),(1,.int .i64 i),(0,.ptr (some (b,0)))],σ))
  (by
   rintro t s ht rfl
   obtain⟨j,hj⟩:∃ j,j=w / 8*8+t:=⟨_,rfl⟩
   rw [<-hj,show w / 8*8+(t+1)=j+1 by omega]
   have j0:(0:Int)<=j:=by omega
   have j1:(j:Int)<w:=by omega
   have j2:(j:Int)<hw.len:=by omega
   obtain⟨x,x1,x2,x3⟩:=wb.bit j (by omega)
   have rx:=Zdt W (i:=(j:Int)) (by omega) (by omega)
   obtain⟨n3,r3⟩:=Zeq σ x2
   have op:=Zf5 x3 64 (Qe _)
   have ol:=Zcb B (64*j)
   have pl:=Pop.pop_le 64 x
   have w1:Qa .i64 ((onesTo B (64*j):Nat)+(Pop.pop 64 x:Nat))=(onesTo B (64*(j+1)):Nat):=by
    rw [Za (by omega) (by omega),show 64*(j+1)=64*j+64 by omega,op]; omega
   have w2:Qa .i64 ((j:Int)+1)=((j+1:Nat):Int):=by rw [Za (by omega) (by omega)]; omega
   refine⟨([.int .i64 (j+1:Nat),.int .i64 (onesTo B (64*(j+1)):Nat),.int .i64 (w:Nat),.int .i64 i,.ptr (some (b,0))],σ),⟨n3,fun k hk=>?_⟩,rfl⟩
   have r3:=r3 k hk
   simp only at r3
   simp only [Zgk]
   simp only [stp,j0,j1,j2,e1,rx,x1,r3,w1,w2])
  (by
   rintro s rfl
   rw [show w / 8*8+(w-w / 8*8)=w by omega]
   exact⟨_,Ev.of fun k=>by simp only [Zgk]; simp only [stp,Qv],rfl⟩)
  (s:=([.int .i64 (w / 8*8:Nat),.int .i64 (onesTo B (512*(w / 8)):Nat),.int .i64 (w:Nat),.int .i64 i,.ptr (some (b,0))],σ)) (by rw [show 64*(w / 8*8+0)=512*(w / 8) by omega]; rfl)
 obtain⟨n1,e⟩:=Zc e
 obtain⟨x,x1,x2,x3⟩:=wb.bit w (by omega)
 have rx:=Zdt W (i:=(w:Int)) (by omega) (by omega)
 have hs:i.toNat % 64<64:=Q2 _ (by omega)
 have p2:2^(i.toNat % 64)<=2^63:=Qh (by omega) (by omega)
 have p1:1<=2^(i.toNat % 64):=Qbj
 have q1:Qa .u64 (shlI .u64 1 (i.toNat % 64:Nat)-1)=((2^(i.toNat % 64)-1:Nat):Int):=by
  have eb:IntKind.u64.bits=64:=by decide
  unfold shlI
  rw [eb,Qc,Qs (by omega),Qb3]
  have:((2:Int)^(i.toNat % 64))=((2^(i.toNat % 64):Nat):Int):=by simp
  rw [this,Zx (x:=((2^(i.toNat % 64):Nat):Int)) (by omega) (by omega),Zx (by omega) (by omega)]; omega
 have q2:bitOp .and .u64 (x:Int) ((2^(i.toNat % 64)-1:Nat):Int)=((x &&& (2^(i.toNat % 64)-1):Nat):Int):=Zbm (by omega) (by omega)
 obtain⟨n2,r2⟩:=Zeq σ (x:=x &&& (2^(i.toNat % 64)-1)) (Qae QbA x2)
 have pl:=Ztw (x:=x) (s:=i.toNat % 64) 64
 rw [Qbv (by omega)] at pl
 have op:=Zf5 x3 (i.toNat % 64) (by omega)
 have ol:=Zcb B i.toNat
 rw [show 64*w+i.toNat % 64=i.toNat by omega] at op
 have w1:Qa .i64 ((onesTo B (64*w):Nat)+(Pop.pop 64 (x &&& (2^(i.toNat % 64)-1)):Nat))=(onesTo B i.toNat:Nat):=by
  rw [pl,Za (by omega) (by omega),op]; omega
 have c2:(0:Int)<=(w / 8:Nat):=by omega
 have c3:((w / 8:Nat):Int)<ha.len:=by omega
 have c4:(0:Int)<=(w:Nat):=by omega
 have c5:((w:Nat):Int)<hw.len:=by omega
 have c6:(0:Int)<=(i.toNat % 64:Nat):=by omega
 refine rI Tryz.f56 ⟨n1+n2,fun k hk=>?_⟩
 have e:=e k (by omega)
 have r2:=r2 k (by omega)
 simp only at e r2
 simp only [Zp5]
 simp only [stp,Qd,c0,e0,c1,e2,d1,d3,d4,c2,c3,ra,e]
 rw [Zkc]
 simp only [stp,e1,c4,c5,rx,x1,d2,c6,q1,q2,r2,w1]
theorem Zbw(a b:Int):mn2 a b=min a b:=by unfold mn2; split <;> omega
theorem Zbx(a b:Int):mx2 a b=max a b:=by unfold mx2; split <;> omega
theorem Zdc(v:Vec σ p B)(i:Int):Runs Qb 224 [.ptr p,.int .i64 i] σ (.int .i64 (zerosTo B i.toNat:Nat)) σ:=by
 obtain⟨n1,r1⟩:=Zih v
 obtain⟨n2,r2⟩:=Zem v i
 have sm:=v.small
 have ol:=Zcb B i.toNat
 have ol2:=Zbp B i.toNat
 have w1:Qa .i64 (mx2 (Qbw 0) (mn2 i B.length)-(onesTo B i.toNat:Nat))=(zerosTo B i.toNat:Nat):=by
  have:mx2 (Qbw 0) (mn2 i B.length)=(min i.toNat B.length:Nat):=by rw [Zbw,Zbx]; simp only [QZ]; omega
  unfold zerosTo
  rw [this,Za (by omega) (by omega)]; omega
 refine rI Tryz.f224 ⟨n1+n2,fun k hk=>?_⟩
 have r1:=r1 k (by omega)
 have r2:=r2 k (by omega)
 simp only at r1 r2
 simp only [Z2t]
 simp only [stp,r1,r2,w1]
theorem Zjh(v:Vec σ p B)(i:Int)(one:Bool):Runs Qb 228 [.ptr p,.int .i64 i,.bool one] σ (.int .i64 (goto B i.toNat one:Nat)) σ:=by
 obtain⟨n1,r1⟩:=Zih v
 obtain⟨n2,r2⟩:=Zdc v B.length
 obtain⟨n3,r3⟩:=Zem v i
 obtain⟨n4,r4⟩:=Zdc v i
 have sm:=v.small
 have ol2:=Zbp B i.toNat
 refine rI Tryz.f228 ⟨n1+n2+n3+n4,fun k hk=>?_⟩
 have r1:=r1 k (by omega)
 have r2:=r2 k (by omega)
 have r3:=r3 k (by omega)
 have r4:=r4 k (by omega)
 simp only [Qc] at r1 r2 r3 r4
 simp only [Z2w]
 cases one with
 | false=>simp only [stp,r4,goto]
 | true=>
  have w1:Qa .i64 ((zerosTo B B.length:Nat)+(onesTo B i.toNat:Nat))=(zerosTo B B.length+onesTo B i.toNat:Nat):=by
   have:zerosTo B B.length<=B.length:=by unfold zerosTo; omega
   rw [Za (by omega) (by omega)]; omega
  simp only [stp,r1,r2,r3,w1,goto]
end
end Go.Ab

namespace Go.Ab
open Go Go.Proofs Go.Ab.Wd Go.Ab.Bs Go.Ab.Sai
theorem Zdj{σ:Store}{h:Hdl}{l:List AV}{bs:Nat}(s:σ.Sl h 1 l)(hp:σ.prot<=σ.objs.length)(ho:l.all AV.one=true)(hb:0<bs)(hc:l.length*bs<=140737488355328) :
  ∃ h' σ',Kp σ.objs.length σ σ'/\Grow σ' σ.objs.length h' 1 l /\
   (if QbJ (Hdl.a h)=true then some (.slice Q3,σ) else Qb4 (QaE (σ.push [] 1) h 1) fun x=>Qb4 (Store.app (σ.push [] 1) ⟨some (σ.objs.length,0),0,some 0⟩ 1 bs x h.len) fun y=>some (QaY y.1,y.2))=some (QaY h',σ'):=by
 by_cases c:QbJ (Hdl.a h)=true
 ·rw [if_pos c]
  have hl:l=[]:=by
   have hlen:=s.len
   rcases s.row with h0 | ⟨b,o,cs,rw,e,_⟩
   ·rw [h0] at hlen; exact Qa8.1 (by omega)
   ·rw [e] at c; cases c
  subst hl
  exact⟨Hdl.nil,σ,Kp.refl _ _,Grow.nil _ _ _,rfl⟩
 ·rw [if_neg c]
  obtain⟨h',σ',e1,e2,k,g⟩:=Zzh s hp ho hb hc
  exact⟨h',σ',k,g,by rw [e1,Qj,e2]; rfl⟩
theorem Zul{σ:Store}{h:Hdl}{l:List Int}(s:Store.Nums .u64 σ h l)(hp:σ.prot<=σ.objs.length)(hc:l.length<2^40) :
  ∃ h' σ',Runs Qb 221 [.slice h] σ (.slice h') σ'/\Kp σ.objs.length σ σ'/\GrowN .u64 σ' σ.objs.length h' l:=by
 obtain⟨h',σ',k,g,e⟩:=Zdj (bs:=8) s hp (Znp _ _) (by omega) (by simp; omega)
 exact⟨h',σ',rI Tryz.f221 (Ev.of fun m=>by rw [Z2r]; exact e),k,g⟩
theorem Zft{σ:Store}{h:Hdl}{l:List Int}(s:σ.Ints h l)(hp:σ.prot<=σ.objs.length)(hc:l.length<2^40) :
  ∃ h' σ',Runs Qb 130 [.slice h] σ (.slice h') σ'/\Kp σ.objs.length σ σ'/\GrowI σ' σ.objs.length h' l:=by
 obtain⟨h',σ',k,g,e⟩:=Zdj (bs:=8) s hp (Zhi _) (by omega) (by simp; omega)
 exact⟨h',σ',rI Tryz.f130 (Ev.of fun m=>by rw [Z10]; exact e),k,g⟩
def ptrsL(l:List Ptr):List AV:=l.map AV.ptr
@[simp] theorem ptrsL_length (l:List Ptr):(ptrsL l).length=l.length:=by simp [ptrsL]
theorem Zyb(l:List Ptr):(ptrsL l).all AV.one=true:=by simp [ptrsL,AV.one]
theorem Zuk{σ:Store}{h:Hdl}{l:List Ptr}(s:σ.Sl h 1 (ptrsL l))(hp:σ.prot<=σ.objs.length)(hc:l.length<2^40) :
  ∃ h' σ',Runs Qb 110 [.slice h] σ (.slice h') σ'/\Kp σ.objs.length σ σ'/\Grow σ' σ.objs.length h' 1 (ptrsL l):=by
 obtain⟨h',σ',k,g,e⟩:=Zdj (bs:=8) s hp (Zyb _) (by omega) (by simp; omega)
 exact⟨h',σ',rI Tryz.f110 (Ev.of fun m=>by rw [Z1p]; exact e),k,g⟩
structure Pk (σ:Store) (L:Nat) (B:List Bool):Prop where
 ex:∃ ws,σ.Row L 1 (numsL .u64 ws)/\WB B ws
 row:σ.Row (L+1) 3 [.int .i64 1,.int .i64 B.length,.slice (hdS L ((B.length+63) / 64))]
theorem Z0b(σ:Store){n:Nat}(hn:n<2^40):Runs Qb 177 [.int .i64 1,.int .i64 n] σ (.int .i64 ((n+63) / 64:Nat)) σ:=by
 refine rI Tryz.f177 (Ev.of fun k=>?_)
 rw [Zs9,Qb3,Za (x:=(n:Int)) (by omega) (by omega),Za (x:=(n:Int)+63) (by omega) (by omega),Qq (by omega),Za (by omega) (by omega)]
 congr 3
theorem Zz9(σ:Store):Runs Qb 179 [.int .i64 1] σ (.int .u64 1) σ:=by
 refine rI Tryz.f179 (Ev.of fun k=>?_)
 have w:Qa .i64 (64-1)=63:=by decide
 have e:shrI .u64 18446744073709551615 63=1:=(Zal (a:=18446744073709551615) (s:=63) (by omega)).trans (by decide)
 have c:(0:Int)<=63:=by omega
 rw [Zta]
 simp only [w,e,c,if_true]
theorem Zdg(n:Nat)(j:Nat):rd (Ql n (0:Int)) j=0:=by
 unfold rd; simp [List.getD,Qa9]; split <;> rfl
theorem Ze9{σ:Store}{n:Nat}(hn:n<=4194304):∃ σ',Runs Qb 125 [.int .i64 1,.int .i64 n] σ (.tuple [.ptr (some (σ.objs.length+1,0)),.int .i64 0]) σ'/\Kp σ.objs.length σ σ'/\σ'.objs.length=σ.objs.length+2/\Pk σ' σ.objs.length (Ql n false):=by
 obtain⟨k1,r1⟩:=Z0b σ (n:=n) (by omega)
 have c1:¬ (1:Int)<1:=by omega
 have c2:¬ (64:Int)<1:=by omega
 have c3:¬ (n:Int)<0:=by omega
 have c4:¬ (4194304:Int)<n:=by omega
 have c5:(0:Int)<=((n+63) / 64:Nat):=by omega
 have c6:(((n+63) / 64:Nat):Int)*((8:Nat):Int)<=281474976710656:=by omega
 refine⟨(σ.push (mkCells [.int .u64 0] ((n+63) / 64)) 1).push [.int .i64 1,.int .i64 n,.slice (hdS σ.objs.length ((n+63) / 64))] 3,rI Tryz.f125 ⟨k1,fun k hk=>?_⟩,?_,by simp,⟨⟨List.replicate ((n+63) / 64) 0,?_,?_⟩,?_⟩⟩
 ·have r1:=r1 k hk
  simp only at r1
  simp only [Zs1]
  simp only [stp,c1,c2,c3,c4,r1,c5,c6,Qat,Qc]
  simp [hdS]
 ·exact (Kp.push _ _ (Qe _)).push' (by simp)
 ·rw [<-Zi4]; exact Store.Row.new.push
 ·refine⟨by simp,fun j hj=>⟨0,Zdg _ _,by omega,fun b hb=>?_⟩⟩
  simp [bitAt,Qa9]
  split <;> rfl
 ·have:=(Store.Row.new:((σ.push (mkCells [.int .u64 0] ((n+63) / 64)) 1).push [.int .i64 1,.int .i64 n,.slice (hdS σ.objs.length ((n+63) / 64))] 3).Row _ 3 _)
  simpa using this
theorem Z5m{x s:Nat}(hx:x<2^64)(hs:s<64):∃ z:Nat,bitOp .or .u64 (bitOp .andNot .u64 (x:Int) ((2^s:Nat):Int)) ((2^s:Nat):Int)=z/\z<2^64/\∀ b,b<64->z.testBit b=(x.testBit b || decide (b=s)):=by
 have p2:2^s<2^64:=Nat.pow_lt_pow_right (by omega) hs
 obtain⟨u,hu⟩:∃ u,u=(BitVec.ofNat 64 x &&& ~~~BitVec.ofNat 64 (2^s)).toNat:=⟨_,rfl⟩
 have ul:u<2^64:=by rw [hu]; exact BitVec.isLt _
 have e1:bitOp .andNot .u64 (x:Int) ((2^s:Nat):Int)=(u:Int):=by
  show Qa .u64 (BitVec.ofInt 64 (x:Int) &&& ~~~BitVec.ofInt 64 ((2^s:Nat):Int)).toNat=_
  rw [BitVec.ofInt_natCast,BitVec.ofInt_natCast,<-hu,Zx (by omega) (by omega)]
 refine⟨u ||| 2^s,by rw [e1,Zk2 (by omega) (by omega)],QW ul p2,fun b hb=>?_⟩
 rw [Qa1,Qbc,hu,BitVec.testBit_toNat,BitVec.getLsbD_and,BitVec.getLsbD_not,BitVec.getLsbD_ofNat,BitVec.getLsbD_ofNat,Qbc]
 by_cases c:s=b
 ·subst c; simp
 ·have c':¬ b=s:=fun h=>c h.symm
  simp [c,c',hb]
theorem Bs.WB.set{B:List Bool}{ws:List Int}(w:WB B ws){i:Nat}(hi:i<B.length){x z:Nat}(hx:rd ws (i / 64:Nat)=x)(hz:z<2^64)(hb:∀ b,b<64->z.testBit b=(x.testBit b || decide (b=i % 64))) :
  WB (B.set i true) (ws.set (i / 64) (z:Int)):=by
 refine⟨by simpa using w.len,fun j hj=>?_⟩
 rw [QK] at hj
 obtain⟨y,y1,y2,y3⟩:=w.bit j hj
 by_cases c:j=i / 64
 ·subst c
  have exy:x=y:=by omega
  subst exy
  refine⟨z,?_,hz,fun b hb'=>?_⟩
  ·rw [Zb (by simpa using hj)]; simp
  ·rw [hb b hb',y3 b hb']
   unfold bitAt
   rw [Qk]
   by_cases c:b=i % 64
   ·rw [if_pos (by omega),if_pos (by omega)]; simp [c]
   ·rw [if_neg (by omega)]; simp [c]
 ·refine⟨y,?_,y2,fun b hb'=>?_⟩
  ·rw [Zb (show j<(ws.set (i / 64) (z:Int)).length by rw [QK]; exact hj),List.getElem_set_ne (by omega),<-Zb hj]; exact y1
  ·rw [y3 b hb']
   unfold bitAt
   rw [Qk,if_neg (by omega)]
theorem Zmr{σ:Store}{L:Nat}{B:List Bool}(P:Pk σ L B)(hp:σ.prot<=L){i:Nat}(hi:i<B.length)(hn:B.length<2^30) :
  ∃ σ',Runs Qb 127 [.ptr (some (L+1,0)),.int .i64 i,.int .u64 1] σ (.bool true) σ'/\Kp L σ σ'/\Off L σ σ'/\Pk σ' L (B.set i true):=by
 obtain⟨ws,W,wb⟩:=P.ex
 have R:=P.row
 have e0:=Zd R (o:=0) rfl
 have e1:=Zd R (o:=1) rfl
 have e2:=Zg R (o:=2) rfl
 obtain⟨km,rm⟩:=Zz9 σ
 have wl:=wb.len
 obtain⟨d1,d2⟩:=Zhe (i:=(i:Int)) (by omega) (by omega)
 rw [Qc] at d1 d2
 obtain⟨x,x1,x2,x3⟩:=wb.bit (i / 64) (by omega)
 obtain⟨z,z1,z2,z3⟩:=Z5m (s:=i % 64) x2 (Q2 _ (by omega))
 have rx:=Zeg W (i:=(i / 64:Nat)) (len:=(B.length+63) / 64) (cp:=some ((B.length+63) / 64)) (by omega) (by omega)
 have st:=Zms (x:=(z:Int)) (len:=(B.length+63) / 64) (cp:=some ((B.length+63) / 64)) W hp (i:=(i / 64:Nat)) (by omega) (by omega)
 rw [Qc] at st
 have p2:2^(i % 64)<=2^63:=Qh (by omega) (by omega)
 have p1:1<=2^(i % 64):=Qbj
 have q1:shlI .u64 1 (i % 64:Nat)=((2^(i % 64):Nat):Int):=by
  have eb:IntKind.u64.bits=64:=by decide
  unfold shlI
  rw [eb,Qc,Qs (by omega),Qb3]
  have:((2:Int)^(i % 64))=((2^(i % 64):Nat):Int):=by simp
  rw [this,Zx (by omega) (by omega)]
 have w1:Qa .i64 ((i:Int)*1)=i:=by rw [Int.mul_one,Za (by omega) (by omega)]
 have w2:¬ (64:Int)<Qa .i64 ((i % 64:Nat)+1):=by rw [Za (by omega) (by omega)]; omega
 have c0:¬ (i:Int)<0:=by omega
 have c1:¬ (B.length:Int)<=i:=by omega
 have c2:¬ (1:Int)<1:=by omega
 have c3:(0:Int)<=(i / 64:Nat):=by omega
 have c4:((i / 64:Nat):Int)<((B.length+63) / 64:Nat):=by omega
 have c5:(0:Int)<=(i % 64:Nat):=by omega
 obtain⟨σ',hσ⟩:∃ s,s=σ.setO L (.cells (numsL .u64 (ws.set (i / 64) (z:Int))) true 1):=⟨_,rfl⟩
 have R':σ'.Row (L+1) 3 [.int .i64 1,.int .i64 B.length,.slice (hdS L ((B.length+63) / 64))]:=by rw [hσ]; exact R.setO_ne (by omega)
 have e0':=Zd R' (o:=0) rfl
 refine⟨σ',rI Tryz.f127 ⟨km,fun k hk=>?_⟩,?_,?_,⟨⟨ws.set (i / 64) (z:Int),?_,wb.set hi x1 z2 z3⟩,by simpa using R'⟩⟩
 ·have rm:=rm k hk
  simp only at rm
  simp only [Zlt]
  simp only [stp,Qd,c0,e1,c1,e0,rm,c2,e2,w1,d1,d2,c3,c4,rx,x1,c5,q1,z1,st,<-hσ,e0',w2]
 ·rw [hσ]; exact (Kp.refl _ _).setO (Qe _)
 ·rw [hσ]; exact⟨rfl,setO_len,fun c hc=>by show (σ.objs.set L _)[c]?=_; rw [Qk,if_neg (by omega)]⟩
 ·rw [hσ]; exact Store.Row.setO_eq W.lt
end Go.Ab

namespace Go.Ab
open Go Go.Proofs Go.Ab.Wd Go.Ab.Bs Go.Ab.Sai
theorem Zn{Γ:Gam}{g:Fun}{args:List AV}{v:AV}{σ:Store}(h:Γ g args { σ with prot:=σ.objs.length }=some (v,{ σ with prot:=σ.objs.length })):callG Γ true g args σ=some (v,σ):=by
 unfold callG; simp only []; rw [h]; rfl
theorem Zw{σ:Store}{b es o:Nat}{l:List AV}(r:σ.Row b es l)(hp:σ.prot<=b)(h1:o<l.length){v:AV}(hv:v.one=true) :
  σ.stL (QG (some (b,0)) o) [v] 0=some (σ.setO b (.cells (l.set o v) true es)):=by
 have:=Zt7 r hp h1 hv
 simpa [QG] using this
def aheads(B:List Bool)(i:Nat):List Int:=(QN ((i+7) / 8)).map fun j=>(onesTo B (512*j):Nat)
theorem Zge(B:List Bool)(i:Nat):(aheads B i).length=(i+7) / 8:=by simp [aheads]
theorem Zub(B:List Bool){i:Nat}(h:i % 8=0):aheads B (i+1)=aheads B i++[((onesTo B (64*i):Nat):Int)]:=by
 unfold aheads
 rw [show (i+1+7) / 8=(i+7) / 8+1 by omega,QaL,Qx]
 simp only [Qbh,List.map_nil]
 rw [show 512*((i+7) / 8)=64*i by omega]
theorem Zrz(B:List Bool){i:Nat}(h:i % 8≠0):aheads B (i+1)=aheads B i:=by
 unfold aheads
 rw [show (i+1+7) / 8=(i+7) / 8 by omega]
theorem Zfa{σ:Store}{L:Nat}{B:List Bool}(P:Pk σ L B)(hp:σ.prot<=σ.objs.length)(hn:B.length<2^30) :
  ∃ p σ',Runs Qb 128 [.ptr (some (L+1,0))] σ (.tuple [.ptr p,.int .i64 0]) σ'/\Kp σ.objs.length σ σ'/\VecF σ' p B (fun x=>σ.objs.length<=x/\x<σ'.objs.length):=by
 obtain⟨ws,W,wb⟩:=P.ex
 have R:=P.row
 have wl:=wb.len
 have e0:=Zd R (o:=0) rfl
 have e1:=Zd R (o:=1) rfl
 have e2:=Zg R (o:=2) rfl
 obtain⟨k1,r1⟩:Runs Qb 180 [.ptr (some (L+1,0))] σ (.int .i64 1) σ:=
  rI Tryz.f180 (Ev.of fun k=>by rw [Z2f]; simp only [stp,Qd,e0])
 obtain⟨k2,r2⟩:Runs Qb 181 [.ptr (some (L+1,0))] σ (.int .i64 B.length) σ:=
  rI Tryz.f181 (Ev.of fun k=>by rw [Z2g]; simp only [stp,Qd,e1])
 have Wn:Store.Nums .u64 σ (hdS L ((B.length+63) / 64)) ws:=Zrj W (by omega)
 obtain⟨hw,σ2,⟨k3,r3⟩,K2,g2⟩:=Zul Wn hp (by omega)
 have hp2:σ2.prot<=σ2.objs.length:=by rw [K2.prot]; have:=K2.len; omega
 obtain⟨k4,r4⟩:Runs Qb 182 [.ptr (some (L+1,0))] σ (.slice hw) σ2:=
  rI Tryz.f182 ⟨k3,fun k hk=>by
   have r3:=r3 k hk
   simp only at r3
   simp only [Z2h]; simp only [stp,Qd,e2,r3]⟩
 obtain⟨b,hb⟩:∃ b,b=σ2.objs.length:=⟨_,rfl⟩
 obtain⟨σ3,h3⟩:∃ s,s=σ2.push [.int .i64 B.length,.slice hw,.slice Q3,.int .i64 0] 4:=⟨_,rfl⟩
 have K3:Kp b σ2 σ3:=by rw [h3,hb]; exact Kp.push _ _ (Qe _)
 have R3:σ3.Row b 4 [.int .i64 B.length,.slice hw,.slice Q3,.int .i64 0]:=by rw [h3,hb]; exact Store.Row.new
 have f1:=Zg R3 (o:=1) rfl
 have lw:=Zak g2.nums
 have l3:b+1<=σ3.objs.length:=R3.lt
 obtain⟨r,e,σ4,ha,rfl,K4,R4,g4⟩:=EvI.up (f:=fun k s=>Qam Qb (gm Qb k) QO k Tryz.f128 [1,1,1,0,1,0] [25,24,23,4] s) ws.length
  (fun i s=>∃ s1 ha,s=([.int .i64 i,.int .i64 ws.length,.slice hw,.ptr (some (b,0))],s1)/\Kp b σ2 s1/\s1.Row b 4 [.int .i64 B.length,.slice hw,.slice ha,.int .i64 (onesTo B (64*i):Nat)]/\GrowI s1 (b+1) ha (aheads B i))
  (fun r=>∃ s1 ha,r=(Qw 1,[(4,.ptr (some (b,0)))],s1)/\Kp b σ2 s1/\s1.Row b 4 [.int .i64 B.length,.slice hw,.slice ha,.int .i64 (onesTo B (64*ws.length):Nat)]/\GrowI s1 (b+1) ha (aheads B ws.length))
  (by
   rintro i s hi ⟨s1,ha,rfl,kk,rr,g⟩
   have i0:(0:Int)<=i:=by omega
   have i1:(i:Int)<ws.length:=by omega
   have i2:(i:Int)<hw.len:=by omega
   have w:=Zq hi (by omega)
   have hps:s1.prot<=b:=by rw [kk.prot,hb]; exact hp2
   have rx:=Zdt (Store.Sl.kp g2.nums (hb ▸ kk)) i0 i1
   obtain⟨x,x1,x2,x3⟩:=wb.bit i hi
   have op:=Zf5 x3 64 (Qe _)
   have ol:=Zcb B (64*i)
   have pl:=Pop.pop_le 64 x
   have w1:Qa .i64 ((onesTo B (64*i):Nat)+(Pop.pop 64 x:Nat))=(onesTo B (64*(i+1)):Nat):=by
    rw [Za (by omega) (by omega),show 64*(i+1)=64*i+64 by omega,op]; omega
   have q2:=Zg rr (o:=2) rfl
   have q3:=Zd rr (o:=3) rfl
   by_cases c:i % 8=0
   ·have c':QaX (i:Int) 8=0:=by rw [QE i0]; omega
    obtain⟨h',s2,e2,k2,g2'⟩:=g.app (by omega) rr.lt (onesTo B (64*i):Nat) (by rw [Zge]; omega)
    have rr2:=rr.kp k2 (Qaa b)
    have p2:s2.prot<=b:=by rw [k2.prot]; exact hps
    have t1:=Zw rr2 p2 (o:=2) (by simp) (v:=.slice h') rfl
    obtain⟨s3,hs3⟩:∃ s,s=s2.setO b (.cells ([.int .i64 B.length,.slice hw,.slice ha,.int .i64 (onesTo B (64*i):Nat)].set 2 (.slice h')) true 4):=⟨_,rfl⟩
    rw [<-hs3] at t1
    have rr3:s3.Row b 4 [.int .i64 B.length,.slice hw,.slice h',.int .i64 (onesTo B (64*i):Nat)]:=by rw [hs3]; exact Store.Row.setO_eq rr2.lt
    have q4:=Zd rr3 (o:=3) rfl
    have p3:s3.prot<=b:=by rw [hs3]; exact p2
    have t2:=Zw rr3 p3 (o:=3) (by simp) (v:=.int .i64 (onesTo B (64*(i+1)):Nat)) rfl
    obtain⟨s4,hs4⟩:∃ s,s=s3.setO b (.cells ([.int .i64 B.length,.slice hw,.slice h',.int .i64 (onesTo B (64*i):Nat)].set 3 (.int .i64 (onesTo B (64*(i+1)):Nat))) true 4):=⟨_,rfl⟩
    rw [<-hs4] at t2
    obtain⟨n5,r5⟩:=Zeq { s3 with prot:=s3.objs.length } x2
    refine⟨([.int .i64 (i+1:Nat),.int .i64 ws.length,.slice hw,.ptr (some (b,0))],s4),⟨n5,fun k hk=>?_⟩,s4,h',rfl,?_,?_,?_⟩
    ·have r5:=r5 k hk
     simp only at r5
     have r6:=Zn r5
     simp only [Zd2]
     simp only [stp,i0,i1,i2,rx,x1,c',q2,q3,Zbf,e2,t1,q4,r6,w1,t2,w]
    ·rw [hs4,hs3]; exact ((kk.trans (k2.mono (by omega))).setO (Qe _)).setO (Qe _)
    ·rw [hs4]; exact Store.Row.setO_eq rr3.lt
    ·rw [Zub B c,hs4,hs3]; exact (g2'.setO (Qaa b)).setO (Qaa b)
   ·have c':¬ QaX (i:Int) 8=0:=by rw [QE i0]; omega
    have t2:=Zw rr hps (o:=3) (by simp) (v:=.int .i64 (onesTo B (64*(i+1)):Nat)) rfl
    obtain⟨s4,hs4⟩:∃ s,s=s1.setO b (.cells ([.int .i64 B.length,.slice hw,.slice ha,.int .i64 (onesTo B (64*i):Nat)].set 3 (.int .i64 (onesTo B (64*(i+1)):Nat))) true 4):=⟨_,rfl⟩
    rw [<-hs4] at t2
    obtain⟨n5,r5⟩:=Zeq { s1 with prot:=s1.objs.length } x2
    refine⟨([.int .i64 (i+1:Nat),.int .i64 ws.length,.slice hw,.ptr (some (b,0))],s4),⟨n5,fun k hk=>?_⟩,s4,ha,rfl,?_,?_,?_⟩
    ·have r5:=r5 k hk
     simp only at r5
     have r6:=Zn r5
     simp only [Zd2]
     simp only [stp,i0,i1,i2,rx,x1,c',q3,r6,w1,t2,w]
    ·rw [hs4]; exact kk.setO (Qe _)
    ·rw [hs4]; exact Store.Row.setO_eq rr.lt
    ·rw [Zrz B c,hs4]; exact g.setO (Qaa b))
  (by
   rintro s ⟨s1,ha,rfl,kk,rr,g⟩
   exact⟨(Qw 1,[(4,.ptr (some (b,0)))],s1),Ev.of fun k=>by simp only [Zd2]; simp only [stp,Qv],s1,ha,rfl,kk,rr,g⟩)
  (s:=([.int .i64 0,.int .i64 ws.length,.slice hw,.ptr (some (b,0))],σ3)) ⟨σ3,Q3,rfl,K3,by simpa [Zi6] using R3,Grow.nil _ _ _⟩
 rw [Zhr B (i:=64*ws.length) (by omega)] at R4
 obtain⟨n5,e⟩:=Zc e
 have K24:Kp σ2.objs.length σ2 σ4:=hb ▸ K4
 refine⟨some (b,0),σ4,rI Tryz.f128 ⟨k1+k2+k4+n5,fun k hk=>?_⟩,K2.all K24,⟨⟨b,hw,ha,ws,aheads B ws.length,rfl,R4,Store.Sl.kp g2.nums K24,g4.ints,wb,⟨Zge _ _,fun j hj=>?_⟩,⟨by rw [hb]; exact K2.len,R4.lt⟩,fun x hx=>?_,fun x hx=>?_⟩,hn⟩⟩
 ·have r1:=r1 k (by omega)
  have r2:=r2 k (by omega)
  have r4:=r4 k (by omega)
  have e:=e k (by omega)
  simp only at r1 r2 r4 e
  simp only [Z1y]
  simp only [stp,Qd,r1,r2,r4,<-h3,<-hb,f1,lw,e]
  rw [Zlu]
 ·rw [Zb hj]; simp [aheads]
 ·obtain⟨o,ho⟩:∃ o,hw.a=some (x,o):=by
   cases ha:hw.a with
   | none=>simp [Hdl.row,ha] at hx
   | some bo=>obtain⟨c,o⟩:=bo; simp [Hdl.row,ha] at hx; subst hx; exact⟨o,rfl⟩
  have:=g2.rowLt x o ho
  exact⟨this.1,by have:=K4.len; omega⟩
 ·obtain⟨o,ho⟩:∃ o,ha.a=some (x,o):=by
   cases h:ha.a with
   | none=>simp [Hdl.row,h] at hx
   | some bo=>obtain⟨c,o⟩:=bo; simp [Hdl.row,h] at hx; subst hx; exact⟨o,rfl⟩
  have:=g4.rowLt x o ho
  have:=K2.len
  exact⟨by omega,by omega⟩
end Go.Ab

namespace Go.Ab
open Go Go.Proofs Go.Ab.Wd Go.Ab.Bs Go.Ab.Sai
theorem Zjx{a b:Nat}(ha:a<2^64)(hb:b<2^64):∃ z:Nat,bitOp .andNot .u64 (a:Int) (b:Int)=z/\z<2^64/\∀ k,k<64->z.testBit k=(a.testBit k&&!b.testBit k):=by
 obtain⟨u,hu⟩:∃ u,u=(BitVec.ofNat 64 a &&& ~~~BitVec.ofNat 64 b).toNat:=⟨_,rfl⟩
 have ul:u<2^64:=by rw [hu]; exact BitVec.isLt _
 refine⟨u,?_,ul,fun k hk=>?_⟩
 ·show Qa .u64 (BitVec.ofInt 64 (a:Int) &&& ~~~BitVec.ofInt 64 (b:Int)).toNat=_
  rw [BitVec.ofInt_natCast,BitVec.ofInt_natCast,<-hu,Zx (by omega) (by omega)]
 ·rw [hu,BitVec.testBit_toNat,BitVec.getLsbD_and,BitVec.getLsbD_not,BitVec.getLsbD_ofNat,BitVec.getLsbD_ofNat]
  simp [hk]
theorem Zjv{a s:Nat}(hs:s<=64):∃ z:Nat,shlI .u64 (a:Int) (s:Int)=z/\z<2^64/\∀ k,k<64->z.testBit k=(decide (s<=k)&&a.testBit (k-s)):=by
 have eb:IntKind.u64.bits=64:=by decide
 refine⟨a*2^s % 2^64,?_,Q2 _ (by omega),fun k hk=>?_⟩
 ·unfold shlI Qa
  rw [eb,Qc,Qs hs]
  simp [IntKind.signed]
 ·rw [Nat.testBit_mod_two_pow,Nat.testBit_mul_two_pow]
  simp [hk]
theorem Zei{a s:Nat}(hs:s<=64)(ha:a<2^64):∃ z:Nat,shrI .u64 (a:Int) (s:Int)=z/\z<2^64/\∀ k,z.testBit k=a.testBit (k+s):=by
 refine⟨a / 2^s,Zal hs,Qae (Q4 _ _) ha,fun k=>?_⟩
 rw [Nat.testBit_div_two_pow]
theorem Zxr{w:Nat}(h0:1<=w)(h1:w<=64):∃ m:Nat,shrI .u64 18446744073709551615 ((64-w:Nat):Int)=m/\m<2^64/\∀ k,m.testBit k=decide (k<w):=by
 obtain⟨z,z1,z2,z3⟩:=Zei (a:=18446744073709551615) (s:=64-w) (by omega) (by omega)
 refine⟨z,z1,z2,fun k=>?_⟩
 rw [z3,show (18446744073709551615:Nat)=2^64-1 by decide,QX]
 congr 1; exact propext (by omega)
theorem Z5i{x v m s w:Nat}(hx:x<2^64)(hv:∀ k,w<=k->v.testBit k=false)(hm:∀ k,m.testBit k=decide (k<w))(hs:s<64) :
  ∃ z:Nat,bitOp .or .u64 (bitOp .andNot .u64 (x:Int) (shlI .u64 (m:Int) (s:Int))) (shlI .u64 (v:Int) (s:Int))=z/\z<2^64/\∀ k,k<64->z.testBit k=if s<=k/\k<s+w then v.testBit (k-s) else x.testBit k:=by
 obtain⟨a,a1,a2,a3⟩:=Zjv (a:=m) (s:=s) (by omega)
 obtain⟨b,b1,b2,b3⟩:=Zjv (a:=v) (s:=s) (by omega)
 obtain⟨c,c1,c2,c3⟩:=Zjx hx a2
 refine⟨c ||| b,by rw [a1,b1,c1,Zk2 (by omega) (by omega)],QW c2 b2,fun k hk=>?_⟩
 rw [Qa1,c3 k hk,a3 k hk,b3 k hk,hm]
 by_cases h1:s<=k
 ·by_cases h2:k<s+w
  ·have h3:k-s<w:=by omega
   simp [h1,h2,h3]
  ·have h3:¬ k-s<w:=by omega
   rw [hv (k-s) (by omega)]
   simp [h1,h2,h3]
 ·simp [h1]
theorem Z5h{x v m s w:Nat}(hx:x<2^64)(hv:v<2^64)(hm0:m<2^64)(hvb:∀ k,w<=k->v.testBit k=false)(hm:∀ k,m.testBit k=decide (k<w))(hs:s<64)(hw:64<s+w) :
  ∃ z:Nat,bitOp .or .u64 (bitOp .andNot .u64 (x:Int) (shrI .u64 (m:Int) ((64-s:Nat):Int))) (shrI .u64 (v:Int) ((64-s:Nat):Int))=z/\z<2^64/\∀ k,k<64->z.testBit k=if k+64<s+w then v.testBit (k+64-s) else x.testBit k:=by
 obtain⟨a,a1,a2,a3⟩:=Zei (a:=m) (s:=64-s) (by omega) hm0
 obtain⟨b,b1,b2,b3⟩:=Zei (a:=v) (s:=64-s) (by omega) hv
 obtain⟨c,c1,c2,c3⟩:=Zjx hx a2
 refine⟨c ||| b,by rw [a1,b1,c1,Zk2 (by omega) (by omega)],QW c2 b2,fun k hk=>?_⟩
 rw [Qa1,c3 k hk,a3 k,b3 k,hm]
 by_cases h2:k+64<s+w
 ·have h3:k+(64-s)<w:=by omega
  simp [h2,h3,show k+64-s=k+(64-s) by omega]
 ·have h3:¬ k+(64-s)<w:=by omega
  rw [hvb (k+(64-s)) (by omega)]
  simp [h2,h3]
end Go.Ab

namespace Go.Ab
open Go Go.Proofs Go.Ab.Wd Go.Ab.Bs Go.Ab.Sai
def bitW(ws:List Int)(pos:Nat):Bool:=(rd ws (pos / 64:Nat)).toNat.testBit (pos % 64)
def Words(ws:List Int):Prop:=∀ j:Nat,j<ws.length->∃ x:Nat,rd ws j=x/\x<2^64
structure PkW (σ:Store) (L w n:Nat) (ws:List Int):Prop where
 row:σ.Row L 1 (numsL .u64 ws)
 hd:σ.Row (L+1) 3 [.int .i64 w,.int .i64 n,.slice (hdS L ((w*n+63) / 64))]
 len:ws.length=(w*n+63) / 64
 wd:Words ws
theorem PkW.keep{σ σ':Store}{L w n:Nat}{ws:List Int}(P:PkW σ L w n ws)(k0:σ'.objs[L]?=σ.objs[L]?)(k1:σ'.objs[L+1]?=σ.objs[L+1]?):PkW σ' L w n ws:=
 ⟨k0.trans P.row,k1.trans P.hd,P.len,P.wd⟩
theorem Znl(σ:Store){w:Nat}(h0:1<=w)(h1:w<=64):∃ m:Nat,Runs Qb 179 [.int .i64 w] σ (.int .u64 m) σ/\m<2^64/\∀ k,m.testBit k=decide (k<w):=by
 obtain⟨m,m1,m2,m3⟩:=Zxr h0 h1
 refine⟨m,rI Tryz.f179 (Ev.of fun k=>?_),m2,m3⟩
 have w1:Qa .i64 (64-(w:Int))=((64-w:Nat):Int):=by rw [Za (by omega) (by omega)]; omega
 have c:(0:Int)<=((64-w:Nat):Int):=by omega
 rw [Zta]
 simp only [w1,m1,c,if_true]
theorem Zck{ws:List Int}{j q:Nat}{z:Int}(hj:j<ws.length):rd (ws.set q z) (j:Int)=if q=j then z else rd ws (j:Int):=by
 rw [Zb (show j<(ws.set q z).length by rw [QK]; exact hj),Zb hj,QaA]
theorem Zh2{ws:List Int}(h:Words ws)(q:Nat){z:Nat}(hz:z<2^64):Words (ws.set q (z:Int)):=fun j hj=>by
 rw [QK] at hj
 rw [Zck hj]
 split
 ·exact⟨z,rfl,hz⟩
 ·exact h j hj
theorem Z0r{σ:Store}{L w n:Nat}{ws:List Int}(P:PkW σ L w n ws)(hp:σ.prot<=L)(h0:1<=w)(h1:w<=32)(hn:n<2^30){i v:Nat}(hi:i<n)(hv:v<2^w) :
  ∃ σ' ws',Runs Qb 127 [.ptr (some (L+1,0)),.int .i64 i,.int .u64 v] σ (.bool true) σ'/\Kp L σ σ'/\Off L σ σ'/\PkW σ' L w n ws' /\
   ∀ pos,pos<w*n->bitW ws' pos=if i*w<=pos/\pos<i*w+w then v.testBit (pos-i*w) else bitW ws pos:=by
 have R:=P.hd
 have W:=P.row
 have wl:=P.len
 have e0:=Zd R (o:=0) rfl
 have e1:=Zd R (o:=1) rfl
 have e2:=Zg R (o:=2) rfl
 obtain⟨m,⟨km,rm⟩,m2,m3⟩:=Znl σ h0 (show w<=64 by omega)
 have p2:2^w<=2^32:=Qh (by omega) h1
 have hm:m=2^w-1:=by
  apply Qau; intro k
  rw [m3,QX]
 have vbits:∀ k,w<=k->v.testBit k=false:=fun k hk=>QR (Qaf hv (Qh (by omega) hk))
 obtain⟨b,hb⟩:∃ b,b=i*w:=⟨_,rfl⟩
 have hbn:b+w<=w*n:=by
  have:(i+1)*w<=n*w:=Qr _ hi
  rw [Qai,Qaj,QB n w] at this
  omega
 have hwn:w*n<=32*2^30:=Qa2 h1 (by omega)
 have wb:Qa .i64 ((i:Int)*w)=(b:Nat):=by
  rw [show (i:Int)*w=((i*w:Nat):Int) by simp,<-hb,Za (by omega) (by omega)]
 obtain⟨d1,d2⟩:=Zhe (i:=(b:Int)) (by omega) (by omega)
 rw [Qc] at d1 d2
 have s64:b % 64<64:=Q2 _ (by omega)
 have hq:b / 64<ws.length:=by omega
 obtain⟨x,x1,x2⟩:=P.wd (b / 64) hq
 obtain⟨z,z1,z2,z3⟩:=Z5i x2 vbits m3 s64
 have rx:=Zeg W (i:=(b / 64:Nat)) (len:=(w*n+63) / 64) (cp:=some ((w*n+63) / 64)) (by omega) (by omega)
 have st:=Zms (x:=(z:Int)) (len:=(w*n+63) / 64) (cp:=some ((w*n+63) / 64)) W hp (i:=(b / 64:Nat)) (by omega) (by omega)
 rw [Qc] at st
 have c0:¬ (i:Int)<0:=by omega
 have c1:¬ (n:Int)<=i:=by omega
 have c2:¬ (m:Int)<v:=by omega
 have c3:(0:Int)<=(b / 64:Nat):=by omega
 have c4:((b / 64:Nat):Int)<((w*n+63) / 64:Nat):=by omega
 have c5:(0:Int)<=(b % 64:Nat):=by omega
 obtain⟨σ1,hσ1⟩:∃ s,s=σ.setO L (.cells (numsL .u64 (ws.set (b / 64) (z:Int))) true 1):=⟨_,rfl⟩
 have R1:σ1.Row (L+1) 3 [.int .i64 w,.int .i64 n,.slice (hdS L ((w*n+63) / 64))]:=by rw [hσ1]; exact R.setO_ne (by omega)
 have W1:σ1.Row L 1 (numsL .u64 (ws.set (b / 64) (z:Int))):=by rw [hσ1]; exact Store.Row.setO_eq W.lt
 have k1:Kp L σ σ1:=by rw [hσ1]; exact (Kp.refl _ _).setO (Qe _)
 have o1:Off L σ σ1:=by rw [hσ1]; exact⟨rfl,setO_len,fun c hc=>by show (σ.objs.set L _)[c]?=_; rw [Qk,if_neg (by omega)]⟩
 have e0':=Zd R1 (o:=0) rfl
 have e2':=Zg R1 (o:=2) rfl
 have wsw:Qa .i64 (((b % 64:Nat):Int)+w)=((b % 64+w:Nat):Int):=by rw [Za (by omega) (by omega)]; omega
 by_cases cs:64<b % 64+w
 ·have cs':(64:Int)<(b % 64+w:Nat):=by omega
  have hq2:b / 64+1<ws.length:=by omega
  obtain⟨y,y1,y2⟩:=P.wd (b / 64+1) hq2
  obtain⟨u,u1,u2,u3⟩:=Z5h y2 (v:=v) (by omega) m2 vbits m3 s64 cs
  have hy:rd (ws.set (b / 64) (z:Int)) ((b / 64+1:Nat):Int)=y:=by rw [Zck hq2,if_neg (by omega),y1]
  have ry:=Zeg W1 (i:=(b / 64+1:Nat)) (len:=(w*n+63) / 64) (cp:=some ((w*n+63) / 64)) (by omega) (by rw [QK]; omega)
  rw [hy] at ry
  have st2:=Zms (x:=(u:Int)) (len:=(w*n+63) / 64) (cp:=some ((w*n+63) / 64)) W1 (by rw [k1.prot]; exact hp) (i:=(b / 64+1:Nat)) (by omega) (by rw [QK]; omega)
  rw [Qc] at st2
  obtain⟨σ2,hσ2⟩:∃ s,s=σ1.setO L (.cells (numsL .u64 ((ws.set (b / 64) (z:Int)).set (b / 64+1) (u:Int))) true 1):=⟨_,rfl⟩
  have wq:Qa .i64 (((b / 64:Nat):Int)+1)=((b / 64+1:Nat):Int):=by rw [Za (by omega) (by omega)]; omega
  have w64:Qa .i64 (64-((b % 64:Nat):Int))=((64-b % 64:Nat):Int):=by rw [Za (by omega) (by omega)]; omega
  have c6:(0:Int)<=(b / 64+1:Nat):=by omega
  have c7:((b / 64+1:Nat):Int)<((w*n+63) / 64:Nat):=by omega
  have c8:(0:Int)<=(64-b % 64:Nat):=by omega
  refine⟨σ2,(ws.set (b / 64) (z:Int)).set (b / 64+1) (u:Int),rI Tryz.f127 ⟨km,fun k hk=>?_⟩,by rw [hσ2]; exact k1.setO (Qe _),?_,⟨?_,?_,by simpa using wl,Zh2 (Zh2 P.wd _ z2) _ u2⟩,fun pos hpos=>?_⟩
  ·have rm:=rm k hk
   simp only at rm
   simp only [Zlt]
   simp only [stp,Qd,c0,e1,c1,e0,rm,c2,e2,wb,d1,d2,c3,c4,rx,x1,c5,z1,st,<-hσ1,e0',wsw,cs',e2',wq,c6,c7,ry,w64,c8,u1,st2,<-hσ2]
  ·rw [hσ2]
   exact o1.trans ⟨rfl,setO_len,fun c hc=>by show (σ1.objs.set L _)[c]?=_; rw [Qk,if_neg (by omega)]⟩
  ·rw [hσ2]; exact Store.Row.setO_eq W1.lt
  ·rw [hσ2]; exact R1.setO_ne (by omega)
  ·have hpl:pos / 64<ws.length:=by omega
   have pm:pos % 64<64:=Q2 _ (by omega)
   unfold bitW
   rw [Zck (by rw [QK]; exact hpl),Zck hpl,<-hb]
   by_cases g1:b / 64+1=pos / 64
   ·rw [if_pos g1,Qc,u3 _ pm]
    rw [<-g1,y1,Qc]
    by_cases g2:pos % 64+64<b % 64+w
    ·rw [if_pos g2,if_pos (by omega)]; congr 1; omega
    ·rw [if_neg g2,if_neg (by omega)]
   ·rw [if_neg g1]
    by_cases g3:b / 64=pos / 64
    ·rw [if_pos g3,Qc,z3 _ pm,<-g3,x1,Qc]
     by_cases g2:b % 64<=pos % 64/\pos % 64<b % 64+w
     ·rw [if_pos g2,if_pos (by omega)]; congr 1; omega
     ·rw [if_neg g2,if_neg (by omega)]
    ·rw [if_neg g3,if_neg (by omega)]
 ·have cs':¬ (64:Int)<(b % 64+w:Nat):=by omega
  refine⟨σ1,ws.set (b / 64) (z:Int),rI Tryz.f127 ⟨km,fun k hk=>?_⟩,k1,o1,⟨W1,R1,by simpa using wl,Zh2 P.wd _ z2⟩,fun pos hpos=>?_⟩
  ·have rm:=rm k hk
   simp only at rm
   simp only [Zlt]
   simp only [stp,Qd,c0,e1,c1,e0,rm,c2,e2,wb,d1,d2,c3,c4,rx,x1,c5,z1,st,<-hσ1,e0',wsw,cs']
  ·have hpl:pos / 64<ws.length:=by omega
   have pm:pos % 64<64:=Q2 _ (by omega)
   unfold bitW
   rw [Zck hpl,<-hb]
   by_cases g3:b / 64=pos / 64
   ·rw [if_pos g3,Qc,z3 _ pm,<-g3,x1,Qc]
    by_cases g2:b % 64<=pos % 64/\pos % 64<b % 64+w
    ·rw [if_pos g2,if_pos (by omega)]; congr 1; omega
    ·rw [if_neg g2,if_neg (by omega)]
   ·rw [if_neg g3,if_neg (by omega)]
end Go.Ab

namespace Go.Ab
open Go Go.Proofs Go.Ab.Wd Go.Ab.Bs Go.Ab.Sai
def Cont(ws:List Int)(w n:Nat)(f:Nat->Nat):Prop:=∀ i,i<n->∀ k,k<w->bitW ws (i*w+k)=(f i).testBit k
theorem Z5f{i k w n:Nat}(hi:i<n)(hk:k<w):i*w+k<w*n:=by
 have:(i+1)*w<=n*w:=Qr _ hi
 rw [Qai,Qaj,QB n w] at this
 omega
theorem Cont.set{ws ws':List Int}{w n i v:Nat}{f:Nat->Nat}(C:Cont ws w n f)(h:∀ pos,pos<w*n->bitW ws' pos=if i*w<=pos/\pos<i*w+w then v.testBit (pos-i*w) else bitW ws pos):Cont ws' w n fun j=>if j=i then v else f j:=fun j hj k hk=>by
 rw [h _ (Z5f hj hk)]
 show _=(if j=i then v else f j).testBit k
 by_cases e:j=i
 ·subst e
  rw [if_pos ⟨by omega,by omega⟩,if_pos rfl]; congr 1; omega
 ·rw [if_neg e,if_neg,C j hj k hk]
  rintro⟨h1,h2⟩
  rcases Nat.lt_or_gt_of_ne e with h3 | h3
  ·have:(j+1)*w<=i*w:=Qr _ h3
   rw [Qai,Qaj] at this; omega
  ·have:(i+1)*w<=j*w:=Qr _ h3
   rw [Qai,Qaj] at this; omega
theorem Zxx(σ:Store){w n:Nat}(hw:w<=64)(hn:n<2^40):Runs Qb 177 [.int .i64 w,.int .i64 n] σ (.int .i64 ((w*n+63) / 64:Nat)) σ:=by
 have hwn:w*n<=64*2^40:=Qa2 hw (by omega)
 refine rI Tryz.f177 (Ev.of fun k=>?_)
 obtain⟨u,hu⟩:∃ u,u=w*n:=⟨_,rfl⟩
 rw [Zs9,show (w:Int)*n=((w*n:Nat):Int) by simp,<-hu,Za (x:=(u:Int)) (by omega) (by omega),Za (x:=(u:Int)+63) (by omega) (by omega),Qq (by omega),Za (by omega) (by omega)]
 congr 3
theorem Zq4{σ:Store}{w n:Nat}(h0:1<=w)(h1:w<=32)(hn:n<=4194304):∃ σ',Runs Qb 125 [.int .i64 w,.int .i64 n] σ (.tuple [.ptr (some (σ.objs.length+1,0)),.int .i64 0]) σ'/\Kp σ.objs.length σ σ'/\σ'.objs.length=σ.objs.length+2/\∃ ws,PkW σ' σ.objs.length w n ws/\Cont ws w n fun _=>0:=by
 obtain⟨k1,r1⟩:=Zxx σ (w:=w) (n:=n) (by omega) (by omega)
 have hwn:w*n<=32*4194304:=Qa2 h1 hn
 obtain⟨u,hu⟩:∃ u,u=(w*n+63) / 64:=⟨_,rfl⟩
 rw [<-hu] at r1
 have c1:¬ (w:Int)<1:=by omega
 have c2:¬ (64:Int)<w:=by omega
 have c3:¬ (n:Int)<0:=by omega
 have c4:¬ (4194304:Int)<n:=by omega
 have c5:(0:Int)<=(u:Nat):=by omega
 have c6:((u:Nat):Int)*((8:Nat):Int)<=281474976710656:=by omega
 refine⟨(σ.push (mkCells [.int .u64 0] u) 1).push [.int .i64 w,.int .i64 n,.slice (hdS σ.objs.length u)] 3,rI Tryz.f125 ⟨k1,fun k hk=>?_⟩,(Kp.push _ _ (Qe _)).push' (by simp),by simp,Ql u 0,⟨?_,?_,by simp [hu],fun j hj=>⟨0,Zdg _ _,by omega⟩⟩,fun i hi k hk=>?_⟩
 ·have r1:=r1 k hk
  simp only at r1
  simp only [Zs1]
  simp only [stp,c1,c2,c3,c4,r1,c5,c6,Qat,Qc]
  simp [hdS]
 ·rw [<-Zi4]; exact Store.Row.new.push
 ·rw [<-hu]
  have:=(Store.Row.new:((σ.push (mkCells [.int .u64 0] u) 1).push [.int .i64 w,.int .i64 n,.slice (hdS σ.objs.length u)] 3).Row _ 3 _)
  simpa using this
 ·unfold bitW
  rw [Zdg]; simp
end Go.Ab

namespace Go.Ab
open Go Go.Proofs Go.Ab.Wd Go.Ab.Bs Go.Ab.Sai
theorem Z43{x m s w v:Nat}(hx:x<2^64)(hm0:m<2^64)(hm:∀ k,m.testBit k=decide (k<w))(hs:s<64)(hv:v<2^w)(h:∀ k,k<w->x.testBit (k+s)=v.testBit k) :
  bitOp .and .u64 (shrI .u64 (x:Int) (s:Int)) (m:Int)=(v:Int):=by
 obtain⟨a,a1,a2,a3⟩:=Zei (a:=x) (s:=s) (by omega) hx
 rw [a1,Zbm (by omega) (by omega)]
 congr 1
 apply Qau; intro k
 rw [QaK,a3,hm]
 by_cases c:k<w
 ·rw [h k c]; simp [c]
 ·rw [QR (Qaf hv (Qh (by omega) (by omega)))]; simp [c]
theorem Z42{x y m s w v:Nat}(hx:x<2^64)(hy:y<2^64)(hm0:m<2^64)(hm:∀ k,m.testBit k=decide (k<w))(hs:s<64)(hw:w<=32)(hv:v<2^w)(h:∀ k,k<w->k+s<64->x.testBit (k+s)=v.testBit k)(h2:∀ k,k<w->64<=k+s->y.testBit (k+s-64)=v.testBit k) :
  bitOp .and .u64 (bitOp .or .u64 (shrI .u64 (x:Int) (s:Int)) (shlI .u64 (y:Int) ((64-s:Nat):Int))) (m:Int)=(v:Int):=by
 obtain⟨a,a1,a2,a3⟩:=Zei (a:=x) (s:=s) (by omega) hx
 obtain⟨b,b1,b2,b3⟩:=Zjv (a:=y) (s:=64-s) (by omega)
 have l2:=QW a2 b2
 rw [a1,b1,Zk2 (by omega) (by omega),Zbm (by omega) (by omega)]
 congr 1
 apply Qau; intro k
 rw [QaK,Qa1,a3,hm]
 by_cases c:k<w
 ·rw [b3 k (by omega)]
  by_cases d:k+s<64
  ·rw [h k c d]
   have:¬ 64-s<=k:=by omega
   simp [c,this]
  ·have e:x.testBit (k+s)=false:=QR (Qaf hx (Qh (by omega) (by omega)))
   rw [e,<-h2 k c (by omega)]
   have:64-s<=k:=by omega
   simp [c,this,show k-(64-s)=k+s-64 by omega]
 ·rw [QR (Qaf hv (Qh (by omega) (by omega)))]; simp [c]
theorem Zzy{σ:Store}{L w n:Nat}{ws:List Int}{f:Nat->Nat}(P:PkW σ L w n ws)(C:Cont ws w n f)(h0:1<=w)(h1:w<=32)(hn:n<2^30){i:Nat}(hi:i<n)(hf:f i<2^w) :
  Runs Qb 141 [.ptr (some (L+1,0)),.int .i64 i] σ (.int .u64 (f i)) σ:=by
 have R:=P.hd
 have W:=P.row
 have wl:=P.len
 have e0:=Zd R (o:=0) rfl
 have e1:=Zd R (o:=1) rfl
 have e2:=Zg R (o:=2) rfl
 obtain⟨m,⟨km,rm⟩,m2,m3⟩:=Znl σ h0 (show w<=64 by omega)
 obtain⟨b,hb⟩:∃ b,b=i*w:=⟨_,rfl⟩
 have hbn:b+w<=w*n:=by
  have:(i+1)*w<=n*w:=Qr _ hi
  rw [Qai,Qaj,QB n w] at this
  omega
 have hwn:w*n<=32*2^30:=Qa2 h1 (by omega)
 have wb:Qa .i64 ((i:Int)*w)=(b:Nat):=by
  rw [show (i:Int)*w=((i*w:Nat):Int) by simp,<-hb,Za (by omega) (by omega)]
 obtain⟨d1,d2⟩:=Zhe (i:=(b:Int)) (by omega) (by omega)
 rw [Qc] at d1 d2
 have s64:b % 64<64:=Q2 _ (by omega)
 have hq:b / 64<ws.length:=by omega
 obtain⟨x,x1,x2⟩:=P.wd (b / 64) hq
 have rx:=Zeg W (i:=(b / 64:Nat)) (len:=(w*n+63) / 64) (cp:=some ((w*n+63) / 64)) (by omega) (by omega)
 have c0:¬ (i:Int)<0:=by omega
 have c1:¬ (n:Int)<=i:=by omega
 have c3:(0:Int)<=(b / 64:Nat):=by omega
 have c4:((b / 64:Nat):Int)<((w*n+63) / 64:Nat):=by omega
 have c5:(0:Int)<=(b % 64:Nat):=by omega
 have wsw:Qa .i64 (((b % 64:Nat):Int)+w)=((b % 64+w:Nat):Int):=by rw [Za (by omega) (by omega)]; omega
 have hbit:∀ k,k<w->k+b % 64<64->x.testBit (k+b % 64)=(f i).testBit k:=fun k hk hlt=>by
  rw [<-C i hi k hk,<-hb]
  unfold bitW
  rw [show (b+k) / 64=b / 64 by omega,x1,Qc,show (b+k) % 64=k+b % 64 by omega]
 by_cases cs:64<b % 64+w
 ·have cs':(64:Int)<(b % 64+w:Nat):=by omega
  have hq2:b / 64+1<ws.length:=by omega
  obtain⟨y,y1,y2⟩:=P.wd (b / 64+1) hq2
  have ry:=Zeg W (i:=(b / 64+1:Nat)) (len:=(w*n+63) / 64) (cp:=some ((w*n+63) / 64)) (by omega) (by omega)
  have wq:Qa .i64 (((b / 64:Nat):Int)+1)=((b / 64+1:Nat):Int):=by rw [Za (by omega) (by omega)]; omega
  have w64:Qa .i64 (64-((b % 64:Nat):Int))=((64-b % 64:Nat):Int):=by rw [Za (by omega) (by omega)]; omega
  have c6:(0:Int)<=(b / 64+1:Nat):=by omega
  have c7:((b / 64+1:Nat):Int)<((w*n+63) / 64:Nat):=by omega
  have c8:(0:Int)<=(64-b % 64:Nat):=by omega
  have res:=Z42 x2 y2 m2 m3 s64 h1 hf hbit fun k hk hge=>by
   rw [<-C i hi k hk,<-hb]
   unfold bitW
   rw [show (b+k) / 64=b / 64+1 by omega,y1,Qc,show (b+k) % 64=k+b % 64-64 by omega]
  refine rI Tryz.f141 ⟨km,fun k hk=>?_⟩
  have rm:=rm k hk
  simp only at rm
  simp only [Zs5]
  simp only [stp,Qd,c0,e1,c1,e0,e2,wb,d1,d2,c3,c4,rx,x1,c5,wsw,cs',wq,c6,c7,ry,y1,w64,c8,rm,res]
 ·have cs':¬ (64:Int)<(b % 64+w:Nat):=by omega
  have res:=Z43 x2 m2 m3 s64 hf fun k hk=>hbit k hk (by omega)
  refine rI Tryz.f141 ⟨km,fun k hk=>?_⟩
  have rm:=rm k hk
  simp only at rm
  simp only [Zs5]
  simp only [stp,Qd,c0,e1,c1,e0,e2,wb,d1,d2,c3,c4,rx,x1,c5,wsw,cs',rm,res]
end Go.Ab

namespace Go.Ab
open Go Go.Proofs Go.Ab.Wd Go.Ab.Bs Go.Ab.Sai
def IsLen(x c:Nat):Prop:=x<2^c/\(c=0\/2^(c-1)<=x)
theorem IsLen.shift{x c s:Nat}(h:IsLen (x / 2^s) c)(hs:2^s<=x):IsLen x (s+c):=by
 obtain⟨h1,h2⟩:=h
 have p:0<2^s:=QI s
 have g:1<=x / 2^s:=(QaR p).2 (by omega)
 have c0:c≠0:=by rintro rfl; simp at h1; omega
 refine⟨?_,.inr ?_⟩
 ·rw [Qb1,QB]; exact (QaQ p).1 h1
 ·rcases h2 with h2 | h2
  ·exact absurd h2 c0
  ·rw [show s+c-1=s+(c-1) by omega,Qb1,QB]
   exact (QaR p).1 h2
theorem IsLen.uniq{x c d:Nat}(h:IsLen x c)(g:IsLen x d):c=d:=by
 obtain⟨h1,h2⟩:=h
 obtain⟨g1,g2⟩:=g
 have m:∀ {a b:Nat},a<b->x<2^a->(b=0\/2^(b-1)<=x)->False:=fun {a b} hab ha hb=>by
  rcases hb with hb | hb
  ·omega
  ·have:2^a<=2^(b-1):=Qh (by omega) (by omega)
   omega
 by_cases c1:c<d
 ·exact (m c1 h1 g2).elim
 ·by_cases c2:d<c
  ·exact (m c2 g1 h2).elim
  ·omega
theorem Z5t:∀ v:Fin 256,∃ c:Fin 9,strAt len8tab v.val=some (c.val:Int)/\(v.val<2^c.val/\(c.val=0\/2^(c.val-1)<=v.val)):=by decide +kernel
theorem Zmt{v:Nat}(hv:v<256):∃ c:Nat,c<=8/\strAt len8tab v=some (c:Int)/\IsLen v c:=by
 obtain⟨c,h1,h2⟩:=Z5t ⟨v,hv⟩
 exact⟨c.val,by omega,h1,h2⟩
theorem Zrx{x:Int}(h0:0<=x)(h1:x<256):Qa .u8 x=x:=by
 unfold Qa
 have e2:(2:Int)^IntKind.u8.bits=256:=by decide
 simp [e2,IntKind.signed]; omega
theorem Znj(σ:Store){x:Nat}(hx:x<2^24):∃ c:Nat,c<=24/\Runs Qb 178 [.int .u64 x] σ (.int .i64 c) σ/\IsLen x c:=by
 have c1:¬ (4294967296:Int)<=x:=by omega
 have s16:shrI .u64 (x:Int) 16=((x / 65536:Nat):Int):=Zal (s:=16) (by omega)
 have s8:shrI .u64 (x:Int) 8=((x / 256:Nat):Int):=Zal (s:=8) (by omega)
 by_cases c2:65536<=x
 ·obtain⟨c,hc,ht,hl⟩:=Zmt (v:=x / 65536) (by omega)
  have c2':(65536:Int)<=x:=by omega
  have c3:¬ (256:Int)<=(x / 65536:Nat):=by omega
  have w1:Qa .u8 ((x / 65536:Nat):Int)=(x / 65536:Nat):=Zrx (by omega) (by omega)
  have c4:(0:Int)<=(x / 65536:Nat):=by omega
  have w2:Qa .i64 (0+16)=16:=by decide
  have w3:Qa .i64 (c:Int)=c:=Za (by omega) (by omega)
  have w4:Qa .i64 (16+(c:Int))=(16+c:Nat):=by rw [Za (by omega) (by omega)]; omega
  exact⟨16+c,by omega,rI Tryz.f178 (Ev.of fun k=>by
   rw [Zly]; simp only [stp,c1,c2',s16,c3,w1,c4,Qc,ht,w2,w3,w4]),IsLen.shift (s:=16) hl (by omega)⟩
 ·by_cases c3:256<=x
  ·obtain⟨c,hc,ht,hl⟩:=Zmt (v:=x / 256) (by omega)
   have c2':¬ (65536:Int)<=x:=by omega
   have c3':(256:Int)<=x:=by omega
   have w1:Qa .u8 ((x / 256:Nat):Int)=(x / 256:Nat):=Zrx (by omega) (by omega)
   have c4:(0:Int)<=(x / 256:Nat):=by omega
   have w2:Qa .i64 (0+8)=8:=by decide
   have w3:Qa .i64 (c:Int)=c:=Za (by omega) (by omega)
   have w4:Qa .i64 (8+(c:Int))=(8+c:Nat):=by rw [Za (by omega) (by omega)]; omega
   exact⟨8+c,by omega,rI Tryz.f178 (Ev.of fun k=>by
    rw [Zly]; simp only [stp,c1,c2',s8,c3',w1,c4,Qc,ht,w2,w3,w4]),IsLen.shift (s:=8) hl (by omega)⟩
  ·obtain⟨c,hc,ht,hl⟩:=Zmt (v:=x) (by omega)
   have c2':¬ (65536:Int)<=x:=by omega
   have c3':¬ (256:Int)<=x:=by omega
   have w1:Qa .u8 (x:Int)=x:=Zrx (by omega) (by omega)
   have c4:(0:Int)<=(x:Int):=by omega
   have w3:Qa .i64 (c:Int)=c:=Za (by omega) (by omega)
   have w4:Qa .i64 (0+(c:Int))=c:=by rw [Za (by omega) (by omega)]; omega
   exact⟨c,by omega,rI Tryz.f178 (Ev.of fun k=>by
    rw [Zly]; simp only [stp,c1,c2',c3',w1,c4,Qc,ht,w3,w4]),hl⟩
def IsWid(x w:Nat):Prop:=1<=w/\w<=24/\x<2^w/\(w=1\/2^(w-1)<=x)
theorem IsWid.uniq{x c d:Nat}(h:IsWid x c)(g:IsWid x d):c=d:=by
 obtain⟨h0,_,h1,h2⟩:=h
 obtain⟨g0,_,g1,g2⟩:=g
 have m:∀ {a b:Nat},1<=a->a<b->x<2^a->(b=1\/2^(b-1)<=x)->False:=fun {a b} ha0 hab ha hb=>by
  rcases hb with hb | hb
  ·omega
  ·have:2^a<=2^(b-1):=Qh (by omega) (by omega)
   omega
 by_cases c1:c<d
 ·exact (m h0 c1 h1 g2).elim
 ·by_cases c2:d<c
  ·exact (m g0 c2 g1 h2).elim
  ·omega
theorem Zn9(σ:Store){x:Nat}(hx:x<2^24):∃ w:Nat,Runs Qb 126 [.int .u64 x] σ (.int .i64 w) σ/\IsWid x w:=by
 obtain⟨c,c24,⟨k,r⟩,h1,h2⟩:=Znj σ hx
 have e:mx2 (Qbw 1) c=((max 1 c:Nat):Int):=by rw [Zbx]; simp only [QZ]; omega
 refine⟨max 1 c,rI Tryz.f126 ⟨k,fun m hm=>?_⟩,by omega,by omega,?_,?_⟩
 ·have r:=r m hm
  simp only at r
  simp only [Z1x]
  simp only [stp,r,e]
 ·by_cases c1:1<=c
  ·rw [Qbx c1]; exact h1
  ·rw [show c=0 by omega,Qa0] at h1
   rw [show x=0 by omega]; exact QI _
 ·by_cases c1:2<=c
  ·rw [Qbx (by omega)]; rcases h2 with h2 | h2
   ·omega
   ·exact .inr h2
  ·exact .inl (by omega)
end Go.Ab

namespace Go.Ab
open Go Go.Proofs Go.Ab.Wd Go.Ab.Bs Go.Ab.Sai
theorem Zo5{x:Int}{k:Nat}(x0:0<=x)(x1:x<2^62)(hk:k<=64):bitOp .and .i64 (shrI .i64 x (k:Int)) 1=((x.toNat / 2^k % 2:Nat):Int):=by
 obtain⟨a,rfl⟩:=Qg x0
 have e:IntKind.i64.bits=64:=by decide
 have h1:a / 2^k<=a:=Q4 _ _
 have q:shrI .i64 (a:Int) (k:Int)=((a / 2^k:Nat):Int):=by
  unfold shrI
  rw [e,Qc,Qs hk,QY _ (Qbl (Qb2 (by omega)))]
  simp
 rw [q]
 show Qa .i64 (BitVec.ofInt 64 ((a / 2^k:Nat):Int) &&& BitVec.ofInt 64 1).toNat=_
 have h2:(BitVec.ofInt 64 ((a / 2^k:Nat):Int) &&& BitVec.ofInt 64 1).toNat=a / 2^k % 2:=by
  rw [BitVec.ofInt_natCast,BitVec.toNat_and,BitVec.toNat_ofNat,show (BitVec.ofInt 64 1).toNat=1 by decide,Qbi]
  generalize a / 2^k=u
  omega
 rw [h2,Za (by omega) (by omega),Qc]
theorem Zwh{x:Int}{k:Nat}(x0:0<=x)(x1:x<2^62)(hk:k<=64)(h:bitb k x=true):bitOp .and .i64 (shrI .i64 x (k:Int)) 1=1:=by
 rw [Zo5 x0 x1 hk]; simp only [bitb,decide_eq_true_eq] at h; omega
theorem Zsu{x:Int}{k:Nat}(x0:0<=x)(x1:x<2^62)(hk:k<=64)(h:bitb k x=false):¬ bitOp .and .i64 (shrI .i64 x (k:Int)) 1=1:=by
 rw [Zo5 x0 x1 hk]; simp only [bitb,decide_eq_false_iff_not] at h; omega
def bitsTo(k n:Nat)(r:List Int)(i:Nat):List Bool:=(r.take i).map (bitb k)++Ql (n-i) false
theorem Zjy{k:Nat}{r:List Int}{i:Nat}(hi:i<=r.length):(bitsTo k r.length r i).length=r.length:=by simp [bitsTo]; omega
theorem Zug{k:Nat}{r:List Int}{i:Nat}(hi:i<r.length)(h:bitb k (rd r i)=false):bitsTo k r.length r (i+1)=bitsTo k r.length r i:=by
 unfold bitsTo
 rw [Zj hi,Qx,show r.length-i=(r.length-(i+1))+1 by omega,QA,Qu]
 simp [h]
theorem Zwi{k:Nat}{r:List Int}{i:Nat}(hi:i<r.length)(h:bitb k (rd r i)=true):bitsTo k r.length r (i+1)=(bitsTo k r.length r i).set i true:=by
 unfold bitsTo
 rw [Zj hi,Qx,show r.length-i=(r.length-(i+1))+1 by omega,QA,Qu,QaS _ _ (show (List.map (bitb k) (List.take i r)).length<=i by simp; omega)]
 simp [h,Qs (QaF hi)]
theorem Zuf{k:Nat}{r:List Int}:bitsTo k r.length r r.length=r.map (bitb k):=by simp [bitsTo]
theorem Zv2{σ:Store}{L:Nat}{r:List Int}{hr:Hdl}{k:Nat}{pm:Ptr}(hR:σ.Ints hr r)(hL:σ.objs.length=L+2)(hRo:∀ x,hr.row=some x->x<L)(P:Pk σ L (Ql r.length false))(hp:σ.prot<=L)(hn:r.length<2^30)(hk:k<=64)(hx:∀ x∈r,0<=x/\x<2^62) :
  ∃ lo hi σ',EvI (fun kk s=>Qam Qb (gm Qb kk) QO kk Tryz.f68 [1,1,1,1,0,1,0,0,1,0,0,1,1,0,1,0] [61,60,59,12,11,9,8,6] s)
   ([.int .i64 0,.int .i64 r.length,.slice hr,.slice Q3,.slice Q3,.ptr (some (L+1,0)),.int .i64 k,.ptr pm],σ) (Qw 2,[(12,.slice hi),(11,.slice lo),(9,.ptr (some (L+1,0))),(8,.int .i64 k),(6,.ptr pm)],σ') /\
   Kp L σ σ'/\Pk σ' L (r.map (bitb k))/\GrowI σ' (L+2) lo (low k r)/\GrowI σ' (L+2) hi (high k r)/\(∀ x,lo.row=some x->hi.row≠some x):=by
 have lr:=hR.ilen
 obtain⟨rr,e,lo,hi,σ',rfl,h1,h2,h3,h4,h5⟩:=EvI.up (f:=fun kk s=>Qam Qb (gm Qb kk) QO kk Tryz.f68 [1,1,1,1,0,1,0,0,1,0,0,1,1,0,1,0] [61,60,59,12,11,9,8,6] s) r.length
  (fun i s=>∃ lo hi s1,s=([.int .i64 i,.int .i64 r.length,.slice hr,.slice hi,.slice lo,.ptr (some (L+1,0)),.int .i64 k,.ptr pm],s1)/\Kp L σ s1/\Pk s1 L (bitsTo k r.length r i)/\GrowI s1 (L+2) lo (low k (r.take i))/\GrowI s1 (L+2) hi (high k (r.take i))/\(∀ x,lo.row=some x->hi.row≠some x))
  (fun q=>∃ lo hi s1,q=(Qw 2,[(12,.slice hi),(11,.slice lo),(9,.ptr (some (L+1,0))),(8,.int .i64 k),(6,.ptr pm)],s1)/\Kp L σ s1/\Pk s1 L (r.map (bitb k))/\GrowI s1 (L+2) lo (low k r)/\GrowI s1 (L+2) hi (high k r)/\(∀ x,lo.row=some x->hi.row≠some x))
  (by
   rintro i s hi_ ⟨lo,hi,s1,rfl,kk,P1,ga,gb,d⟩
   have i0:(0:Int)<=i:=by omega
   have i1:(i:Int)<r.length:=by omega
   have w:=Zq hi_ (by omega)
   have hR1:s1.Ints hr r:=Store.Sl.keep hR fun c o ho=>kk.keep c (hRo c (by simp [Hdl.row,ho]))
   have rx:=hR1.rd i0 i1
   have hxr:=hx _ (Ze i0 i1)
   have l1:=kk.len
   have p1:s1.prot<=L:=by rw [kk.prot]; exact hp
   have k0:(0:Int)<=k:=by omega
   cases hb:bitb k (rd r i) with
   | true=>
    have c:=Zwh hxr.1 hxr.2 hk hb
    obtain⟨s2,⟨n2,r2⟩,k2,o2,P2⟩:=Zmr P1 p1 (i:=i) (by rw [Zjy (QaF hi_)]; exact hi_) (by rw [Zjy (QaF hi_)]; exact hn)
    rw [<-Zwi hi_ hb] at P2
    have l2:=o2.len
    have ga2:GrowI s2 (L+2) lo _:=ga.keep fun c o ho=>o2.off c (by have:=ga.rowLt c o ho; omega)
    have gb2:GrowI s2 (L+2) hi _:=gb.keep fun c o ho=>o2.off c (by have:=gb.rowLt c o ho; omega)
    obtain⟨h',s3,e3,k3,gb3,fr,rw3⟩:=Zkj (k:=.i64) (bs:=8) gb2 (by rw [k2.prot]; omega) (by omega) (rd r i) (by omega) (by omega) (by
     have:=QV (bitb k) (r.take i); simp [high] at this ⊢; omega)
    have ga3:GrowI s3 (L+2) lo _:=ga2.keepX fun x hx=>fr x (ga2.has x hx) fun e=>d x hx e
    refine⟨_,⟨n2,fun m hm=>?_⟩,lo,h',s3,rfl,(kk.trans k2).trans (k3.mono (by omega)),⟨?_,P2.row.kp k3 (by omega)⟩,?_,?_,fun x hx=>?_⟩
    ·have r2:=r2 m hm
     simp only at r2
     simp only [Zau]
     simp only [stp,lr,i0,i1,rx,k0,c,r2,Zbf,e3,w]
    ·obtain⟨ws,W,wb⟩:=P2.ex
     exact⟨ws,W.kp k3 (by omega),wb⟩
    ·rw [Zj hi_,low,QS,Qak (by simp [hb]),QbC,QaM]; exact ga3
    ·rw [Zj hi_,high,QS,Qal hb]; exact gb3
    ·rcases rw3 with h | h
     ·rw [h]; exact d x hx
     ·intro e; have:=h x e; have:=ga2.has x hx; omega
   | false=>
    have c:=Zsu hxr.1 hxr.2 hk hb
    obtain⟨h',s3,e3,k3,ga3,fr,rw3⟩:=Zkj (k:=.i64) (bs:=8) ga (by omega) (by omega) (rd r i) (by omega) (by omega) (by
     have:=QV (fun x=>!bitb k x) (r.take i); simp [low] at this ⊢; omega)
    have gb3:GrowI s3 (L+2) hi _:=gb.keepX fun x hx=>fr x (gb.has x hx) fun e=>d x e hx
    refine⟨_,Ev.of fun m=>?_,h',hi,s3,rfl,kk.trans (k3.mono (by omega)),?_,?_,?_,fun x hx=>?_⟩
    ·simp only [Zau]
     simp only [stp,lr,i0,i1,rx,k0,c,Zbf,e3,w]
    ·rw [Zug hi_ hb]
     obtain⟨ws,W,wb⟩:=P1.ex
     exact⟨⟨ws,W.kp k3 (by omega),wb⟩,P1.row.kp k3 (by omega)⟩
    ·rw [Zj hi_,low,QS,Qal (by simp [hb])]; exact ga3
    ·rw [Zj hi_,high,QS,Qak (by simp [hb]),QbC,QaM]; exact gb3
    ·rcases rw3 with h | h
     ·exact d x (h ▸ hx)
     ·intro e; have:=h x hx; have:=gb.has x e; omega)
  (by
   rintro s ⟨lo,hi,s1,rfl,kk,P1,ga,gb,d⟩
   rw [Qaq] at ga gb
   rw [Zuf] at P1
   exact⟨(Qw 2,[(12,.slice hi),(11,.slice lo),(9,.ptr (some (L+1,0))),(8,.int .i64 k),(6,.ptr pm)],s1),Ev.of fun m=>by simp only [Zau]; simp only [stp,Qv],lo,hi,s1,rfl,kk,P1,ga,gb,d⟩)
  (s:=([.int .i64 0,.int .i64 r.length,.slice hr,.slice Q3,.slice Q3,.ptr (some (L+1,0)),.int .i64 k,.ptr pm],σ))
  ⟨Hdl.nil,Q3,σ,rfl,Kp.refl _ _,by simpa [bitsTo] using P,Grow.nil _ _ _,Grow.nil _ _ _,fun x hx=>by simp [Hdl.row,Q3] at hx⟩
 exact⟨lo,hi,σ',e,h1,h2,h3,h4,h5⟩
end Go.Ab

namespace Go.Ab
open Go Go.Proofs Go.Ab.Wd Go.Ab.Bs Go.Ab.Sai
def lev(w:Nat)(l:List Int)(j:Nat):List Bool:=(Bs.rowAt w l (w-j)).map (bitb (w-j-1))
structure Mat (σ:Store) (p:Ptr) (l:List Int) (w:Nat):Prop where
 ex:∃ b hl ps,p=some (b,0)/\σ.Row b 3 [.int .i64 l.length,.int .i64 w,.slice hl]/\σ.Sl hl 1 (ptrsL ps)/\ps.length=w/\∀ j,j<w->∃ q,ps[j]?=some q/\Vec σ q (lev w l j)
 wid:1<=w/\w<=24
 small:l.length<=4194304
 rng:∀ x∈l,0<=x/\x<2^w
theorem Mat.kp{σ σ':Store}{p:Ptr}{l:List Int}{w:Nat}(m:Mat σ p l w)(k:Kp σ.objs.length σ σ'):Mat σ' p l w:=by
 obtain⟨b,hl,ps,rfl,R,S,lp,V⟩:=m.ex
 exact⟨⟨b,hl,ps,rfl,R.kp k R.lt,Store.Sl.kp S k,lp,fun j hj=>by obtain⟨q,e,v⟩:=V j hj; exact⟨q,e,v.kp k⟩⟩,m.wid,m.small,m.rng⟩
def okW(l:List Int)(most:Int):Bool:=decide (0<=most)&&(decide (most<4194304)&&(decide (l.length<=4194304)&&!(l.any fun c=>decide (c<0) || decide (most<c))))
theorem Zmh{l:List Int}{most:Int}:okW l most=true ↔ 0<=most/\most<4194304/\l.length<=4194304/\∀ x∈l,0<=x/\x<=most:=by
 simp only [okW,Qby,decide_eq_true_eq,Qbn,Qa5,QaN,not_or]
 exact⟨fun ⟨a,b,c,d⟩=>⟨a,b,c,fun x hx=>by have:=d x hx; omega⟩,fun ⟨a,b,c,d⟩=>⟨a,b,c,fun x hx=>by have:=d x hx; omega⟩⟩
theorem Zno{σ:Store}{b:Nat}{al:Int}(h:σ.ldInt .i64 (some (b,0))=some al)(x:Int):Runs Qb 129 [.int .i64 x,.ptr (some (b,0))] σ (.bool (decide (x<0) || decide (al<x))) σ:=by
 refine rI Tryz.f129 (Ev.of fun k=>?_)
 rw [Z1z]
 by_cases c:x<0
 ·simp [c]
 ·simp [c,h]
theorem Z44{h:Hdl}{x:Nat}(hx:h.row=some x):∃ o,h.a=some (x,o):=by
 cases ha:h.a with
 | none=>simp [Hdl.row,ha] at hx
 | some bo=>obtain⟨c,o⟩:=bo; simp [Hdl.row,ha] at hx; subst hx; exact⟨o,rfl⟩
theorem Zq9(l m:List Ptr):ptrsL (l++m)=ptrsL l++ptrsL m:=by simp [ptrsL]
structure NewI (σ3:Store) (b w:Nat) (l:List Int) (m:Nat) (Zf:Hdl) (s1:Store):Prop where
 kk:Kp b σ3 s1
 ex:∃ hl ps,s1.Row b 3 [.int .i64 l.length,.int .i64 w,.slice hl]/\Grow s1 (b+1) hl 1 (ptrsL ps)/\ps.length=w-m /\
  ∀ j,j<w-m->∃ p lo hi,ps[j]?=some p/\VecF s1 p (lev w l j) (fun x=>lo<=x/\x<hi)/\b<lo/\hi<=s1.objs.length/\∀ x,hl.row=some x->¬ (lo<=x/\x<hi)
 row:s1.Ints Zf (Bs.rowAt w l m)
 has:s1.Has Zf
theorem Zxy{σ3:Store}{b w:Nat}{l:List Int}{m:Nat}{Zf:Hdl}{s1:Store}(I:NewI σ3 b w l (m+1) Zf s1)(hm:m<w)(hw:w<=24)(hp:s1.prot<=b)(hl:l.length<=4194304)(hx:∀ x∈l,0<=x/\x<2^62) :
  ∃ hrow' s2,Ev (fun k=>Qam Qb (gm Qb k) QO k Tryz.f68 [1,1,1,1,0,1,0] [8,7,6] ([.int .i64 m,.slice Zf,.ptr (some (b,0))],s1))
   (.inl ([.int .i64 ((m:Int)-1),.slice hrow',.ptr (some (b,0))],s2))/\NewI σ3 b w l m hrow' s2:=by
 obtain⟨hl_,ps,R,G,lp,V⟩:=I.ex
 have q0:=Zd R (o:=0) rfl
 have bl:=R.lt
 obtain⟨r,hr⟩:∃ r,r=Bs.rowAt w l (m+1):=⟨_,rfl⟩
 have lr:r.length=l.length:=by rw [hr,Zcl]
 have hI:=I.row
 rw [<-hr] at hI
 obtain⟨s2,⟨k2,r2⟩,K2,len2,P2⟩:=Ze9 (σ:=s1) (n:=l.length) hl
 have I2:s2.Ints Zf r:=Store.Sl.kp hI K2
 obtain⟨lo,hi,s3,e3,K3,P3,glo,ghi,dd⟩:=Zv2 (k:=m) (pm:=some (b,0)) I2 len2 (fun x hx=>I.has x hx) (by rw [lr]; exact P2) (by rw [K2.prot]; omega) (by omega) (by omega) (fun x hx'=>hx x (by rw [hr] at hx'; exact (Zyi _ _ _ _).1 hx'))
 have l3:=K3.len
 have p3:s3.prot<=b:=by rw [K3.prot,K2.prot]; exact hp
 have K13:Kp s1.objs.length s1 s3:=K2.trans K3
 obtain⟨q,s4,⟨k4,r4⟩,K4,VF⟩:=Zfa P3 (by omega) (by simp; omega)
 have l4:=K4.len
 have K14:Kp s1.objs.length s1 s4:=K13.trans (K4.mono (by omega))
 have R4:=R.kp K14 bl
 have G4:Grow s4 (b+1) hl_ 1 (ptrsL ps):=G.kp K14
 have q4:=Zg R4 (o:=2) rfl
 have p4:s4.prot<=b:=by rw [K4.prot]; exact p3
 have lpl:ps.length<=24:=by omega
 obtain⟨hl',s5,e5,K5,G5,fr5,rw5⟩:=Grow.app1X G4 (by omega) R4.lt (v:=.ptr q) rfl (bs:=8) (by omega) (by simp; omega)
 have l5:=K5.len
 have R5:=R4.kp K5 (Qaa b)
 have p5:s5.prot<=b:=by rw [K5.prot]; exact p4
 have t5:=Zw R5 p5 (o:=2) (by simp) (v:=.slice hl') rfl
 obtain⟨s6,hs6⟩:∃ s,s=s5.setO b (.cells ([.int .i64 l.length,.int .i64 w,.slice hl_].set 2 (.slice hl')) true 3):=⟨_,rfl⟩
 rw [<-hs6] at t5
 have l6:s6.objs.length=s5.objs.length:=by rw [hs6]; exact setO_len
 have p6:s6.prot<=b:=by rw [hs6]; exact p5
 have R6:s6.Row b 3 [.int .i64 l.length,.int .i64 w,.slice hl']:=by rw [hs6]; exact Store.Row.setO_eq R5.lt
 have f6:∀ x,x≠b->s6.objs[x]?=s5.objs[x]?:=fun x hx=>by rw [hs6]; show (s5.objs.set b _)[x]?=_; rw [Qk,if_neg (by omega)]
 have hlr:∀ x,hl_.row=some x->x<s1.objs.length:=fun x hx=>G.has x hx
 have old5:∀ x,s1.objs.length<=x->x<s4.objs.length->s5.objs[x]?=s4.objs[x]?:=fun x h1 h2=>fr5 x h2 fun e=>by have:=hlr x e; omega
 have nlo:∀ x o,lo.a=some (x,o)->s1.objs.length+2<=x/\x<s3.objs.length:=fun x o e=>glo.rowLt x o e
 have nhi:∀ x o,hi.a=some (x,o)->s1.objs.length+2<=x/\x<s3.objs.length:=fun x o e=>ghi.rowLt x o e
 have keep36:∀ x,s1.objs.length<=x->x<s3.objs.length->s6.objs[x]?=s3.objs[x]?:=fun x h1 h2=>by rw [f6 x (by omega),old5 x h1 (by omega),K4.keep x h2]
 have glo6:GrowI s6 (s1.objs.length+2) lo (low m r):=glo.keep fun x o e=>keep36 x (by have:=nlo x o e; omega) (nlo x o e).2
 have ghi6:GrowI s6 (s1.objs.length+2) hi (high m r):=ghi.keep fun x o e=>keep36 x (by have:=nhi x o e; omega) (nhi x o e).2
 have lwl:=Zf4 m r
 have lh:=ghi6.ints.ilen
 have llo:=glo6.ints.ilen
 obtain⟨h7,s7,e7,K7,S7,O7,len7,fr7⟩:=Zbg (xs:=intsL (high m r)) (by_:=8) (m:=hi.len) glo6.sl glo6.own (by omega) (by omega) (by omega) (by simp; omega) (Zhi _) (by omega) (by omega)
 have l7:=K7.len
 have rd6:QaE s6 hi 1=some (intsL (high m r)):=Store.Sl.read ghi6.sl
 refine⟨h7,s7,?_,⟨?_,⟨hl',ps++[q],?_,?_,?_,?_⟩,?_,?_⟩⟩
 ·obtain⟨n3,e3⟩:=Zc e3
  refine⟨k2+n3+k4,fun k hk=>?_⟩
  have r2:=r2 k (by omega)
  have e3:=e3 k (by omega)
  have r4:=r4 k (by omega)
  simp only at r2 e3 r4
  have hrl:=I2.ilen
  have i0:(0:Int)<=m:=by omega
  have w1:Qa .i64 ((m:Int)-1)=m-1:=Za (by omega) (by omega)
  simp only [Zg8]
  simp only [stp,i0,q0,r2,hrl,e3]
  rw [Zeo]
  simp only [stp,r4,q4,Zbf,e5,t5,rd6,e7,w1]
 ·have k56:Kp b s5 s6:=by rw [hs6]; exact (Kp.refl _ _).setO (Qe _)
  exact (((I.kk.trans (K14.mono (by omega))).trans (K5.mono (by omega))).trans k56).trans (K7.mono (by omega))
 ·exact R6.kp K7 (by omega)
 ·rw [Zq9]
  refine (G5.keep fun x o e=>f6 x (by have:=G5.rowLt x o e; omega)).keep fun x o e=>?_
  have hx:hl'.row=some x:=by simp [Hdl.row,e]
  refine fr7 x (fun c o' e'=>?_) (by have:=(G5.rowLt x o e).2; omega)
  have:=nlo c o' e'
  rcases rw5 with h | h
  ·have:=hlr x (h ▸ hx); omega
  ·have:=h x hx; omega
 ·rw [Qm,lp]; simp; omega
 ·intro j hj
  by_cases c:j<w-(m+1)
  ·obtain⟨p,a,z,h1,h2,h3,h4,h5⟩:=V j c
   refine⟨p,a,z,by rw [Qp (by omega)]; exact h1,h2.keep fun x hx=>?_,h3,by omega,fun x hx=>?_⟩
   ·rw [fr7 x (fun c o' e'=>by have:=nlo c o' e'; omega) (by omega),f6 x (by omega),fr5 x (by omega) fun e=>h5 x e hx,K14.keep x (by omega)]
   ·rcases rw5 with h | h
    ·exact h5 x (h ▸ hx)
    ·have:=h x hx; omega
  ·have ej:j=w-(m+1):=by omega
   refine⟨q,s3.objs.length,s4.objs.length,by rw [Qn (by omega),lp,ej]; simp,?_,by omega,by omega,fun x hx=>?_⟩
   ·have e:lev w l j=r.map (bitb m):=by unfold lev; rw [hr,ej,show w-(w-(m+1))=m+1 by omega]; rfl
    rw [e]
    refine VF.keep fun x hx=>?_
    rw [fr7 x (fun c o' e'=>by have:=nlo c o' e'; omega) (by omega),f6 x (by omega),old5 x (by omega) hx.2]
   ·rcases rw5 with h | h
    ·have:=hlr x (h ▸ hx); omega
    ·have:=h x hx; omega
 ·rw [Zdo w l m hm,<-hr]
  have:=S7
  rw [<-Zd5] at this
  exact this
 ·intro x hx
  obtain⟨o,ho⟩:=Z44 hx
  obtain⟨_,cs,hc,_⟩:=O7.own x o ho
  exact (Qf.1 hc).1
end Go.Ab

namespace Go.Ab
open Go Go.Proofs Go.Ab.Wd Go.Ab.Bs Go.Ab.Sai
def okC(t:List Int)(al:Int):Bool:=decide (0<=al)&&decide (al<=4194304)&&!(t.any fun c=>decide (c<0) || decide (al<=c))
theorem Zts{t:List Int}{al:Int}:okC t al=true ↔ 0<=al/\al<=4194304/\∀ x∈t,0<=x/\x<al:=by
 simp only [okC,Qby,decide_eq_true_eq,Qbn,Qa5,QaN,and_assoc]
 refine and_congr_right fun _=>and_congr_right fun _=>?_
 exact⟨fun h x hx=>by have:=h x hx; omega,fun h x hx=>by have:=h x hx; omega⟩
def below(b:List Int)(c:Int):Int:=(cnt (fun x=>decide (x<c)) b:Nat)
def belows(b:List Int)(n:Nat):List Int:=(QN n).map fun c:Nat=>below b c
theorem Z2(b:List Int)(n:Nat):(belows b n).length=n:=by simp [belows]
theorem Zhw{b:List Int}{n:Nat}{c:Int}(h0:0<=c)(h1:c<n):rd (belows b n) c=below b c:=by
 obtain⟨c,rfl⟩:=Qg h0
 rw [Zb (by rw [Z2]; omega)]
 simp [belows]
theorem Zud(b:List Int)(c:Int):below b (c+1)=below b c+(cnt (fun x=>decide (x=c)) b:Nat):=by
 unfold below
 rw [<-QbB,<-Zo9 b fun x _=>by simp; omega]
 congr 1
 refine Zwn fun x _=>?_
 by_cases c1:x<c
 ·simp [c1]; omega
 ·by_cases c2:x=c
  ·simp [c2]; omega
  ·simp [c1,c2]; omega
theorem Zue{b:List Int}(h:∀ x∈b,0<=x):below b 0=0:=by
 unfold below Bs.cnt
 rw [QD.2 fun x hx=>by have:=h x hx; simp; omega]; rfl
theorem Zzc(b:List Int)(c:Int):0<=below b c/\below b c<=b.length:=by
 have:=cnt_le (fun x=>decide (x<c)) b
 unfold below; omega
theorem Zob{σ:Store}{b:Nat}{al:Int}(h:σ.ldInt .i64 (some (b,0))=some al)(x:Int):Runs Qb 176 [.int .i64 x,.ptr (some (b,0))] σ (.bool (decide (x<0) || decide (al<=x))) σ:=by
 refine rI Tryz.f176 (Ev.of fun k=>?_)
 rw [Z2e]
 by_cases c:x<0
 ·simp [c]
 ·simp [c,h]
structure CntI (b:List Int) (n:Nat) (i:Nat) (o:List Int):Prop where
 len:o.length=n+1
 zero:rd o 0=0
 val:∀ c:Int,0<=c->c<n->rd o (c+1)=(cnt (fun x=>decide (x=c)) (b.take i):Nat)
structure SumI (b:List Int) (n:Nat) (i:Nat) (o:List Int):Prop where
 len:o.length=n+1
 lo:∀ c:Int,0<=c->c<=i->rd o c=below b c
 hi:∀ c:Int,(i:Int)<=c->c<n->rd o (c+1)=(cnt (fun x=>decide (x=c)) b:Nat)
theorem Zup{σ:Store}{h:Hdl}{b:List Int}{al:Int}(hT:σ.Ints h b)(hp:σ.prot<=σ.objs.length)(hn:b.length<2^61) :
  ∃ ho σ',Runs Qb 124 [.slice h,.int .i64 al] σ (.tuple [.slice ho,.int .i64 (if okC b al=true then 0 else 2)]) σ'/\Kp σ.objs.length σ σ'/\σ'.Ints ho (if okC b al=true then belows b (al.toNat+1) else [])/\σ'.Has ho /\
   (okC b al=true->∃ N,σ.objs.length<=N/\ho=hdS N (al.toNat+1)/\σ'.Row N 1 (intsL (belows b (al.toNat+1)))):=by
 have ll:=hT.ilen
 obtain⟨σ1,h1⟩:∃ x,x=σ.push [.int .i64 al] 1:=⟨_,rfl⟩
 have k1:Kp σ.objs.length σ σ1:=by rw [h1]; exact Kp.push _ _ (Qe _)
 have len1:σ1.objs.length=σ.objs.length+1:=by rw [h1]; simp
 have R1:σ1.Row σ.objs.length 1 [.int .i64 al]:=by rw [h1]; exact Store.Row.new
 have ldr:∀ {s:Store},s.Row σ.objs.length 1 [.int .i64 al]->s.ldInt .i64 (some (σ.objs.length,0))=some al:=fun {s} r=>by simp only [Qah,r.cell]; simp
 have e1:=ldr R1
 have hT1:σ1.Ints h b:=Store.Sl.kp hT k1
 have bad:okC b al=false->(∃ k0,∀ k,k0<=k->evBody Qb (gm Qb k) QO k Tryz.f124 [.slice h,.int .i64 al] σ=some (.tuple [.slice Q3,.int .i64 2],σ1)) ->
   ∃ ho σ',Runs Qb 124 [.slice h,.int .i64 al] σ (.tuple [.slice ho,.int .i64 (if okC b al=true then 0 else 2)]) σ'/\Kp σ.objs.length σ σ'/\σ'.Ints ho (if okC b al=true then belows b (al.toNat+1) else [])/\σ'.Has ho /\
    (okC b al=true->∃ N,σ.objs.length<=N/\ho=hdS N (al.toNat+1)/\σ'.Row N 1 (intsL (belows b (al.toNat+1)))):=by
  intro hb hr
  rw [if_neg (by rw [hb]; simp),if_neg (by rw [hb]; simp)]
  exact⟨Hdl.nil,σ1,rI Tryz.f124 hr,k1,Zd6 _,Store.Has.nil _,fun h=>by rw [hb] at h; cases h⟩
 by_cases c1:al<0
 ·exact bad (by simp [okC]; omega) ⟨0,fun k _=>by rw [Zia,<-h1]; simp only [stp,e1,c1]⟩
 by_cases c2:4194304<al
 ·exact bad (by simp [okC]; omega) ⟨0,fun k _=>by rw [Zia,<-h1]; simp only [stp,e1,c1,c2]⟩
 obtain⟨k2,r2⟩:=Za0 (g:=176) (a:=[]) (c:=[.ptr (some (σ.objs.length,0))]) hT1 (by omega) (fun x _=>Zob e1 x)
 by_cases c4:(b.any fun c=>decide (c<0) || decide (al<=c))=true
 ·rw [c4] at r2
  refine bad (by simp only [okC,c4]; simp) ⟨k2,fun k hk=>?_⟩
  have r2:=r2 k hk
  simp only at r2
  rw [Zia,<-h1]; simp only [stp,e1,c1,c2,r2]
 have c4':(b.any fun c=>decide (c<0) || decide (al<=c))=false:=by simpa using c4
 have hok:okC b al=true:=by simp only [okC,c4']; simp; omega
 obtain⟨g1,g2,g3⟩:=Zts.1 hok
 obtain⟨n,rfl⟩:=Qg g1
 rw [if_pos hok,if_pos hok,show ((n:Int)).toNat=n by omega]
 have hrng:∀ x∈b,0<=x/\x<(n:Int):=g3
 obtain⟨σ2,h2⟩:∃ x,x=σ1.push (intsL (Ql (n+1) 0)) 1:=⟨_,rfl⟩
 have K2:Kp (σ.objs.length+1) σ1 σ2:=by rw [h2]; exact Kp.push _ _ (by omega)
 have R2:σ2.Row σ1.objs.length 1 (intsL (Ql (n+1) 0)):=by rw [h2]; exact Store.Row.new
 obtain⟨ra,ea,o3,σ3,rfl,K3,R3,M3⟩:=EvI.up (f:=fun k s=>Qam Qb (gm Qb k) QO k Tryz.f124 [1,1,1,0,1,0] [26,25,24,6,3] s) b.length
  (fun i s=>∃ o s1,s=([.int .i64 i,.int .i64 b.length,.slice h,.slice (hdS σ1.objs.length (n+1)),.ptr (some (σ.objs.length,0))],s1)/\Kp (σ.objs.length+1) σ1 s1/\s1.Row σ1.objs.length 1 (intsL o)/\CntI b n i o)
  (fun r=>∃ o s1,r=(Qw 0,[(6,.slice (hdS σ1.objs.length (n+1))),(3,.ptr (some (σ.objs.length,0)))],s1)/\Kp (σ.objs.length+1) σ1 s1/\s1.Row σ1.objs.length 1 (intsL o)/\CntI b n b.length o)
  (by
   rintro i s hi ⟨o,s1,rfl,kk,rr,m⟩
   have i0:(0:Int)<=i:=by omega
   have i1:(i:Int)<b.length:=by omega
   have w:=Zq hi (by omega)
   have rx:=Store.Ints.rd (Store.Sl.kp hT (k1.trans (kk.mono (by omega)))) i0 i1
   obtain⟨x0,x1⟩:=hrng _ (Ze i0 i1)
   have lo:=m.len
   have w1:Qa .i64 (rd b i+1)=rd b i+1:=Za (by omega) (by omega)
   have y0:0<=rd b i+1:=by omega
   have y1:rd b i+1<((n+1:Nat):Int):=by omega
   have ro:=rr.ld_ints (len:=n+1) (cp:=some (n+1)) y0 (by omega)
   have mv:=m.val _ x0 x1
   have cl:=cnt_le (fun x=>decide (x=rd b i)) (b.take i)
   rw [Qz] at cl
   have w2:Qa .i64 (rd o (rd b i+1)+1)=rd o (rd b i+1)+1:=Za (by omega) (by omega)
   have st:=Zcz (x:=rd o (rd b i+1)+1) (len:=n+1) (cp:=some (n+1)) rr (by rw [kk.prot,k1.prot]; omega) y0 (by omega)
   refine⟨_,Ev.of fun k=>by simp only [Zg1]; simp only [stp,ll,i0,i1,rx,w1,y0,y1,ro,w2,st,w],o.set (rd b i+1).toNat (rd o (rd b i+1)+1),_,rfl,kk.setO (by omega),Store.Row.setO_eq rr.lt,⟨by simpa using lo,?_,fun c c0 c1=>?_⟩⟩
   ·rw [Zs y0 (by omega) (Qat 0),if_neg (by omega)]; exact m.zero
   ·rw [Zs y0 (by omega) (by omega),Zah _ hi,m.val c c0 c1]
    by_cases e:rd b i=c
    ·rw [if_pos (by omega),if_pos (by simp [e]),mv,e]; omega
    ·rw [if_neg (by omega),if_neg (by simpa using e)]; omega)
  (by
   rintro s ⟨o,s1,rfl,kk,rr,m⟩
   exact⟨_,Ev.of fun k=>by simp only [Zg1]; simp only [stp,Qv],o,s1,rfl,kk,rr,m⟩)
  (s:=([.int .i64 0,.int .i64 b.length,.slice h,.slice (hdS σ1.objs.length (n+1)),.ptr (some (σ.objs.length,0))],σ2))
  ⟨_,σ2,rfl,K2,R2,⟨by simp,by simp [rd,QA],fun c c0 c1=>by
   obtain⟨c,rfl⟩:=Qg c0
   rw [show (c:Int)+1=((c+1:Nat):Int) by omega,Zb (by simp; omega)]
   simp [Bs.cnt]⟩⟩
 have e3:=ldr (R1.kp K3 (by omega))
 obtain⟨rb,eb,σ4,rfl,K4,R4⟩:=EvI.up (f:=fun k s=>Qam Qb (gm Qb k) QO k Tryz.f124 [1,1,1,1,0,1,0] [39,38,6] s) n
  (fun i s=>∃ o s1,s=([.int .i64 i,.int .i64 n,.slice (hdS σ1.objs.length (n+1))],s1)/\Kp (σ.objs.length+1) σ1 s1/\s1.Row σ1.objs.length 1 (intsL o)/\SumI b n i o)
  (fun r=>∃ s1,r=(Qw 2,[(6,.slice (hdS σ1.objs.length (n+1)))],s1)/\Kp (σ.objs.length+1) σ1 s1/\s1.Row σ1.objs.length 1 (intsL (belows b (n+1))))
  (by
   rintro i s hi ⟨o,s1,rfl,kk,rr,m⟩
   have i0:(0:Int)<=i:=by omega
   have i1:(i:Int)<n:=by omega
   have w:Qa .i64 ((i:Int)+1)=i+1:=Za (by omega) (by omega)
   have w':((i:Int)+1)=((i+1:Nat):Int):=by omega
   have lo:=m.len
   have y0:0<=(i:Int)+1:=by omega
   have y1:(i:Int)+1<((n+1:Nat):Int):=by omega
   have y2:(i:Int)<((n+1:Nat):Int):=by omega
   have ra:=rr.ld_ints (len:=n+1) (cp:=some (n+1)) y0 (by omega)
   have rb:=rr.ld_ints (len:=n+1) (cp:=some (n+1)) i0 (by omega)
   have v1:=m.hi i (Qat _) i1
   have v2:=m.lo i i0 (Qat _)
   have bs:=Zud b i
   have bl:=Zzc b (i+1)
   have w2:Qa .i64 (rd o ((i:Int)+1)+rd o i)=below b (i+1):=by rw [Za (by omega) (by omega)]; omega
   have st:=Zcz (x:=below b (i+1)) (len:=n+1) (cp:=some (n+1)) rr (by rw [kk.prot,k1.prot]; omega) y0 (by omega)
   refine⟨_,Ev.of fun k=>by simp only [Zgh]; simp only [stp,i0,i1,w,y0,y1,y2,ra,rb,w2,st]; rw [w'],o.set ((i:Int)+1).toNat (below b (i+1)),_,rfl,kk.setO (by omega),Store.Row.setO_eq rr.lt,⟨by simpa using lo,fun c c0 c1=>?_,fun c c0 c1=>?_⟩⟩
   ·rw [Zs y0 (by omega) c0]
    by_cases e:(i:Int)+1=c
    ·rw [if_pos e,e]
    ·rw [if_neg e]; exact m.lo c c0 (by omega)
   ·rw [Zs y0 (by omega) (by omega),if_neg (by omega)]; exact m.hi c (by omega) c1)
  (by
   rintro s ⟨o,s1,rfl,kk,rr,m⟩
   have:o=belows b (n+1):=Bs.ext_rd (by rw [m.len,Z2]) fun c c0 c1=>by
    have:=m.len
    rw [m.lo c c0 (by omega),Zhw c0 (by omega)]
   subst this
   exact⟨(Qw 2,[(6,.slice (hdS σ1.objs.length (n+1)))],s1),Ev.of fun k=>by simp only [Zgh]; simp only [stp,Qv],s1,rfl,kk,rr⟩)
  (s:=([.int .i64 0,.int .i64 n,.slice (hdS σ1.objs.length (n+1))],σ3))
  ⟨o3,σ3,rfl,K3,R3,⟨M3.len,fun c c0 c1=>by
   have:c=0:=by omega
   rw [this,M3.zero,Zue fun x hx=>(hrng x hx).1],fun c c0 c1=>by
   have:=M3.val c (by omega) c1
   rwa [Qaq] at this⟩⟩
 obtain⟨na,ea⟩:=Zc ea
 obtain⟨nb,eb⟩:=Zc eb
 refine⟨hdS σ1.objs.length (n+1),σ4,rI Tryz.f124 ⟨k2+na+nb,fun k hk=>?_⟩,k1.trans (K4.mono (by omega)),R4.sl (by simp [Z2]),fun x e=>by simp [Hdl.row] at e; have:=R4.lt; omega,fun _=>⟨_,by omega,rfl,R4⟩⟩
 have r2:=r2 k (by omega)
 have ea:=ea k (by omega)
 have eb:=eb k (by omega)
 simp only [c4'] at r2 ea eb
 have w1:Qa .i64 ((n:Int)+1)=((n+1:Nat):Int):=by rw [Za (by omega) (by omega)]; omega
 have b1:(0:Int)<=(n+1:Nat):=by omega
 have b2:((n+1:Nat):Int)*((8:Nat):Int)<=281474976710656:=by omega
 simp only [Zia,<-h1]
 simp only [stp,e1,c1,c2,r2,w1,b1,b2,Qat,Qc,Zbv,<-h2,ll,ea]
 rw [Zls]
 simp only [stp,e3,eb]
 rw [Zj5]
end Go.Ab

namespace Go.Ab
open Go Go.Proofs Go.Ab.Wd Go.Ab.Bs Go.Ab.Sai
theorem Z5z{σ:Store}{h:Hdl}{l:List Int}{most:Int}(hT:σ.Ints h l)(hp:σ.prot<=σ.objs.length)(hn:l.length<2^61)(hb:okW l most=false) :
  ∃ σ',Runs Qb 68 [.slice h,.int .i64 most] σ (.tuple [.ptr none,.int .i64 2]) σ'/\Kp σ.objs.length σ σ':=by
 have ll:=hT.ilen
 obtain⟨σ1,h1⟩:∃ x,x=σ.push [.int .i64 most] 1:=⟨_,rfl⟩
 have k1:Kp σ.objs.length σ σ1:=by rw [h1]; exact Kp.push _ _ (Qe _)
 have R1:σ1.Row σ.objs.length 1 [.int .i64 most]:=by rw [h1]; exact Store.Row.new
 have e1:σ1.ldInt .i64 (some (σ.objs.length,0))=some most:=by simp only [Qah,R1.cell]; simp
 refine⟨σ1,?_,k1⟩
 by_cases c1:most<0
 ·exact rI Tryz.f68 ⟨0,fun k _=>by simp only [Zg9]; simp only [stp,<-h1,e1,c1]⟩
 by_cases c2:(4194304:Int)<=most
 ·exact rI Tryz.f68 ⟨0,fun k _=>by simp only [Zg9]; simp only [stp,<-h1,e1,c1,c2]⟩
 by_cases c3:(4194304:Int)<h.len
 ·exact rI Tryz.f68 ⟨0,fun k _=>by simp only [Zg9]; simp only [stp,<-h1,e1,c1,c2,c3]⟩
 obtain⟨k2,r2⟩:=Za0 (g:=129) (a:=[]) (c:=[.ptr (some (σ.objs.length,0))]) (Store.Sl.kp hT k1) (by omega) (fun x _=>Zno e1 x)
 have c4:(l.any fun c=>decide (c<0) || decide (most<c))=true:=by
  cases c:(l.any fun c=>decide (c<0) || decide (most<c)) with
  | true=>rfl
  | false=>
   have:okW l most=true:=by
    simp only [okW,c]; simp; omega
   rw [this] at hb; cases hb
 rw [c4] at r2
 exact rI Tryz.f68 ⟨k2,fun k hk=>by
  have r2:=r2 k hk
  simp only at r2
  simp only [Zg9]; simp only [stp,<-h1,e1,c1,c2,c3,r2]⟩
theorem Zja{σ:Store}{h:Hdl}{l:List Int}{most:Int}(hT:σ.Ints h l)(hp:σ.prot<=σ.objs.length)(hok:okW l most=true) :
  ∃ p w σ',Runs Qb 68 [.slice h,.int .i64 most] σ (.tuple [.ptr p,.int .i64 0]) σ'/\Kp σ.objs.length σ σ'/\Mat σ' p l w/\IsWid most.toNat w/\p.isNone=false/\(∀ σ'':Store,(∀ x,σ.objs.length<=x->σ''.objs[x]?=σ'.objs[x]?)->Mat σ'' p l w):=by
 have ll:=hT.ilen
 obtain⟨m0,m1,ln,hx⟩:=Zmh.1 hok
 obtain⟨σ1,h1⟩:∃ x,x=σ.push [.int .i64 most] 1:=⟨_,rfl⟩
 have k1:Kp σ.objs.length σ σ1:=by rw [h1]; exact Kp.push _ _ (Qe _)
 have R1:σ1.Row σ.objs.length 1 [.int .i64 most]:=by rw [h1]; exact Store.Row.new
 have e1:σ1.ldInt .i64 (some (σ.objs.length,0))=some most:=by simp only [Qah,R1.cell]; simp
 have len1:=k1.len
 have c1:¬ most<0:=by omega
 have c2:¬ (4194304:Int)<=most:=by omega
 have c3:¬ (4194304:Int)<h.len:=by omega
 obtain⟨k2,r2⟩:=Za0 (g:=129) (a:=[]) (c:=[.ptr (some (σ.objs.length,0))]) (Store.Sl.kp hT k1) (by omega) (fun x _=>Zno e1 x)
 have c4:(l.any fun c=>decide (c<0) || decide (most<c))=false:=by
  simp only [Qa5,QaN,decide_eq_true_eq,not_or]
  exact fun x hx'=>by have:=hx x hx'; omega
 rw [c4] at r2
 obtain⟨w,⟨k3,r3⟩,W⟩:=Zn9 σ1 (x:=most.toNat) (by omega)
 have em:((most.toNat:Nat):Int)=most:=by omega
 rw [em] at r3
 have hw:=W.2.1
 have hw1:=W.1
 have u1:Qa .u64 most=most:=Zx (by omega) (by omega)
 obtain⟨b,hb⟩:∃ b,b=σ1.objs.length:=⟨_,rfl⟩
 obtain⟨σ2,h2⟩:∃ x,x=σ1.push [.int .i64 l.length,.int .i64 w,.slice Q3] 3:=⟨_,rfl⟩
 have k2':Kp b σ1 σ2:=by rw [h2,hb]; exact Kp.push _ _ (Qe _)
 have R2:σ2.Row b 3 [.int .i64 l.length,.int .i64 w,.slice Q3]:=by rw [h2,hb]; exact Store.Row.new
 have hp1:σ1.prot<=b:=by rw [k1.prot]; omega
 have hp2:σ2.prot<=b:=by rw [k2'.prot]; exact hp1
 have l2:=R2.lt
 obtain⟨hc,σ3,⟨k4,r4⟩,K3,G3⟩:=Zft (Store.Sl.kp (Store.Sl.kp hT k1) (hb ▸ k2')) (by omega) (by omega)
 have R3:=R2.kp K3 l2
 have e3:=Zd R3 (o:=1) rfl
 have hp3:σ3.prot<=b:=by rw [K3.prot]; exact hp2
 obtain⟨r,e,σ4,rfl,hcx,I4⟩:=EvI.downX (f:=fun k s=>Qam Qb (gm Qb k) QO k Tryz.f68 [1,1,1,1,0,1,0] [8,7,6] s)
  (fun m s=>∃ Zf s1,s=([.int .i64 ((m:Int)-1),.slice Zf,.ptr (some (b,0))],s1)/\m<=w/\NewI σ3 b w l m Zf s1)
  (fun r=>∃ s1,r=(Qw 0,[(6,.ptr (some (b,0)))],s1)/\∃ Zf,NewI σ3 b w l 0 Zf s1)
  (by
   rintro m s ⟨Zf,s1,rfl,hm,I⟩
   have em:((m+1:Nat):Int)-1=m:=by omega
   rw [em]
   obtain⟨h',s2,ev,I'⟩:=Zxy I (by omega) hw (by rw [I.kk.prot]; exact hp3) ln (fun x hx'=>by have:=hx x hx'; omega)
   exact .inl ⟨_,ev,h',s2,rfl,by omega,I'⟩)
  (by
   rintro s ⟨Zf,s1,rfl,hm,I⟩
   have c:¬ (0:Int)<=((0:Nat):Int)-1:=by omega
   exact⟨(Qw 0,[(6,.ptr (some (b,0)))],s1),Ev.of fun k=>by simp only [Zg8]; simp only [stp,c],s1,rfl,Zf,I⟩)
  w (s:=([.int .i64 ((w:Int)-1),.slice hc,.ptr (some (b,0))],σ3))
  ⟨hc,σ3,rfl,Qe _,Kp.refl _ _,⟨Hdl.nil,[],R3,Grow.nil _ _ _,by simp,fun j hj=>by omega⟩,by rw [Zey]; exact G3.ints,G3.has⟩
 obtain⟨n5,e⟩:=Zc e
 obtain⟨hl,ps,R4,G4,lp,V⟩:=I4.ex
 have rg:∀ x∈l,0<=x/\x<2^w:=fun x hx'=>by
  have:=hx x hx'
  have h3:=W.2.2.1
  have:((2:Int)^w)=((2^w:Nat):Int):=by simp
  omega
 refine⟨some (b,0),w,σ4,rI Tryz.f68 ⟨k2+k3+k4+n5,fun k hk=>?_⟩,?_,⟨⟨b,hl,ps,rfl,R4,G4.sl,by omega,fun j hj=>?_⟩,⟨by omega,by omega⟩,ln,rg⟩,W,rfl,fun σ'' fr=>⟨⟨b,hl,ps,rfl,(fr b (by omega)).trans R4,G4.sl.keep fun x o e=>fr x (by have:=G4.rowLt x o e; omega),by omega,fun j hj=>?_⟩,⟨by omega,by omega⟩,ln,rg⟩⟩
 ·have r2:=r2 k (by omega)
  have r3:=r3 k (by omega)
  have r4:=r4 k (by omega)
  have e:=e k (by omega)
  simp only at r2 r3 r4 e
  have w1:Qa .i64 ((w:Int)-1)=w-1:=Za (by omega) (by omega)
  simp only [Zg9]
  simp only [stp,<-h1,e1,c1,c2,ll] at c3 ⊢
  simp only [stp,c3]
  rw [ll] at *
  simp only [stp,r2,e1,u1,r3,<-h2,r4,<-hb,e3,w1,e]
  rw [Zl8]
 ·exact k1.all (hb ▸ (k2'.trans (K3.mono (by omega))).trans I4.kk)
 ·obtain⟨p,lo,hi,h1,h2,_⟩:=V j (by omega)
  exact⟨p,h1,h2.vec⟩
 ·obtain⟨p,lo,hi,h1,h2,h3,_⟩:=V j (by omega)
  exact⟨p,h1,(h2.keep fun x hx=>fr x (by omega)).vec⟩
end Go.Ab

namespace Go.Ab.Bs
open Go.Ab.Wd
def pre(k c:Nat)(x:Int):Bool:=decide (x.toNat / 2^k=c)
def bn(b:Bool):Nat:=if b=true then 1 else 0
theorem Zje(x k:Nat):x / 2^(k+1)=x / 2^k / 2:=by rw [QM,Qi]
theorem Z0j(k c:Nat)(one:Bool)(x:Int):pre k (2*c+bn one) x=(pre (k+1) c x&&(bitb k x == one)):=by
 unfold pre bitb bn
 rw [Zje]
 generalize x.toNat / 2^k=u
 rw [Bool.eq_iff_iff]
 cases one <;> simp <;> omega
theorem Part.step{w:Nat}{l s:List Int}{a k c:Nat}(hk:k<w)(h:Part (rowAt w l (k+1)) a (s.filter (pre (k+1) c)))(one:Bool) :
  Part (rowAt w l k) (goto ((rowAt w l (k+1)).map (bitb k)) a one) (s.filter (pre k (2*c+bn one))) /\
   goto ((rowAt w l (k+1)).map (bitb k)) (a+(s.filter (pre (k+1) c)).length) one=goto ((rowAt w l (k+1)).map (bitb k)) a one+(s.filter (pre k (2*c+bn one))).length:=by
 have h1:=h.down k one
 rw [List.filter_filter] at h1
 have e:(fun a=>(bitb k a == one)&&pre (k+1) c a)=pre k (2*c+bn one):=by funext x; rw [Z0j k c one x,Bool.and_comm]
 rw [e] at h1
 rw [Zdo w l k hk]
 exact h1
theorem Zmm{w:Nat}{x:Int}(hx:x.toNat<2^w):pre w 0 x=true:=by
 unfold pre; rw [QP hx]; simp
theorem Part.top{w:Nat}{l:List Int}(hl:∀ x∈l,x.toNat<2^w){a b:Nat}(hab:a<=b)(hb:b<=l.length):Part (rowAt w l w) a (((l.take b).drop a).filter (pre w 0)):=by
 rw [Zey,Qbd.2]
 ·exact Part.of_take hab hb
 ·exact fun x hx=>Zmm (hl x (Q7 (QaZ hx)))
theorem Zq8{c:Nat}{x:Int}(hx:0<=x):pre 0 c x=decide (x=c):=by
 unfold pre; simp only [Qa0,Qb5]; congr 1; exact propext (by omega)
theorem Zdq(B:List Bool)(i:Nat):zerosTo B i=goto B i false:=by simp [goto]
theorem Zm9(B:List Bool)(one:Bool){i j:Nat}(h:i<=j)(hj:j<=B.length):goto B i one<=goto B j one:=by
 have e:j=i+(j-i):=by omega
 unfold goto
 split
 ·have:=Zi5 B h; omega
 ·unfold zerosTo
  have h1:=Zcb B i
  have h2:=Zi5 B h
  have:onesTo B j<=onesTo B i+(j-i):=by
   clear h1 h2 hj
   obtain⟨d,rfl⟩:∃ d,j=i+d:=⟨j-i,e⟩
   rw [Qa7]
   induction d with
   | zero=>simp
   | succ d ih=>have:=ih (by omega) (by omega); rw [<-Qas,Zc2]; split <;> omega
  omega
end Go.Ab.Bs

namespace Go.Ab
open Go Go.Proofs Go.Ab.Wd Go.Ab.Bs Go.Ab.Sai
theorem Zty{σ:Store}{h:Hdl}{ps:List Ptr}(s:σ.Sl h 1 (ptrsL ps)){j:Nat}{q:Ptr}(hj:ps[j]?=some q):σ.ldPtr (h.idx (j:Int) 1)=some q:=by
 have:σ.cell (h.idx (j:Int) 1)=some (.ptr q):=Store.Sl.at s (by omega) (by simp [ptrsL,hj])
 simp [Qb6,this]
section
variable {σ:Store} {p:Ptr} {l:List Int} {w:Nat}
theorem Mat.facts(m:Mat σ p l w):∃ b hl,p=some (b,0)/\σ.ldInt .i64 (QG (some (b,0)) 0)=some (l.length:Int)/\σ.ldInt .i64 (QG (some (b,0)) 1)=some (w:Int)/\σ.ldSl (QG (some (b,0)) 2)=some hl/\hl.len=w /\
  ∀ j,j<w->∃ q,σ.ldPtr (hl.idx (j:Int) 1)=some q/\Vec σ q (lev w l j):=by
 obtain⟨b,hl,ps,rfl,R,S,lp,V⟩:=m.ex
 refine⟨b,hl,rfl,Zd R (o:=0) rfl,Zd R (o:=1) rfl,Zg R (o:=2) rfl,?_,fun j hj=>?_⟩
 ·have:=S.len; simp at this; omega
 ·obtain⟨q,e,v⟩:=V j hj
  exact⟨q,Zty S e,v⟩
theorem Mat.nat(m:Mat σ p l w):∀ x∈l,x.toNat<2^w:=fun x hx=>by
 have:=m.rng x hx
 have e:((2:Int)^w)=((2^w:Nat):Int):=by simp
 omega
theorem Zvc(w:Nat)(l:List Int)(j:Nat):(lev w l j).length=l.length:=by simp [lev,Zcl]
theorem Zkr{w j k:Nat}(l:List Int)(h:w=j+(k+1)):lev w l j=(Bs.rowAt w l (k+1)).map (bitb k):=by
 unfold lev; rw [show w-j=k+1 by omega]; rfl
theorem Zku(m:Mat σ p l w):Runs Qb 189 [.ptr p] σ (.int .i64 l.length) σ:=by
 obtain⟨b,hl,rfl,e0,e1,e2,_,_⟩:=m.facts
 exact rI Tryz.f189 (Ev.of fun k=>by rw [Z2m]; simp only [stp,Qd,e0])
theorem Zwf{w j k a:Nat}{l:List Int}{x:Int}(h:w=j+(k+1))(P:Part (Bs.rowAt w l (k+1)) a [x]):bitAt (lev w l j) a=bitb k x:=by
 have:=P.get (i:=0) (by simp)
 unfold bitAt
 rw [Zkr l h,Qbo,show a=a+0 by omega,this]
 simp
theorem Zxs(m:Mat σ p l w)(i:Int):Runs Qb 191 [.ptr p,.int .i64 i] σ (.int .i64 (if 0<=i/\i<l.length then rd l i else -1)) σ:=by
 by_cases c0:i<0
 ·rw [if_neg (by omega)]
  exact rI Tryz.f191 (Ev.of fun k=>by rw [Zl1]; simp only [stp,c0])
 obtain⟨k1,r1⟩:=Zku m
 by_cases c1:(l.length:Int)<=i
 ·rw [if_neg (by omega)]
  exact rI Tryz.f191 ⟨k1,fun k hk=>by
   have r1:=r1 k hk
   simp only at r1
   simp only [Zl1]; simp only [stp,c0,r1,c1]⟩
 obtain⟨b,hl,rfl,e0,e1,e2,ln,V⟩:=m.facts
 have sm:=m.small
 have hw:=m.wid
 obtain⟨x,hx⟩:∃ x,x=rd l i:=⟨_,rfl⟩
 have hxl:x∈l:=by rw [hx]; exact Ze (by omega) (by omega)
 have hxw:=m.nat x hxl
 have hx0:=(m.rng x hxl).1
 rw [if_pos (by omega),<-hx]
 have p24:2^w<=2^24:=Qh (by omega) hw.2
 obtain⟨r,e,rfl⟩:=EvI.up (f:=fun k s=>Qam Qb (gm Qb k) QO k Tryz.f191 [1,1,1,0,1,0] [22,21,20,5,1] s) w
  (fun j s=>∃ a:Nat,s=([.int .i64 j,.int .i64 w,.slice hl,.int .i64 (x.toNat / 2^(w-j):Nat),.int .i64 a],σ)/\j<=w/\Part (Bs.rowAt w l (w-j)) a [x])
  (fun r=>r=(Qw 0,[(5,.int .i64 x)],σ))
  (by
   rintro j s hj ⟨a,rfl,_,P⟩
   obtain⟨k,hk⟩:∃ k,w=j+(k+1):=⟨w-j-1,by omega⟩
   rw [show w-j=k+1 by omega] at P
   rw [show w-j=k+1 by omega,show w-(j+1)=k by omega]
   obtain⟨q,lq,vq⟩:=V j hj
   obtain⟨n1,r1⟩:=Zy5 vq a
   have j0:(0:Int)<=j:=by omega
   have j1:(j:Int)<w:=by omega
   have j2:(j:Int)<hl.len:=by omega
   have w1:=Zq hj (by omega)
   rw [Qc,Zwf hk P] at r1
   obtain⟨n2,r2⟩:=Zjh vq a (bitb k x)
   rw [Qc] at r2
   have st:=P.down k (bitb k x)
   have e1:([x].filter fun y=>bitb k y == bitb k x)=[x]:=by simp
   rw [e1,<-Zdo w l k (by omega),<-Zkr l hk] at st
   have dv:=Zje x.toNat k
   have d1:x.toNat / 2^k<=x.toNat:=Q4 _ _
   have hbk:bitb k x=decide (x.toNat / 2^k % 2=1):=rfl
   obtain⟨v,hv⟩:∃ v,v=x.toNat / 2^k:=⟨_,rfl⟩
   obtain⟨u,hu⟩:∃ u,u=x.toNat / 2^(k+1):=⟨_,rfl⟩
   rw [<-hu,<-hv] at dv
   rw [<-hv] at d1 hbk
   rw [<-hu,<-hv]
   have w2:Qa .i64 (2*(u:Int))=((2*u:Nat):Int):=by rw [Za (by omega) (by omega)]; omega
   have w3:Qa .i64 (((2*u:Nat):Int)+1)=((2*u+1:Nat):Int):=by rw [Za (by omega) (by omega)]; omega
   refine⟨([.int .i64 (j+1:Nat),.int .i64 w,.slice hl,.int .i64 (v:Nat),.int .i64 (goto (lev w l j) a (bitb k x):Nat)],σ),⟨n1+n2,fun m' hm=>?_⟩,_,rfl,by omega,st.1⟩
   have r1:=r1 m' (by omega)
   have r2:=r2 m' (by omega)
   have a0:decide ((0:Int)<=(a:Int))=true:=by simp
   rw [a0,QbK] at r1
   simp only at r1 r2
   simp only [Zg4]
   cases hb:bitb k x with
   | true=>
    rw [hb] at r1 r2
    have:v=2*u+1:=by rw [hbk,decide_eq_true_eq] at hb; omega
    simp only [stp,j0,j1,j2,lq,r1,r2,w1,w2,w3,this]
   | false=>
    rw [hb] at r1 r2
    have:v=2*u:=by rw [hbk,decide_eq_false_iff_not] at hb; omega
    simp only [stp,j0,j1,j2,lq,r1,r2,w1,w2,this])
  (by
   rintro s ⟨a,rfl,_,P⟩
   rw [Qan,Qa0,Qb5,show ((x.toNat:Nat):Int)=x by omega]
   exact⟨_,Ev.of fun k=>by simp only [Zg4]; simp only [stp,Qv],rfl⟩)
  (s:=([.int .i64 0,.int .i64 w,.slice hl,.int .i64 0,.int .i64 i],σ))
  ⟨i.toNat,by rw [show ((i.toNat:Nat):Int)=i by omega,Qbp,QP hxw]; rfl,by omega,by
   rw [Qbp,Zey]
   have h1:=Part.of_take (r:=l) (a:=i.toNat) (b:=i.toNat+1) (by omega) (by omega)
   have h2:(l.take (i.toNat+1)).drop i.toNat=[x]:=by
    rw [List.drop_take,show i.toNat+1-i.toNat=1 by omega,Zh8 (by omega:i.toNat<l.length)]
    simp [hx,show max i 0=i by omega]
   rw [h2] at h1; exact h1⟩
 obtain⟨n2,e⟩:=Zc e
 refine rI Tryz.f191 ⟨k1+n2,fun k hk=>?_⟩
 have r1:=r1 k (by omega)
 have e:=e k (by omega)
 simp only at r1 e
 simp only [Zl1]
 simp only [stp,c0,r1,c1,e2,ln,e]
 rw [Zl0]
end
end Go.Ab

namespace Go.Ab
open Go Go.Proofs Go.Ab.Wd Go.Ab.Bs Go.Ab.Sai
theorem Z3x{a s:Nat}(hs:s<=64):shrI .i64 (a:Int) (s:Int)=((a / 2^s:Nat):Int):=by
 have e:IntKind.i64.bits=64:=by decide
 unfold shrI
 rw [e,Qc,Qs hs,QY _ (Qbl (Qb2 (by omega)))]
 simp
def apath(w:Nat)(l:List Int)(c:Int):Nat->Nat
 | 0=>0
 | j+1=>goto (lev w l j) (apath w l c j) (bitb (w-j-1) c)
theorem Z1j(c:Int)(k:Nat):c.toNat / 2^k=2*(c.toNat / 2^(k+1))+bn (bitb k c):=by
 rw [Zje]
 unfold bitb bn
 generalize c.toNat / 2^k=u
 by_cases h:u % 2=1
 ·simp [h]; omega
 ·simp [h]; omega
section
variable {σ:Store} {p:Ptr} {l:List Int} {w:Nat}
theorem Z29(m:Mat σ p l w)(c:Int):Runs Qb 229 [.ptr p,.int .i64 c] σ (.bool (decide (0<=c/\c.toNat<2^w))) σ:=by
 obtain⟨b,hl,rfl,e0,e1,e2,ln,V⟩:=m.facts
 have hw:=m.wid
 refine rI Tryz.f229 (Ev.of fun k=>?_)
 simp only [Z2x]
 by_cases c0:0<=c
 ·have q:shrI .i64 c (w:Int)=((c.toNat / 2^w:Nat):Int):=by
   have:=Z3x (a:=c.toNat) (s:=w) (by omega)
   rwa [show ((c.toNat:Nat):Int)=c by omega] at this
  have w0:(0:Int)<=w:=by omega
  simp only [stp,Qd,c0,e1,w0,q]
  have e:(((c.toNat / 2^w:Nat):Int)=0)=(c.toNat<2^w):=by
   have hd:=Nat.div_eq_zero_iff (a:=c.toNat) (b:=2^w)
   have p2:2^w≠0:=Nat.pos_iff_ne_zero.1 (QI w)
   apply propext
   constructor
   ·intro h
    have h':c.toNat / 2^w=0:=Int.ofNat_inj.1 h
    rcases hd.1 h' with h2 | h2
    ·exact absurd h2 p2
    ·exact h2
   ·intro h; rw [QP h]; rfl
  simp only [e]
 ·simp only [stp,Qd,c0]
theorem Zzv{s:List Int}(h:∀ x∈s,0<=x){c:Int}(hc:0<=c):(s.filter (pre 0 c.toNat)).length=Bs.cnt (fun x=>decide (x=c)) s:=by
 unfold Bs.cnt
 congr 1
 apply Qbq
 intro x hx
 rw [Zq8 (h x hx)]; congr 1; exact propext (by omega)
theorem Zro(m:Mat σ p l w){c:Int}(c0:0<=c)(cw:c.toNat<2^w){i:Nat}(hi:i<=l.length) :
  Runs Qb 230 [.ptr p,.int .i64 c,.int .i64 i] σ (.tuple [.int .i64 (apath w l c w),.int .i64 (apath w l c w+Bs.cnt (fun x=>decide (x=c)) (l.take i):Nat)]) σ /\
   Part (Bs.rowAt w l 0) (apath w l c w) ((l.take i).filter (pre 0 c.toNat)):=by
 obtain⟨b,hl,rfl,e0,e1,e2,ln,V⟩:=m.facts
 have hw:=m.wid
 have sm:=m.small
 have p24:2^w<=2^24:=Qh (by omega) hw.2
 obtain⟨r,e,rfl,PP⟩:=EvI.up (f:=fun k s=>Qam Qb (gm Qb k) QO k Tryz.f230 [1,1,0,1,0] [17,16,15,8,2,1,0] s) w
  (fun j s=>s=([.int .i64 j,.int .i64 w,.slice hl,.int .i64 (apath w l c j:Nat),.int .i64 (apath w l c j+((l.take i).filter (pre (w-j) (c.toNat / 2^(w-j)))).length:Nat),.int .i64 c,.ptr (some (b,0))],σ) /\
   Part (Bs.rowAt w l (w-j)) (apath w l c j) ((l.take i).filter (pre (w-j) (c.toNat / 2^(w-j)))))
  (fun r=>r=(Qw 0,[(8,.int .i64 (apath w l c w:Nat)),(2,.int .i64 (apath w l c w+((l.take i).filter (pre 0 c.toNat)).length:Nat))],σ)/\Part (Bs.rowAt w l 0) (apath w l c w) ((l.take i).filter (pre 0 c.toNat)))
  (by
   rintro j s hj ⟨rfl,P⟩
   obtain⟨k,hk⟩:∃ k,w=j+(k+1):=⟨w-j-1,by omega⟩
   rw [show w-j=k+1 by omega] at P ⊢
   rw [show w-(j+1)=k by omega]
   obtain⟨q,lq,vq⟩:=V j hj
   have j0:(0:Int)<=j:=by omega
   have j1:(j:Int)<w:=by omega
   have j2:(j:Int)<hl.len:=by omega
   have w1:=Zq hj (by omega)
   have st:=P.step (by omega) (bitb k c)
   rw [<-Zkr l hk,<-Z1j c k] at st
   have ea:apath w l c (j+1)=goto (lev w l j) (apath w l c j) (bitb k c):=by rw [apath,show w-j-1=k by omega]
   rw [<-ea] at st
   obtain⟨n1,r1⟩:=Zjh vq (apath w l c j:Nat) (bitb k c)
   obtain⟨n2,r2⟩:=Zjh vq (apath w l c j+((l.take i).filter (pre (k+1) (c.toNat / 2^(k+1)))).length:Nat) (bitb k c)
   rw [Qc] at r1 r2
   rw [<-ea] at r1
   rw [st.2] at r2
   have wk:Qa .i64 (Qa .i64 ((w:Int)-1)-j)=(k:Nat):=by rw [Za (x:=(w:Int)-1) (by omega) (by omega),Za (by omega) (by omega)]; omega
   have k0:(0:Int)<=(k:Nat):=by omega
   have bt:decide (bitOp .and .i64 (shrI .i64 c (k:Nat)) 1=1)=bitb k c:=by
    cases h:bitb k c with
    | true=>rw [decide_eq_true (Zwh c0 (by omega) (by omega) h)]
    | false=>rw [decide_eq_false (Zsu c0 (by omega) (by omega) h)]
   refine⟨_,⟨n1+n2,fun m' hm=>?_⟩,rfl,st.1⟩
   have r1:=r1 m' (by omega)
   have r2:=r2 m' (by omega)
   simp only at r1 r2
   simp only [Ziq]
   simp only [stp,j0,j1,j2,lq,e1,wk,k0,bt,r1,r2,w1])
  (by
   rintro s ⟨rfl,P⟩
   rw [Qan,Qa0,Qb5] at P ⊢
   exact⟨_,Ev.of fun k=>by simp only [Ziq]; simp only [stp,Qv],rfl,P⟩)
  (s:=([.int .i64 0,.int .i64 w,.slice hl,.int .i64 0,.int .i64 i,.int .i64 c,.ptr (some (b,0))],σ))
  (by
   have P:=Part.top (w:=w) (l:=l) m.nat (a:=0) (b:=i) (by omega) hi
   have ef:(l.take i).filter (pre w 0)=l.take i:=Qbd.2 fun x hx=>Zmm (m.nat x (Q7 hx))
   rw [Qbp,QP cw]
   refine⟨?_,by simpa [apath] using P⟩
   rw [ef,Qz,Qs hi,apath,Q0]; rfl)
 rw [Zzv (fun x hx=>(m.rng x (Q7 hx)).1) c0] at e
 obtain⟨n2,e⟩:=Zc e
 refine⟨rI Tryz.f230 ⟨n2,fun k hk=>?_⟩,PP⟩
 have e:=e k hk
 simp only at e
 simp only [Z2y]
 simp only [stp,e2,ln,e]
 rw [Zoq]
theorem Ze8(m:Mat σ p l w)(c i:Int):Runs Qb 192 [.ptr p,.int .i64 c,.int .i64 i] σ (.int .i64 (Bs.cnt (fun x=>decide (x=c)) (l.take i.toNat):Nat)) σ:=by
 obtain⟨k1,r1⟩:=Z29 m c
 have sm:=m.small
 by_cases h:0<=c/\c.toNat<2^w
 ·obtain⟨b,hl,rfl,e0,e1,e2,ln,V⟩:=m.facts
  obtain⟨⟨k2,r2⟩,_⟩:=Zro m h.1 h.2 (i:=min i.toNat l.length) (by omega)
  have P:=(Zro m h.1 h.2 (i:=l.length) (Qe _)).2.le
  rw [Zcl] at P
  have et:l.take (min i.toNat l.length)=l.take i.toNat:=by
   by_cases c:i.toNat<=l.length
   ·rw [Qs c]
   ·rw [Qbv (by omega),Qaq,QC (by omega)]
  rw [et] at r2
  have em:mx2 (Qbw 0) (mn2 i l.length)=((min i.toNat l.length:Nat):Int):=by rw [Zbw,Zbx]; simp only [QZ]; omega
  have cl:=cnt_le (fun x=>decide (x=c)) (l.take i.toNat)
  rw [Qz] at cl
  have w1:Qa .i64 (((apath w l c w+Bs.cnt (fun x=>decide (x=c)) (l.take i.toNat):Nat):Int)-(apath w l c w:Nat))=(Bs.cnt (fun x=>decide (x=c)) (l.take i.toNat):Nat):=by rw [Za (by omega) (by omega)]; omega
  rw [decide_eq_true h] at r1
  refine rI Tryz.f192 ⟨k1+k2,fun k hk=>?_⟩
  have r1:=r1 k (by omega)
  have r2:=r2 k (by omega)
  simp only at r1 r2
  simp only [Ztc]
  simp only [stp,r1,e0,em,r2,w1]
 ·have e:Bs.cnt (fun x=>decide (x=c)) (l.take i.toNat)=0:=by
   unfold Bs.cnt
   rw [QD.2]
   ·rfl
   ·intro x hx
    have hxl:=Q7 hx
    have h1:=m.nat x hxl
    have h2:=m.rng x hxl
    simp only [decide_eq_true_eq]
    rintro rfl
    exact h ⟨h2.1,h1⟩
  rw [e]
  rw [decide_eq_false h] at r1
  refine rI Tryz.f192 ⟨k1,fun k hk=>?_⟩
  have r1:=r1 k (by omega)
  simp only at r1
  simp only [Ztc]
  simp only [stp,r1]
  rfl
end
end Go.Ab

namespace Go.Ab.Bs
open Go.Ab.Wd
theorem Zqk(p:Int->Bool):∀ (l:List Int) (k:Nat),k<cnt p l->∃ P:Nat,P<l.length/\p (rd l P)=true/\cnt p (l.take P)=k
 | [],k,h=>by simp [cnt] at h
 | x::l,k,h=>by
  rw [cnt_cons] at h
  have e:∀ P:Nat,P<l.length->rd (x::l) ((P+1:Nat):Int)=rd l (P:Int):=fun P hP=>by rw [Zb (by simp; omega),Zb hP]; simp
  by_cases hx:p x=true
  ·rw [if_pos hx] at h
   cases k with
   | zero=>exact⟨0,by simp,by rw [Zb (by simp)]; simpa using hx,by simp [cnt]⟩
   | succ k=>
    obtain⟨P,h1,h2,h3⟩:=Zqk p l k (by omega)
    refine⟨P+1,by simp; omega,by rw [e P h1]; exact h2,?_⟩
    rw [Qay,cnt_cons,if_pos hx,h3]; omega
  ·rw [if_neg hx] at h
   obtain⟨P,h1,h2,h3⟩:=Zqk p l k (by omega)
   refine⟨P+1,by simp; omega,by rw [e P h1]; exact h2,?_⟩
   rw [Qay,cnt_cons,if_neg hx,h3]; omega
theorem Za5(p:Int->Bool)(l:List Int){i j:Nat}(h:i<=j):cnt p (l.take i)<=cnt p (l.take j):=by
 rw [show l.take j=l.take i++(l.drop i).take (j-i) by rw [<-List.take_add]; congr 1; omega,Zdk]; omega
def narrow(b:List Int)(c:Int)(a:Nat):Nat:=cnt (fun x=>decide (x<c)) b+cnt (fun x=>decide (x=c)) (b.take a)
theorem Z08{b:List Int}{i:Nat}:lf b i=(narrow b (rd b i) i:Nat):=by
 unfold lf narrow; rw [Qc]
theorem Zvg{b:List Int}{c:Int}{a z:Nat}(haz:a<=z)(hz:z<=b.length)(j:Nat):(narrow b c a<=j/\j<narrow b c z) ↔ ∃ i:Nat,a<=i/\i<z/\rd b i=c/\lf b i=j:=by
 constructor
 ·rintro⟨h1,h2⟩
  unfold narrow at h1 h2
  have hk:j-cnt (fun x=>decide (x<c)) b<cnt (fun x=>decide (x=c)) b:=by
   have:=Ze2 (fun x=>decide (x=c)) b z; omega
  obtain⟨P,p1,p2,p3⟩:=Zqk _ b _ hk
  have pc:rd b P=c:=by simpa using p2
  have s1:=Zah (fun x=>decide (x=c)) p1
  rw [if_pos p2] at s1
  refine⟨P,?_,?_,pc,by rw [Z08,pc]; unfold narrow; omega⟩
  ·rcases QaG P a with h | h
   ·have:=Za5 (fun x=>decide (x=c)) b (i:=P+1) (j:=a) (by omega); omega
   ·exact h
  ·rcases QaG P z with h | h
   ·exact h
   ·have:=Za5 (fun x=>decide (x=c)) b h; omega
 ·rintro⟨i,h1,h2,h3,h4⟩
  rw [Z08,h3] at h4
  have h5:narrow b c i=j:=by omega
  have s1:=Zah (fun x=>decide (x=c)) (show i<b.length by omega)
  rw [if_pos (by simpa using h3)] at s1
  have m1:=Za5 (fun x=>decide (x=c)) b h1
  have m2:=Za5 (fun x=>decide (x=c)) b (i:=i+1) (j:=z) (by omega)
  unfold narrow at *
  omega
end Go.Ab.Bs
namespace Go.Ab.Bs
open Go.Ab.Wd
def Pf(t:List Int)(q:Int)(p:List Int):Prop:=0<=q/\q+p.length<=t.length/\∀ k:Nat,k<p.length->rd t (q+k)=rd p k
theorem Pf.nil{t:List Int}{q:Int}(h0:0<=q)(h1:q<=t.length):Pf t q []:=⟨h0,by simpa using h1,fun k hk=>by simp at hk⟩
theorem Zt2(x:Int)(l:List Int)(k:Nat)(hk:k<l.length):rd (x::l) ((k+1:Nat):Int)=rd l (k:Int):=by rw [Zb (by simp; omega),Zb hk]; simp
theorem Zt3(x:Int)(l:List Int):rd (x::l) 0=x:=by
 have:=Zb (l:=x::l) (i:=0) (by simp)
 simpa using this
theorem Pf.cons_iff{t p:List Int}{q c:Int}(hq:0<=q)(_:q<t.length):Pf t q (c::p) ↔ rd t q=c/\Pf t (q+1) p:=by
 constructor
 ·rintro⟨_,h2,h3⟩
  simp only [Q6] at h2 h3
  refine⟨?_,by omega,by omega,fun k hk=>?_⟩
  ·have:=h3 0 (by omega)
   rw [Qbz,QbM,Zt3] at this; exact this
  ·have:=h3 (k+1) (by omega)
   rw [Zt2 c p k hk] at this
   rw [<-this]; congr 1; omega
 ·rintro⟨h1,_,h2,h3⟩
  refine⟨hq,by simp only [Q6]; omega,fun k hk=>?_⟩
  simp only [Q6] at hk
  cases k with
  | zero=>rw [Qbz,QbM,Zt3]; exact h1
  | succ k=>
   rw [Zt2 c p k (by omega),<-h3 k (by omega)]; congr 1; omega
structure IsRng (t sa p:List Int) (a z:Nat):Prop where
 le:a<=z
 lz:z<=t.length
 iff:∀ j:Nat,j<t.length->((a<=j/\j<z) ↔ Pf t (rd sa j) p)
theorem IsRng.all{t sa:List Int}(h:IsSA t sa):IsRng t sa [] 0 t.length:=
 ⟨by omega,Qe _,fun j hj=>by
  have hl:=h.perm.len
  have:=h.perm.rng _ (Ze (l:=sa) (i:=(j:Int)) (by omega) (by omega))
  exact⟨fun _=>Pf.nil this.1 (by omega),fun _=>⟨by omega,hj⟩⟩⟩
theorem Zsd{b:List Int}{c:Int}{a z:Nat}(h:a<=z):narrow b c a<=narrow b c z:=by
 unfold narrow; have:=Za5 (fun x=>decide (x=c)) b h; omega
theorem Zho{b:List Int}{c:Int}{a:Nat}:narrow b c a<=b.length:=by
 unfold narrow
 have h1:=Ze2 (fun x=>decide (x=c)) b a
 have h2:=Zo9 (p:=fun x=>decide (x<c)) (q:=fun x=>decide (x=c)) b (fun x _=>by simp; omega)
 have h3:=cnt_le (fun x=>decide (x<c) || decide (x=c)) b
 omega
theorem IsRng.step{t sa p:List Int}{a z:Nat}{c:Int}(h:IsSA t sa)(he:Ends t)(R:IsRng t sa p a z)(hc:p=[]\/c≠rd t (t.length-1)) :
  IsRng t sa (c::p) (narrow (bwtOf t sa) c a) (narrow (bwtOf t sa) c z):=by
 have hl:=h.perm.len
 have bl:(bwtOf t sa).length=t.length:=by rw [Zaa]; exact hl
 refine⟨Zsd R.le,bl ▸ Zho,fun j hj=>?_⟩
 rw [Zvg R.le (by rw [bl]; exact R.lz)]
 have rj:=h.perm.rng _ (Ze (l:=sa) (i:=(j:Int)) (by omega) (by omega))
 rw [Pf.cons_iff rj.1 rj.2]
 constructor
 ·rintro⟨i,i1,i2,i3,i4⟩
  have hi:(i:Int)<t.length:=by have:=R.lz; omega
  have ls:=Zmc h he (i:=(i:Int)) (by omega) hi
  rw [i4] at ls
  rw [Zec (by omega) (by omega),<-ls] at i3
  refine⟨i3,?_⟩
  have pi:=(R.iff i (by omega)).1 ⟨i1,i2⟩
  have ri:=h.perm.rng _ (Ze (l:=sa) (i:=(i:Int)) (by omega) (by omega))
  by_cases c0:rd sa i=0
  ·have e:rd sa j=t.length-1:=by rw [ls]; unfold prev; rw [if_pos c0]
   rcases hc with rfl | hc
   ·exact Pf.nil (by omega) (by omega)
   ·rw [e] at i3; exact absurd i3.symm hc
  ·have e:rd sa j=rd sa i-1:=by rw [ls]; unfold prev; rw [if_neg c0]
   rw [e,show rd sa i-1+1=rd sa i by omega]; exact pi
 ·rintro⟨j1,j2⟩
  obtain⟨q,hq⟩:∃ q:Int,q=if rd sa j+1=t.length then 0 else rd sa j+1:=⟨_,rfl⟩
  have q0:0<=q/\q<t.length:=by rw [hq]; split <;> omega
  have pq:prev t.length q=rd sa j:=by rw [hq]; unfold prev; split <;> split <;> omega
  obtain⟨i,i0,i1,ei⟩:=Zbl (h.perm.mem_iff.2 q0)
  obtain⟨i,rfl⟩:=Qg i0
  have ls:=Zmc h he (i:=(i:Int)) (by omega) (by omega)
  rw [ei,pq] at ls
  have lr:=Zqr (b:=bwtOf t sa) (i:=(i:Int)) (by omega) (by omega)
  have pfq:Pf t (rd sa i) p:=by
   rw [ei,hq]
   split
   ·have:=j2.2.1
    have:p=[]:=Qa8.1 (by omega)
    subst this; exact Pf.nil (by omega) (by omega)
   ·exact j2
  have hin:=(R.iff i (by omega)).2 pfq
  refine⟨i,hin.1,hin.2,by rw [Zec (by omega) (by omega),ei,pq]; exact j1,?_⟩
  obtain⟨m,hm⟩:=Qg lr.1
  rw [hm] at ls lr ⊢
  have hm2:m<sa.length:=by omega
  rw [Zb hm2,Zb (by omega:j<sa.length)] at ls
  have:=(List.getElem_inj h.perm.nd).1 ls
  omega
end Go.Ab.Bs

namespace Go.Ab
open Go Go.Proofs Go.Ab.Wd Go.Ab.Bs Go.Ab.Sai
structure Kq (b n:Nat) (σ σ':Store):Prop where
 prot:σ'.prot=σ.prot
 len:σ.objs.length<=σ'.objs.length
 keep:∀ x,x<n->x≠b->σ'.objs[x]?=σ.objs[x]?
theorem Kq.of{b n m:Nat}{σ σ':Store}(k:Kp m σ σ')(h:n<=m):Kq b n σ σ':=⟨k.prot,k.len,fun x hx _=>k.keep x (by omega)⟩
theorem Kq.set(b n:Nat)(σ:Store)(o:AObj):Kq b n σ (σ.setO b o):=⟨rfl,by simp,fun x _ hb=>by show (σ.objs.set b o)[x]?=_; rw [Qk,if_neg (Ne.symm hb)]⟩
theorem Kq.trans{b n m:Nat}{σ σ1 σ2:Store}(h:Kq b n σ σ1)(k:Kq b m σ1 σ2)(hm:n<=m):Kq b n σ σ2:=⟨k.prot.trans h.prot,QbN h.len k.len,fun x hx hb=>(k.keep x (by omega) hb).trans (h.keep x hx hb)⟩
theorem Vec.keepA{σ σ':Store}{p:Ptr}{B:List Bool}(v:Vec σ p B)(k:∀ x:Nat,x<σ.objs.length->σ'.objs[x]?=σ.objs[x]?):Vec σ' p B:=by
 obtain⟨b,hw,ha,ws,ah,rfl,R,W,A,wb,ab⟩:=v.ex
 have lt:∀ {h:Hdl} {l:List AV},σ.Sl h 1 l->σ'.Sl h 1 l:=fun {h l} s=>by
  refine⟨s.len,?_⟩
  rcases s.row with h1 | ⟨b,o,cs,rw,h1,h2,h3⟩
  ·exact .inl h1
  ·exact .inr ⟨b,o,cs,rw,h1,(k b (Qf.1 h2).1).trans h2,h3⟩
 exact⟨⟨b,hw,ha,ws,ah,rfl,(k b R.lt).trans R,lt W,lt A,wb,ab⟩,v.small⟩
theorem Mat.keepA{σ σ':Store}{p:Ptr}{l:List Int}{w:Nat}(m:Mat σ p l w)(k:∀ x:Nat,x<σ.objs.length->σ'.objs[x]?=σ.objs[x]?):Mat σ' p l w:=by
 obtain⟨b,hl,ps,rfl,R,S,lp,V⟩:=m.ex
 have lt:∀ {h:Hdl} {l:List AV},σ.Sl h 1 l->σ'.Sl h 1 l:=fun {h l} s=>by
  refine⟨s.len,?_⟩
  rcases s.row with h1 | ⟨b,o,cs,rw,h1,h2,h3⟩
  ·exact .inl h1
  ·exact .inr ⟨b,o,cs,rw,h1,(k b (Qf.1 h2).1).trans h2,h3⟩
 exact⟨⟨b,hl,ps,rfl,(k b R.lt).trans R,lt S,lp,fun j hj=>by obtain⟨q,e,v⟩:=V j hj; exact⟨q,e,v.keepA k⟩⟩,m.wid,m.small,m.rng⟩
theorem Mat.from_{σ' τ:Store}{p:Ptr}{l:List Int}{w n:Nat}(F:∀ σ'':Store,(∀ x,n<=x->σ''.objs[x]?=σ'.objs[x]?)->Mat σ'' p l w)(k:∀ x,n<=x->x<σ'.objs.length->τ.objs[x]?=σ'.objs[x]?):Mat τ p l w:=by
 have m:Mat { τ with objs:=τ.objs.take σ'.objs.length } p l w:=F _ fun x hx=>by
  show (τ.objs.take _)[x]?=_
  rw [Qa3]
  split
  ·rename_i c; exact k x hx c
  ·rw [QH (by omega)]
 refine m.keepA fun x hx=>?_
 show _=(τ.objs.take _)[x]?
 have:x<σ'.objs.length:=by simp at hx; omega
 rw [Qa3,if_pos this]
def mk(s:Nat)(p:Int):Bool:=decide (p % (s:Int)=0)
def plc(s:Nat)(l:List Int):List Int:=(l.filter (mk s)).map fun p=>p / (s:Int)
theorem Zf9(s:Nat)(x:Int)(l:List Int):plc s (x::l)=(if mk s x=true then [x / (s:Int)] else [])++plc s l:=by
 unfold plc
 rw [Qb0]
 split <;> simp [*]
theorem Zf8(s:Nat)(a b:List Int):plc s (a++b)=plc s a++plc s b:=by simp [plc]
theorem Zhs{s:Nat}(hs:1<=s):∀ {l:List Int},l.Nodup->(plc s l).Nodup
 | [],_=>by simp [plc]
 | x::l,h=>by
  rw [QaO] at h
  rw [Zf9]
  split
  ·rename_i c
   show (x / (s:Int)::plc s l).Nodup
   rw [QaO]
   refine⟨fun hm=>?_,Zhs hs h.2⟩
   unfold plc at hm
   obtain⟨y,hy,e⟩:=Qao.1 hm
   obtain⟨hy1,hy2⟩:=QJ.1 hy
   have c':x % (s:Int)=0:=by simpa [mk] using c
   have hy2':y % (s:Int)=0:=by simpa [mk] using hy2
   have e1:=QaT x s
   have e2:=QaT y s
   rw [e] at e2
   have:y=x:=by omega
   exact h.1 (this ▸ hy1)
  ·exact Zhs hs h.2
theorem Z3l{s n:Nat}(hs:1<=s){l:List Int}(h:∀ p∈l,0<=p/\p<(n:Int)):∀ v∈plc s l,0<=v/\v<((n-1) / s+1:Nat):=fun v hv=>by
 obtain⟨y,hy,rfl⟩:=Qao.1 hv
 have:=h y (QJ.1 hy).1
 obtain⟨y,rfl⟩:=Qg this.1
 have h1:y / s<=(n-1) / s:=Nat.div_le_div_right (by omega)
 rw [<-Qab]
 generalize y / s=u at h1 ⊢
 generalize (n-1) / s=v at h1 ⊢
 omega
theorem Ztu{s n:Nat}(hs:1<=s){l:List Int}(h:∀ p∈l,0<=p/\p<(n:Int))(nd:l.Nodup):(plc s l).length<=(n-1) / s+1:=by
 have:=Zu (Zhs hs nd) (m:=places ((n-1) / s+1)) fun v hv=>Zo.2 (Z3l hs h v hv)
 rwa [Zv] at this
def marksTo(s:Nat)(l:List Int)(i:Nat):List Bool:=(l.take i).map (mk s)++Ql (l.length-i) false
theorem Zi3{s:Nat}{l:List Int}{i:Nat}(hi:i<=l.length):(marksTo s l i).length=l.length:=by simp [marksTo]; omega
theorem Zsc{s:Nat}{l:List Int}{i:Nat}(hi:i<l.length)(h:mk s (rd l i)=false):marksTo s l (i+1)=marksTo s l i:=by
 unfold marksTo
 rw [Zj hi,Qx,Qu,show l.length-i=(l.length-(i+1))+1 by omega,QA]
 simp [h]
theorem Zvf{s:Nat}{l:List Int}{i:Nat}(hi:i<l.length)(h:mk s (rd l i)=true):marksTo s l (i+1)=(marksTo s l i).set i true:=by
 unfold marksTo
 rw [Zj hi,Qx,Qu,show l.length-i=(l.length-(i+1))+1 by omega,QA]
 rw [QaS _ _ (by simp; omega)]
 simp [h,Qs (QaF hi)]
theorem Zsb{s:Nat}{l:List Int}:marksTo s l l.length=l.map (mk s):=by simp [marksTo]
theorem Zqs{s:Nat}{l:List Int}:marksTo s l 0=Ql l.length false:=by simp [marksTo]
theorem Pk.keep{σ σ':Store}{L:Nat}{B:List Bool}(P:Pk σ L B)(k0:σ'.objs[L]?=σ.objs[L]?)(k1:σ'.objs[L+1]?=σ.objs[L+1]?):Pk σ' L B:=by
 obtain⟨ws,R,w⟩:=P.ex
 exact⟨⟨ws,k0.trans R,w⟩,k1.trans P.row⟩
theorem Zw7{σ0 σ:Store}{h:Hdl}{sa:List Int}{n s b wd M cc:Nat}{ws:List Int}(S:σ0.Ints h sa)(K0:Kp σ0.objs.length σ0 σ)(hM:σ0.objs.length<=M)(hb:b<M)
  (perm:IsPerm n sa) (hn:n<=4194304) (hs:1<=s) (hs2:s<=4194304) (R7:σ.ldPtr (QG (some (b,0)) 7)=some (some (M+3,0)))
  (P:Pk σ M (Ql n false)) (W:PkW σ (M+2) wd cc ws) (C:Cont ws wd cc fun _=>0) (w0:1<=wd) (w1:wd<=32) (w2:n<2^wd) (hp:σ.prot<=M) (hcc:cc=(n-1) / s+1) :
  ∃ σ' ws',EvI (fun k s'=>Qam Qb (gm Qb k) QO k Tryz.f67 [1,1,1,1,1,1,1,1,1,1,1,0,1,0] [122,121,120,18,16,15,3] s')
   ([.int .i64 0,.int .i64 n,.slice h,.int .i64 0,.ptr (some (M+1,0)),.ptr (some (b,0)),.int .i64 s],σ) (Qw 0,[(16,.ptr (some (M+1,0))),(15,.ptr (some (b,0)))],σ') /\
   Kp M σ σ'/\σ'.objs.length=σ.objs.length/\Pk σ' M (sa.map (mk s))/\PkW σ' (M+2) wd cc ws'/\Cont ws' wd cc fun j=>(rd (plc s sa) j).toNat:=by
 have ln:=perm.len
 have ll:=S.ilen
 obtain⟨r,e,σ',ws',rfl,k',l',P',W',C'⟩:=EvI.up (f:=fun k s'=>Qam Qb (gm Qb k) QO k Tryz.f67 [1,1,1,1,1,1,1,1,1,1,1,0,1,0] [122,121,120,18,16,15,3] s') n
  (fun i st=>∃ s1 ws1,st=([.int .i64 i,.int .i64 n,.slice h,.int .i64 ((plc s (sa.take i)).length:Nat),.ptr (some (M+1,0)),.ptr (some (b,0)),.int .i64 s],s1)/\Kp M σ s1/\s1.objs.length=σ.objs.length /\
   Pk s1 M (marksTo s sa i)/\PkW s1 (M+2) wd cc ws1/\Cont ws1 wd cc fun j=>(rd (plc s (sa.take i)) j).toNat)
  (fun r=>∃ s1 ws1,r=(Qw 0,[(16,.ptr (some (M+1,0))),(15,.ptr (some (b,0)))],s1)/\Kp M σ s1/\s1.objs.length=σ.objs.length /\
   Pk s1 M (sa.map (mk s))/\PkW s1 (M+2) wd cc ws1/\Cont ws1 wd cc fun j=>(rd (plc s sa) j).toNat)
  (by
   rintro i st hi ⟨s1,ws1,rfl,k1,l1,P1,W1,C1⟩
   have i0:(0:Int)<=i:=by omega
   have i1:(i:Int)<n:=by omega
   have i2:(i:Int)<h.len:=by omega
   have S1:=Store.Sl.kp S (K0.then k1 hM)
   have rx:=Store.Ints.rd S1 i0 (by omega)
   have hx:=perm.rng _ (Ze (l:=sa) (i:=(i:Int)) i0 (by omega))
   obtain⟨x,ex⟩:=Qg hx.1
   rw [ex] at rx hx
   have wi:=Zq hi (by omega)
   have z:¬ (s:Int)=0:=by omega
   have pt:=Zj (l:=sa) (i:=i) (by omega)
   rw [ex] at pt
   have p1:s1.prot<=M:=by rw [k1.prot]; exact hp
   have tm:QaX (x:Int) (s:Int)=((x % s:Nat):Int):=by rw [QE (by omega)]; simp
   by_cases c:x % s=0
   ·have cm:mk s (rd sa i)=true:=by rw [ex]; unfold mk; rw [decide_eq_true_eq]; omega
    have cm':mk s (x:Int)=true:=by rw [<-ex]; exact cm
    have ct:QaX (x:Int) (s:Int)=0:=by rw [tm,c]; rfl
    obtain⟨s2,⟨n2,r2⟩,k2,o2,P2⟩:=Zmr P1 p1 (i:=i) (by rw [Zi3 (by omega)]; omega) (by rw [Zi3 (by omega)]; omega)
    have p2:s2.prot<=M+2:=by rw [k2.prot]; omega
    have W2:=W1.keep (o2.off (M+2) (by omega)) (o2.off (M+2+1) (by omega))
    have ep:plc s (sa.take (i+1))=plc s (sa.take i)++[(x:Int) / (s:Int)]:=by
     rw [pt,Zf8,Zf9,if_pos cm']; simp [plc]
    have pl:(plc s (sa.take (i+1))).length<=cc:=hcc ▸ Ztu hs (fun p hp=>perm.rng p (Q7 hp)) (perm.nd.sublist (List.take_sublist _ _))
    rw [ep,Qm] at pl
    simp only [Q6,QaP] at pl
    have dv:x / s<=x:=Q4 _ _
    have cl:cc<=n:=by have:(n-1) / s<=n-1:=Q4 _ _; omega
    obtain⟨v,hv⟩:∃ v,v=x / s:=⟨_,rfl⟩
    rw [<-hv] at dv
    obtain⟨s3,ws3,⟨n3,r3⟩,k3,o3,W3,B3⟩:=Z0r W2 p2 w0 w1 (by omega) (i:=(plc s (sa.take i)).length) (v:=v) (by omega) (by omega)
    have P3:=P2.keep (o3.off M (by omega)) (o3.off (M+1) (by omega))
    have C3:=C1.set B3
    have f7:s2.ldPtr (QG (some (b,0)) 7)=some (some (M+3,0)):=by
     rw [<-R7]; exact Zao (Zdr (k1.trans k2) (fun c hc=>by simp [Ptr.row,QG] at hc; omega))
    have wv:Qa .u64 (Qa .i64 (Qbm (x:Int) (s:Int)))=(v:Int):=by
     rw [Qq (by omega),<-Qab,<-hv,Za (by omega) (by omega),Zx (by omega) (by omega)]
    have wk:Qa .i64 (((plc s (sa.take i)).length:Int)+1)=((plc s (sa.take (i+1))).length:Nat):=by
     rw [ep,Qm,Za (by omega) (by omega)]; simp
    refine⟨_,⟨n2+n3,fun m hm=>?_⟩,s3,ws3,rfl,k1.trans (k2.trans (k3.mono (by omega))),by rw [o3.len,o2.len,l1],by rw [Zvf (by omega) cm]; exact P3,W3,?_⟩
    ·have r2:=r2 m (by omega)
     have r3:=r3 m (by omega)
     simp only at r2 r3
     simp only [Zbc]
     simp only [stp,i0,i1,i2,rx,z,ct,r2,f7,wv,r3,wi,wk]
    ·have ef:(fun j:Nat=>(rd (plc s (sa.take (i+1))) (j:Int)).toNat)=fun j:Nat=>if j=(plc s (sa.take i)).length then v else (rd (plc s (sa.take i)) (j:Int)).toNat:=by
      funext j
      rw [ep,Zju,Zju]
      by_cases e:j=(plc s (sa.take i)).length
      ·subst e
       rw [if_pos rfl,Qo,Qn (Qe _),Qan]
       simp only [List.getElem?_cons_zero,QQ]
       rw [<-Qab,Qc,hv]
      ·rw [if_neg e]
       by_cases c3:j<(plc s (sa.take i)).length
       ·rw [Qo,Qo,Qp c3]
       ·rw [Qo,Qo,QH (by simp; omega),QH (by omega)]
     rw [ef]; exact C3
   ·have cm:mk s (rd sa i)=false:=by rw [ex]; unfold mk; rw [decide_eq_false_iff_not]; omega
    have cm':mk s (x:Int)=false:=by rw [<-ex]; exact cm
    have ct:¬ QaX (x:Int) (s:Int)=0:=by rw [tm]; omega
    have ep:plc s (sa.take (i+1))=plc s (sa.take i):=by
     rw [pt,Zf8,Zf9,if_neg (by simp [cm'])]; simp [plc]
    refine⟨([.int .i64 (i+1:Nat),.int .i64 n,.slice h,.int .i64 ((plc s (sa.take i)).length:Nat),.ptr (some (M+1,0)),.ptr (some (b,0)),.int .i64 s],s1),Ev.of fun m=>by simp only [Zbc]; simp only [stp,i0,i1,i2,rx,z,ct,wi],s1,ws1,by rw [ep],k1,l1,by rw [Zsc (by omega) cm]; exact P1,W1,by rw [ep]; exact C1⟩)
  (by
   rintro st ⟨s1,ws1,rfl,k1,l1,P1,W1,C1⟩
   rw [QC (by omega)] at C1
   rw [show n=sa.length by omega,Zsb] at P1
   exact⟨_,Ev.of fun m=>by simp only [Zbc]; simp only [stp,Qv],s1,ws1,rfl,k1,l1,P1,W1,C1⟩)
  (s:=([.int .i64 0,.int .i64 n,.slice h,.int .i64 0,.ptr (some (M+1,0)),.ptr (some (b,0)),.int .i64 s],σ))
  ⟨σ,ws,by simp [plc],Kp.refl _ _,rfl,by rw [Zqs,ln]; exact P,W,by simpa [plc,rd] using C⟩
 exact⟨σ',ws',e,k',l',P',W',C'⟩
end Go.Ab

namespace Go.Ab
open Go Go.Proofs Go.Ab.Wd Go.Ab.Bs Go.Ab.Sai
theorem Zaj{σ:Store}{b es o:Nat}{l:List AV}{x:Ptr}(r:σ.Row b es l)(h:l[o]?=some (.ptr x)):σ.ldPtr (QG (some (b,0)) o)=some x:=by
 have:=r.cell (0+o)
 simp only [Q0] at this
 simp only [Qb6,QG,Q9,Q0,this,h]
structure Fnd (σ:Store) (p:Ptr) (t:List Int) (al s:Nat):Prop where
 ex:∃ b hb pm w pv L wd ws,p=some (b,0)/\σ.Row b 8 [.int .i64 t.length,.int .i64 al,.int .i64 s,.int .i64 (rd t (t.length-1)),.slice hb,.ptr pm,.ptr pv,.ptr (some (L+1,0))] /\
  σ.Ints hb (belows (bwtOf t (saOf t)) (al+1))/\Mat σ pm (bwtOf t (saOf t)) w/\Vec σ pv ((saOf t).map (mk s))/\PkW σ L wd ((t.length-1) / s+1) ws/\Cont ws wd ((t.length-1) / s+1) (fun j=>(rd (plc s (saOf t)) j).toNat)/\1<=wd/\wd<=32/\t.length<2^wd
 ends:Bs.Ends t
 rng:∀ x∈t,0<=x/\x<al
 al1:al<4194304
 s1:1<=s
 s2:s<=4194304
 small:t.length<=4194304
theorem Fnd.keep{σ σ':Store}{p:Ptr}{t:List Int}{al s:Nat}(F:Fnd σ p t al s)(k:∀ x:Nat,x<σ.objs.length->σ'.objs[x]?=σ.objs[x]?):Fnd σ' p t al s:=by
 obtain⟨b,hb,pm,w,pv,L,wd,ws,rfl,R,B,M,V,P,C⟩:=F.ex
 refine⟨⟨b,hb,pm,w,pv,L,wd,ws,rfl,(k b R.lt).trans R,?_,M.keepA k,V.keepA k,P.keep (k _ P.row.lt) (k _ P.hd.lt),C⟩,F.ends,F.rng,F.al1,F.s1,F.s2,F.small⟩
 refine⟨B.len,?_⟩
 rcases B.row with h1 | ⟨b,o,cs,rw,h1,h2,h3⟩
 ·exact .inl h1
 ·exact .inr ⟨b,o,cs,rw,h1,(k b (Qf.1 h2).1).trans h2,h3⟩
theorem Fnd.kp{σ σ':Store}{p:Ptr}{t:List Int}{al s:Nat}(F:Fnd σ p t al s)(k:Kp σ.objs.length σ σ'):Fnd σ' p t al s:=F.keep k.keep
section
variable {σ:Store} {p:Ptr} {t:List Int} {al s:Nat}
theorem Fnd.bl(F:Fnd σ p t al s):(bwtOf t (saOf t)).length=t.length:=by rw [Zaa,Z7]
theorem Zqf(F:Fnd σ p t al s):Runs Qb 138 [.ptr p] σ (.int .i64 t.length) σ:=by
 obtain⟨b,hb,pm,w,pv,L,wd,ws,rfl,R,_⟩:=F.ex
 have e0:=Zd R (o:=0) rfl
 refine rI Tryz.f138 (Ev.of fun k=>?_)
 simp only [Z15]
 simp only [stp,Qd,e0]
def nar(b:List Int)(n al:Nat)(x y c:Int):Int×Int:=
 if 0<=c/\c<al/\0<=x/\x<=y/\y<=n/\narrow b c x.toNat≠narrow b c y.toNat then ((narrow b c x.toNat:Nat),(narrow b c y.toNat:Nat)) else (0,0)
theorem Zvh(F:Fnd σ p t al s)(x y c:Int):Runs Qb 148 [.ptr p,.int .i64 x,.int .i64 y,.int .i64 c] σ (.tuple [.int .i64 (nar (bwtOf t (saOf t)) t.length al x y c).1,.int .i64 (nar (bwtOf t (saOf t)) t.length al x y c).2]) σ:=by
 obtain⟨b,hb,pm,w,pv,L,wd,ws,rfl,R,B,M,_⟩:=F.ex
 have bl:=F.bl
 have e0:=Zd R (o:=0) rfl
 have e1:=Zd R (o:=1) rfl
 have e4:=Zg R (o:=4) rfl
 have e5:=Zaj R (o:=5) rfl
 have lb:=B.ilen
 rw [Z2] at lb
 have hal:=F.al1
 have hsm:=F.small
 by_cases h:0<=c/\c<al/\0<=x/\x<=y/\y<=t.length
 ·obtain⟨h1,h2,h3,h4,h5⟩:=h
  obtain⟨n1,r1⟩:=Ze8 (M.keepA (σ':={ σ with prot:=σ.objs.length }) fun _ _=>rfl) c x
  obtain⟨n2,r2⟩:=Ze8 (M.keepA (σ':={ σ with prot:=σ.objs.length }) fun _ _=>rfl) c y
  have g:=B.rd (i:=c) h1 (by rw [Z2]; omega)
  rw [Zhw h1 (by omega)] at g
  have c1:¬ c<0:=by omega
  have c2:¬ (al:Int)<=c:=by omega
  have c3:¬ x<0:=by omega
  have c4:¬ y<x:=by omega
  have c5:¬ (t.length:Int)<y:=by omega
  have c6:c<hb.len:=by omega
  have nx:=Zho (b:=bwtOf t (saOf t)) (c:=c) (a:=x.toNat)
  have ny:=Zho (b:=bwtOf t (saOf t)) (c:=c) (a:=y.toNat)
  rw [bl] at nx ny
  have wx:Qa .i64 (below (bwtOf t (saOf t)) c+(Bs.cnt (fun z=>decide (z=c)) ((bwtOf t (saOf t)).take x.toNat):Nat))=(narrow (bwtOf t (saOf t)) c x.toNat:Nat):=by
   unfold below narrow at *
   rw [Za (by omega) (by omega)]; omega
  have wy:Qa .i64 (below (bwtOf t (saOf t)) c+(Bs.cnt (fun z=>decide (z=c)) ((bwtOf t (saOf t)).take y.toNat):Nat))=(narrow (bwtOf t (saOf t)) c y.toNat:Nat):=by
   unfold below narrow at *
   rw [Za (by omega) (by omega)]; omega
  refine rI Tryz.f148 ⟨n1+n2,fun k hk=>?_⟩
  have r1:=Zn (r1 k (by omega))
  have r2:=Zn (r2 k (by omega))
  by_cases q:narrow (bwtOf t (saOf t)) c x.toNat=narrow (bwtOf t (saOf t)) c y.toNat
  ·have q':((narrow (bwtOf t (saOf t)) c x.toNat:Nat):Int)=(narrow (bwtOf t (saOf t)) c y.toNat:Nat):=by rw [q]
   have en:nar (bwtOf t (saOf t)) t.length al x y c=(0,0):=by unfold nar; rw [if_neg (fun hh=>hh.2.2.2.2.2 q)]
   rw [en]
   simp only [Zlx]
   simp only [stp,Qd,c1,e1,c2,c3,c4,e0,c5,e4,h1,c6,g,e5,r1,r2,wx,wy,q']
  ·have q':¬ ((narrow (bwtOf t (saOf t)) c x.toNat:Nat):Int)=(narrow (bwtOf t (saOf t)) c y.toNat:Nat):=by omega
   have en:nar (bwtOf t (saOf t)) t.length al x y c=(((narrow (bwtOf t (saOf t)) c x.toNat:Nat):Int),((narrow (bwtOf t (saOf t)) c y.toNat:Nat):Int)):=by unfold nar; rw [if_pos ⟨h1,h2,h3,h4,h5,q⟩]
   rw [en]
   simp only [Zlx]
   simp only [stp,Qd,c1,e1,c2,c3,c4,e0,c5,e4,h1,c6,g,e5,r1,r2,wx,wy,q']
 ·have en:nar (bwtOf t (saOf t)) t.length al x y c=(0,0):=by unfold nar; rw [if_neg (fun hh=>h ⟨hh.1,hh.2.1,hh.2.2.1,hh.2.2.2.1,hh.2.2.2.2.1⟩)]
  rw [en]
  refine rI Tryz.f148 (Ev.of fun k=>?_)
  simp only [Zlx]
  by_cases c1:c<0
  ·simp only [stp,c1]
  by_cases c2:(al:Int)<=c
  ·simp only [stp,Qd,c1,e1,c2]
  by_cases c3:x<0
  ·simp only [stp,Qd,c1,e1,c2,c3]
  by_cases c4:y<x
  ·simp only [stp,Qd,c1,e1,c2,c3,c4]
  have c5:(t.length:Int)<y:=by omega
  simp only [stp,Qd,c1,e1,c2,c3,c4,e0,c5]
theorem Zuc(F:Fnd σ p t al s)(i:Int):Runs Qb 140 [.ptr p,.int .i64 i] σ (.int .i64 (if 0<=i/\i<t.length then lf (bwtOf t (saOf t)) i else -1)) σ:=by
 obtain⟨n0,r0⟩:=Zqf F
 obtain⟨b,hb,pm,w,pv,L,wd,ws,rfl,R,B,M,_⟩:=F.ex
 have bl:=F.bl
 have e4:=Zg R (o:=4) rfl
 have e5:=Zaj R (o:=5) rfl
 have lb:=B.ilen
 rw [Z2] at lb
 have hal:=F.al1
 have hsm:=F.small
 by_cases h:0<=i/\i<t.length
 ·obtain⟨h1,h2⟩:=h
  rw [if_pos ⟨h1,h2⟩]
  obtain⟨n1,r1⟩:=Zxs M i
  rw [if_pos ⟨h1,by omega⟩] at r1
  have hc:rd (bwtOf t (saOf t)) i∈t:=(Zj0 (t:=t) (Zi t).perm).mem_iff.1 (Ze h1 (by omega))
  have hr:=F.rng _ hc
  obtain⟨c,hcc⟩:∃ c,c=rd (bwtOf t (saOf t)) i:=⟨_,rfl⟩
  rw [<-hcc] at r1 hr
  obtain⟨n2,r2⟩:=Ze8 (M.keepA (σ':={ σ with prot:=σ.objs.length }) fun _ _=>rfl) c i
  have g:=B.rd (i:=c) hr.1 (by rw [Z2]; omega)
  rw [Zhw hr.1 (by omega)] at g
  have c6:c<hb.len:=by omega
  have lr:=Zqr (b:=bwtOf t (saOf t)) h1 (by omega)
  have wx:Qa .i64 (below (bwtOf t (saOf t)) c+(Bs.cnt (fun z=>decide (z=c)) ((bwtOf t (saOf t)).take i.toNat):Nat))=lf (bwtOf t (saOf t)) i:=by
   have:lf (bwtOf t (saOf t)) i=below (bwtOf t (saOf t)) c+(Bs.cnt (fun z=>decide (z=c)) ((bwtOf t (saOf t)).take i.toNat):Nat):=by unfold lf below; rw [hcc]; simp
   rw [<-this,Za (by omega) (by omega)]
  have c1:¬ i<0:=by omega
  have c2:¬ (t.length:Int)<=i:=by omega
  refine rI Tryz.f140 ⟨n0+n1+n2,fun k hk=>?_⟩
  have r0:=r0 k (by omega)
  have r1:=r1 k (by omega)
  have r2:=Zn (r2 k (by omega))
  simp only at r0 r1
  simp only [Zs4]
  simp only [stp,c1,r0,c2,e5,r1,e4,hr.1,c6,g,r2,wx]
 ·rw [if_neg h]
  refine rI Tryz.f140 ⟨n0,fun k hk=>?_⟩
  have r0:=r0 k (by omega)
  simp only at r0
  simp only [Zs4]
  by_cases c1:i<0
  ·simp only [stp,c1]
  have c2:(t.length:Int)<=i:=by omega
  simp only [stp,c1,r0,c2]
theorem Zx1(s:Nat)(l:List Int)(i:Nat):onesTo (l.map (mk s)) i=(plc s (l.take i)).length:=by
 unfold onesTo plc
 rw [<-QbI,Qb8,Q8,Q8]; rfl
theorem Z5d{s:Nat}{l:List Int}{j:Nat}(hj:j<l.length)(h:mk s (rd l j)=true):rd (plc s l) ((plc s (l.take j)).length:Nat)=rd l j / (s:Int)/\(plc s (l.take j)).length<(plc s l).length:=by
 have e:l=l.take j++(rd l j::l.drop (j+1)):=by
  rw [Zb hj,QaH,Q5]
 have e2:plc s l=plc s (l.take j)++([rd l j / (s:Int)]++plc s (l.drop (j+1))):=by
  conv=>lhs; rw [e]
  rw [Zf8,Zf9,if_pos h]
 constructor
 ·rw [Zju,e2,Qo,Qn (Qe _),Qan]; rfl
 ·rw [e2]; simp
theorem Zx5(F:Fnd σ p t al s)(i:Int):Runs Qb 76 [.ptr p,.int .i64 i] σ (.tuple [.int .i64 (if 0<=i/\i<t.length then rd (saOf t) i else -1),.int .i64 (if 0<=i/\i<t.length then rd (saOf t) i % (s:Int) else 0)]) σ:=by
 obtain⟨n0,r0⟩:=Zqf F
 have bl:=F.bl
 have hsm:=F.small
 have hs1:=F.s1
 have hs2:=F.s2
 have SA:=Zi t
 have ls:=Z7 t
 by_cases h:0<=i/\i<t.length
 case neg=>
  rw [if_neg h,if_neg h]
  refine rI Tryz.f76 ⟨n0,fun k hk=>?_⟩
  have r0:=r0 k (by omega)
  simp only at r0
  simp only [Zw3]
  by_cases c1:i<0
  ·simp only [stp,c1]
  have c2:(t.length:Int)<=i:=by omega
  simp only [stp,c1,r0,c2]
 obtain⟨h1,h2⟩:=h
 rw [if_pos ⟨h1,h2⟩,if_pos ⟨h1,h2⟩]
 obtain⟨b,hb,pm,w,pv,L,wd,ws,ep,R,B,M,V,P,C,w0,w1,w2⟩:=F.ex
 have e2:=Zd R (o:=2) rfl
 have e6:=Zaj R (o:=6) rfl
 have e7:=Zaj R (o:=7) rfl
 have hq:=SA.perm.rng _ (Ze (l:=saOf t) (i:=i) h1 (by omega))
 obtain⟨q,hqq⟩:=Qg hq.1
 rw [hqq] at hq ⊢
 have sz:((q:Int) % (s:Int))=((q % s:Nat):Int):=by simp
 have lt:q % s<s:=Q2 _ (by omega)
 obtain⟨r,e,j,rfl,j0,j1,ej⟩:=EvI.while (f:=fun k st=>Qam Qb (gm Qb k) QO k Tryz.f76 [1,1,1,0,0] [6,1,0] st)
  (fun m st=>∃ (j:Nat) (d:Nat),m=q % s-d/\d<=q % s/\st=([.int .i64 d,.int .i64 j,.ptr p],σ)/\j<t.length/\rd (saOf t) j=(q:Int)-d)
  (fun r=>∃ j:Nat,r=(Qw 0,[(6,.int .i64 (q % s:Nat)),(1,.int .i64 j),(0,.ptr p)],σ)/\0<=j/\j<t.length/\rd (saOf t) j=(q:Int)-(q % s:Nat))
  (by
   rintro m st ⟨j,d,rfl,hd,rfl,hj,ej⟩
   obtain⟨n1,r1⟩:=Zy5 V (j:Int)
   have eb:bitAt ((saOf t).map (mk s)) j=decide (q % s=d):=by
    unfold bitAt
    rw [Qbo,Qad (by omega)]
    simp only [Q9,QQ]
    rw [<-Zb (by omega:j<(saOf t).length),ej]
    unfold mk
    congr 1
    apply propext
    have hdq:d<=q:=by have:=QbF q s; omega
    rw [show (q:Int)-d=((q-d:Nat):Int) by omega]
    have e1:=QaJ q s
    constructor
    ·intro hz
     have hz':(q-d) % s=0:=by omega
     rcases QaG d (q % s) with hlt | hge
     ·exfalso
      have e3:(q-d) % s=q % s-d:=by
       have:q-d=s*(q / s)+(q % s-d):=by omega
       rw [this,Nat.mul_add_mod,Qy (by omega)]
      omega
     ·omega
    ·intro hz
     have:q-d=s*(q / s):=by omega
     rw [this]; simp
   have d0:decide ((0:Int)<=(j:Int))=true:=by simp
   rw [Qc,eb,d0,QbK] at r1
   by_cases c:q % s=d
   ·rw [decide_eq_true c] at r1
    refine .inr ⟨_,⟨n1,fun k hk=>?_⟩,j,rfl,Nat.zero_le _,hj,by rw [ej,c]⟩
    have r1:=r1 k hk
    simp only at r1
    simp only [Zkg,ep]
    simp only [stp,e6,r1,c]
   ·rw [decide_eq_false c] at r1
    obtain⟨n2,r2⟩:=Zuc F (j:Int)
    rw [if_pos ⟨by omega,by omega⟩] at r2
    have lr:=Zqr (b:=bwtOf t (saOf t)) (i:=(j:Int)) (by omega) (by omega)
    have lsp:=Zmc SA F.ends (i:=(j:Int)) (by omega) (by omega)
    obtain⟨j',hj'⟩:=Qg lr.1
    rw [hj'] at r2 lr lsp
    have mq:=QbF q s
    have pr:prev t.length (rd (saOf t) j)=(q:Int)-(d+1:Nat):=by
     unfold prev
     rw [if_neg (by omega)]; omega
    have w1':Qa .i64 ((d:Int)+1)=((d+1:Nat):Int):=by rw [Za (by omega) (by omega)]; omega
    refine .inl ⟨q % s-(d+1),_,by omega,⟨n1+n2,fun k hk=>?_⟩,j',d+1,rfl,by omega,rfl,by omega,by rw [lsp,pr]⟩
    have r1:=r1 k (by omega)
    have r2:=r2 k (by omega)
    simp only at r1 r2
    simp only [Zkg]
    rw [ep] at r2
    simp only [stp,ep,e6,r1,r2,w1'])
  (q % s) ([.int .i64 0,.int .i64 i,.ptr p],σ) ⟨i.toNat,0,by omega,by omega,by rw [show ((i.toNat:Nat):Int)=i by omega]; rfl,by omega,by rw [show ((i.toNat:Nat):Int)=i by omega,hqq]; omega⟩
 obtain⟨n1,e⟩:=Zc e
 have mq:=QbF q s
 have e1:=QaJ q s
 have em:mk s (rd (saOf t) j)=true:=by
  rw [ej]; unfold mk; rw [decide_eq_true_eq,show (q:Int)-(q % s:Nat)=((s*(q / s):Nat):Int) by omega]
  rw [<-Int.natCast_emod]; simp
 obtain⟨pa,pl⟩:=Z5d (s:=s) (by omega:j<(saOf t).length) em
 obtain⟨n2,r2⟩:=Zem (V.keepA (σ':={ σ with prot:=σ.objs.length }) fun _ _=>rfl) (j:Int)
 rw [Qc,Zx1] at r2
 have pn:(plc s (saOf t)).length<=(t.length-1) / s+1:=Ztu hs1 SA.perm.rng SA.perm.nd
 have cn:(t.length-1) / s<=t.length-1:=Q4 _ _
 have val:(rd (plc s (saOf t)) ((plc s ((saOf t).take j)).length:Nat)).toNat=q / s:=by
  rw [pa,ej,show (q:Int)-(q % s:Nat)=((s*(q / s):Nat):Int) by omega,<-Qab,Qc,Nat.mul_div_cancel_left _ (by omega)]
 have dq:q / s<=q:=Q4 _ _
 obtain⟨n3,r3⟩:=Zzy (P.keep (σ':={ σ with prot:=σ.objs.length }) rfl rfl) C w0 w1 (by omega) (i:=(plc s ((saOf t).take j)).length) (by omega) (by
  show (rd (plc s (saOf t)) _).toNat<_
  rw [val]; omega)
 simp only [val] at r3
 have wr:Qa .i64 (Qa .i64 (Qa .i64 ((q / s:Nat):Int)*(s:Int))+(q % s:Nat))=(q:Int):=by
  have hm:((q / s:Nat):Int)*(s:Int)=((q / s*s:Nat):Int):=by simp
  have hc:q / s*s=s*(q / s):=QB _ _
  generalize q / s=u at *
  rw [Za (x:=(u:Int)) (by omega) (by omega),hm,Za (x:=((u*s:Nat):Int)) (by omega) (by omega),Za (by omega) (by omega)]
  omega
 have c1:¬ i<0:=by omega
 have c2:¬ (t.length:Int)<=i:=by omega
 refine rI Tryz.f76 ⟨n0+n1+n2+n3,fun k hk=>?_⟩
 have r0:=r0 k (by omega)
 have e:=e k (by omega)
 have r2:=Zn (r2 k (by omega))
 have r3:=Zn (r3 k (by omega))
 simp only at r0 e
 simp only [Zw3]
 simp only [stp,c1,r0,c2,e]
 simp only [Zp9]
 simp only [stp,ep,e7,e6,r2,r3,e2,wr,sz]
end
end Go.Ab

namespace Go.Ab
open Go Go.Proofs Go.Ab.Wd Go.Ab.Bs Go.Ab.Sai
end Go.Ab

namespace Go.Ab
open Go Go.Proofs Go.Ab.Wd Go.Ab.Bs Go.Ab.Sai
theorem Zpl{t:List Int}(h0:0<t.length):Bs.Ends t ↔ t.idxOf (rd t (t.length-1))=t.length-1:=by
 have hm:rd t (t.length-1)∈t:=Ze (by omega) (by omega)
 have hlt:=List.idxOf_lt_length_of_mem hm
 constructor
 ·rintro⟨_,he⟩
  rcases QaG (t.idxOf (rd t (t.length-1))) (t.length-1) with h | h
  ·exfalso
   refine he (t.idxOf (rd t (t.length-1)):Nat) (by omega) (by omega) ?_
   rw [Zb hlt]; exact List.getElem_idxOf hlt
  ·omega
 ·intro hi
  refine⟨h0,fun i i0 i1 he=>?_⟩
  obtain⟨i,rfl⟩:=Qg i0
  have h1:i<t.findIdx (· == rd t (t.length-1)):=by
   have:t.idxOf (rd t (t.length-1))=t.findIdx (· == rd t (t.length-1)):=rfl
   omega
  have:=List.not_of_lt_findIdx h1
  rw [Zb (by omega)] at he
  simp [he] at this
def okF(t sa:List Int)(al st:Int):Prop:=okT t al=true/\0<t.length/\al<4194304/\saOf t=sa/\Bs.Ends t/\1<=st/\st<=4194304
section
variable {σ:Store} {h h':Hdl} {t sa:List Int}
theorem Zzx{al st:Int}(hT:σ.Ints h t)(hH:σ.Has h)(hS:σ.Ints h' sa)(hp:σ.prot<=σ.objs.length)(hn:t.length<2^61)(hbad:¬ okF t sa al st) :
  ∃ σ',Runs Qb 67 [.slice h,.slice h',.int .i64 al,.int .i64 st] σ (.tuple [.ptr none,.int .i64 2]) σ'/\Kp σ.objs.length σ σ':=by
 have ll:=hT.ilen
 obtain⟨h1,σ1,⟨k1,r1⟩,K1,I1,_,_⟩:=Zgq (al:=al) hT hH hp (by omega)
 by_cases c1:okT t al=true
 case neg=>
  rw [if_neg c1] at r1
  refine⟨σ1,rI Tryz.f67 ⟨k1,fun k hk=>?_⟩,K1⟩
  have r1:=r1 k hk
  simp only at r1
  have z:¬ (2:Int)=0:=by omega
  simp only [Zfg]
  simp only [stp,r1,z]
 rw [if_pos c1] at r1 I1
 by_cases c2:t.length=0
 ·refine⟨σ1,rI Tryz.f67 ⟨k1,fun k hk=>?_⟩,K1⟩
  have r1:=r1 k hk
  simp only at r1
  have z:(h.len:Int)=0:=by omega
  simp only [Zfg]
  simp only [stp,r1,z]
 have z0:¬ (h.len:Int)=0:=by omega
 by_cases c3:4194304<=al
 ·refine⟨σ1,rI Tryz.f67 ⟨k1,fun k hk=>?_⟩,K1⟩
  have r1:=r1 k hk
  simp only at r1
  simp only [Zfg]
  simp only [stp,r1,z0,c3]
 have T1:=Store.Sl.kp hT K1
 have S1:=Store.Sl.kp hS K1
 obtain⟨k2,r2⟩:=Zm5 I1 S1 (by rw [Z7]; omega)
 by_cases c4:saOf t=sa
 case neg=>
  rw [decide_eq_false c4] at r2
  refine⟨σ1,rI Tryz.f67 ⟨k1+k2,fun k hk=>?_⟩,K1⟩
  have r1:=r1 k (by omega)
  have r2:=r2 k (by omega)
  simp only at r1 r2
  simp only [Zfg]
  simp only [stp,r1,z0,c3,r2]
 rw [decide_eq_true c4] at r2
 obtain⟨i,⟨k3,r3⟩,q3,_⟩:=Zhf (l:=t) T1 (by omega) (rd t (t.length-1))
 have q3:=q3 (Ze (by omega) (by omega))
 have w1:Qa .i64 ((h.len:Int)-1)=(t.length:Int)-1:=by rw [ll,Za (by omega) (by omega)]
 have g:=Store.Ints.rd (l:=t) T1 (i:=(t.length:Int)-1) (by omega) (by omega)
 have b0:(0:Int)<=(t.length:Int)-1:=by omega
 have b1:(t.length:Int)-1<h.len:=by omega
 have el:=Zpl (t:=t) (by omega)
 refine⟨σ1,rI Tryz.f67 ⟨k1+k2+k3,fun k hk=>?_⟩,K1⟩
 have r1:=r1 k (by omega)
 have r2:=r2 k (by omega)
 have r3:=r3 k (by omega)
 simp only at r1 r2 r3
 simp only [Zfg]
 by_cases c5:i=(t.length:Int)-1
 case neg=>simp only [stp,r1,z0,c3,r2,w1,b0,b1,g,r3,c5]
 by_cases c6:st<1
 ·simp only [stp,r1,z0,c3,r2,w1,b0,b1,g,r3,c5,c6]
 by_cases c7:4194304<st
 ·simp only [stp,r1,z0,c3,r2,w1,b0,b1,g,r3,c5,c6,c7]
 exact absurd ⟨c1,by omega,by omega,c4,el.2 (by omega),by omega,by omega⟩ hbad
theorem Zw6{al s:Nat}(hT:σ.Ints h t)(hH:σ.Has h)(hS:σ.Ints h' sa)(hp:σ.prot<=σ.objs.length)(ok:okF t sa al s) :
  ∃ p σ',Runs Qb 67 [.slice h,.slice h',.int .i64 al,.int .i64 s] σ (.tuple [.ptr p,.int .i64 0]) σ'/\Kp σ.objs.length σ σ'/\∀ σ'':Store,(∀ x,σ.objs.length<=x->x<σ'.objs.length->σ''.objs[x]?=σ'.objs[x]?)->Fnd σ'' p t al s:=by
 obtain⟨c1,c2,c3,c4,c5,c6,c7⟩:=ok
 obtain⟨a1,a2,a3,a4⟩:=Zmg.1 c1
 have ll:=hT.ilen
 have ls:=hS.ilen
 have SA:=Zi t
 have lsa:=Z7 t
 obtain⟨h1,σ1,⟨k1,r1⟩,K1,I1,_,_⟩:=Zgq (al:=(al:Int)) hT hH hp (by omega)
 rw [if_pos c1] at r1 I1
 have T1:=Store.Sl.kp hT K1
 have S1:=Store.Sl.kp hS K1
 have hp1:σ1.prot<=σ1.objs.length:=by rw [K1.prot]; have:=K1.len; omega
 obtain⟨k2,r2⟩:=Zm5 I1 S1 (by omega)
 rw [decide_eq_true c4] at r2
 obtain⟨i,⟨k3,r3⟩,q3,_⟩:=Zhf (l:=t) T1 (by omega) (rd t (t.length-1))
 have q3:=q3 (Ze (by omega) (by omega))
 have w1:Qa .i64 ((t.length:Int)-1)=(t.length:Int)-1:=by rw [Za (by omega) (by omega)]
 have g:=Store.Ints.rd (l:=t) T1 (i:=(t.length:Int)-1) (by omega) (by omega)
 have b0:(0:Int)<=(t.length:Int)-1:=by omega
 have b1:(t.length:Int)-1<t.length:=by omega
 have el:=(Zpl (t:=t) (by omega)).1 c5
 rw [el] at q3
 have e5:i=(t.length:Int)-1:=by omega
 have z0:¬ (t.length:Int)=0:=by omega
 have z1:¬ (4194304:Int)<=al:=by omega
 have z2:¬ (s:Int)<1:=by omega
 have z3:¬ (4194304:Int)<s:=by omega
 have z4:¬ (s:Int)=0:=by omega
 have lst:sa.length=t.length:=by rw [<-c4,lsa]
 obtain⟨h2,σ2,⟨k4,r4⟩,K2,I2,H2⟩:=Zz8 T1 S1 hp1 (by omega) (by omega)
 have hpm:permB sa=true/\sa.length=t.length:=⟨Zew.2 (by rw [<-c4,lsa]; exact SA.perm),by rw [<-c4,lsa]⟩
 rw [if_pos hpm] at r4 I2
 rw [<-c4] at I2
 obtain⟨B,hB⟩:∃ B,B=bwtOf t (saOf t):=⟨_,rfl⟩
 rw [<-hB] at I2
 have lB:B.length=t.length:=by rw [hB,Zaa,lsa]
 have mB:∀ x∈B,0<=x/\x<al:=fun x hx=>a4 x ((Zj0 (t:=t) SA.perm).mem_iff.1 (hB ▸ hx))
 have T2:=Store.Sl.kp T1 K2
 have g2:=Store.Ints.rd (l:=t) T2 (i:=(t.length:Int)-1) (by omega) (by omega)
 have K02:=K1.all K2
 obtain⟨b,hb⟩:∃ b,b=σ2.objs.length:=⟨_,rfl⟩
 obtain⟨σ3,h3⟩:∃ s3,s3=σ2.push [.int .i64 t.length,.int .i64 al,.int .i64 s,.int .i64 (rd t (t.length-1)),.slice Q3,.ptr none,.ptr none,.ptr none] 8:=⟨_,rfl⟩
 have R3:σ3.Row b 8 [.int .i64 t.length,.int .i64 al,.int .i64 s,.int .i64 (rd t (t.length-1)),.slice Q3,.ptr none,.ptr none,.ptr none]:=by rw [h3,hb]; exact Store.Row.new
 have K3:Kp σ2.objs.length σ2 σ3:=by rw [h3]; exact Kp.push _ _ (Qe _)
 have len3:σ3.objs.length=b+1:=by rw [h3,hb]; simp
 have hpb:σ.prot<=b:=by have:=K02.len; omega
 have p3:σ3.prot=σ.prot:=by rw [K3.prot,K02.prot]
 obtain⟨h4,σ4,⟨k5,r5⟩,K4,I4,H4,q4⟩:=Zup (al:=(al:Int)) (Store.Sl.kp I2 K3) (by omega) (by omega)
 have okc:okC B al=true:=Zts.2 ⟨by omega,by omega,mB⟩
 rw [if_pos okc] at r5 I4
 obtain⟨N,n1,n2,n3⟩:=q4 okc
 subst n2
 have R4:=R3.kp K4 (by omega)
 have l34:=K4.len
 have t5:=Zw R4 (o:=4) (by rw [K4.prot]; omega) (by simp) (v:=.slice (hdS N ((al:Int).toNat+1))) rfl
 obtain⟨σ5,h5⟩:∃ s5,s5=σ4.setO b (.cells ([.int .i64 t.length,.int .i64 al,.int .i64 s,.int .i64 (rd t (t.length-1)),.slice Q3,.ptr none,.ptr none,.ptr none].set 4 (.slice (hdS N ((al:Int).toNat+1)))) true 8):=⟨_,rfl⟩
 rw [<-h5] at t5
 have R5:σ5.Row b 8 [.int .i64 t.length,.int .i64 al,.int .i64 s,.int .i64 (rd t (t.length-1)),.slice (hdS N ((al:Int).toNat+1)),.ptr none,.ptr none,.ptr none]:=by rw [h5]; exact Store.Row.setO_eq R4.lt
 have Q45:Kq b σ4.objs.length σ4 σ5:=by rw [h5]; exact Kq.set _ _ _ _
 have len5:σ5.objs.length=σ4.objs.length:=by rw [h5]; simp
 have I25:σ5.Ints h2 B:=(Store.Sl.kp I2 (K3.all K4)).keep fun x o e=>Q45.keep x (by
   have:=H2 x (by simp [Hdl.row,e]); omega) (by have:=H2 x (by simp [Hdl.row,e]); omega)
 have w2:Qa .i64 ((al:Int)-1)=(al:Int)-1:=Za (by omega) (by omega)
 have al0:1<=al:=by have:=a4 _ (Ze (l:=t) (i:=0) (by omega) (by omega)); omega
 have okw:okW B ((al:Int)-1)=true:=Zmh.2 ⟨by omega,by omega,by omega,fun x hx=>by have:=mB x hx; omega⟩
 have p5:σ5.prot=σ.prot:=by rw [Q45.prot,K4.prot,p3]
 obtain⟨pm,w,σ6,⟨k6,r6⟩,K6,M6,_,_,F6⟩:=Zja I25 (by omega) okw
 have l6:=K6.len
 have R6:=R5.kp K6 (by omega)
 have p6:σ6.prot=σ.prot:=by rw [K6.prot,p5]
 have t7:=Zw R6 (o:=5) (by omega) (by simp) (v:=.ptr pm) rfl
 obtain⟨σ7,h7⟩:∃ s7,s7=σ6.setO b (.cells ([.int .i64 t.length,.int .i64 al,.int .i64 s,.int .i64 (rd t (t.length-1)),.slice (hdS N ((al:Int).toNat+1)),.ptr none,.ptr none,.ptr none].set 5 (.ptr pm)) true 8):=⟨_,rfl⟩
 rw [<-h7] at t7
 have R7:σ7.Row b 8 [.int .i64 t.length,.int .i64 al,.int .i64 s,.int .i64 (rd t (t.length-1)),.slice (hdS N ((al:Int).toNat+1)),.ptr pm,.ptr none,.ptr none]:=by rw [h7]; exact Store.Row.setO_eq R6.lt
 have Q67:Kq b σ6.objs.length σ6 σ7:=by rw [h7]; exact Kq.set _ _ _ _
 have len7:σ7.objs.length=σ6.objs.length:=by rw [h7]; simp
 obtain⟨m,hm⟩:∃ m,m=σ7.objs.length:=⟨_,rfl⟩
 have bm:b<m:=by omega
 obtain⟨σ8,⟨k8,r8⟩,K8,len8,P8⟩:=Ze9 (σ:=σ7) (n:=t.length) (by omega)
 obtain⟨wd,⟨k9,r9⟩,W1,W2,W3,W4⟩:=Zn9 σ8 (x:=t.length) (by omega)
 have wu:Qa .u64 (t.length:Int)=(t.length:Int):=by rw [Zx (by omega) (by omega)]
 obtain⟨cc,hcc⟩:∃ cc,cc=(t.length-1) / s+1:=⟨_,rfl⟩
 have cl:cc<=t.length:=by have:(t.length-1) / s<=t.length-1:=Q4 _ _; omega
 have wc:Qa .i64 (Qa .i64 (Qbm ((t.length:Int)-1) s)+1)=(cc:Nat):=by
  rw [Qq (by omega),show (t.length:Int)-1=((t.length-1:Nat):Int) by omega,<-Qab,hcc]
  rw [hcc] at cl
  generalize (t.length-1) / s=u at *
  rw [Za (x:=(u:Int)) (by omega) (by omega),Za (by omega) (by omega)]; omega
 obtain⟨σ9,⟨k10,r10⟩,K9,len9,ws,P9,C9⟩:=Zq4 (σ:=σ8) (w:=wd) (n:=cc) W1 (by omega) (by omega)
 have R9:=(R7.kp K8 (by omega)).kp K9 (by omega)
 have p9:σ9.prot=σ.prot:=by rw [K9.prot,K8.prot,Q67.prot,p6]
 have t10:=Zw R9 (o:=7) (by omega) (by simp) (v:=.ptr (some (σ8.objs.length+1,0))) rfl
 obtain⟨σ10,h10⟩:∃ s10,s10=σ9.setO b (.cells ([.int .i64 t.length,.int .i64 al,.int .i64 s,.int .i64 (rd t (t.length-1)),.slice (hdS N ((al:Int).toNat+1)),.ptr pm,.ptr none,.ptr none].set 7 (.ptr (some (σ8.objs.length+1,0)))) true 8):=⟨_,rfl⟩
 rw [<-h10] at t10
 have R10:σ10.Row b 8 [.int .i64 t.length,.int .i64 al,.int .i64 s,.int .i64 (rd t (t.length-1)),.slice (hdS N ((al:Int).toNat+1)),.ptr pm,.ptr none,.ptr (some (σ8.objs.length+1,0))]:=by rw [h10]; exact Store.Row.setO_eq R9.lt
 have Q910:Kq b σ9.objs.length σ9 σ10:=by rw [h10]; exact Kq.set _ _ _ _
 have len10:σ10.objs.length=σ9.objs.length:=by rw [h10]; simp
 have s8:σ8.objs.length=m+2:=by omega
 rw [s8] at R10 P9
 have P10:Pk σ10 m (Ql t.length false):=by
  rw [hm]
  refine (P8.keep (σ':=σ9) (K9.keep _ (by omega)) (K9.keep _ (by omega))).keep (Q910.keep _ (by omega) (by omega)) (Q910.keep _ (by omega) (by omega))
 have W10:PkW σ10 (m+2) wd cc ws:=P9.keep (Q910.keep _ (by omega) (by omega)) (Q910.keep _ (by omega) (by omega))
 have K010:Kp σ.objs.length σ σ10:=by
  have q:Kq b σ2.objs.length σ2 σ10:=(((((((Kq.of K3 (Qe _)).trans (Kq.of K4 (Qe _)) (by omega)).trans Q45 (by omega)).trans (Kq.of K6 (Qe _)) (by omega)).trans Q67 (by omega)).trans (Kq.of K8 (Qe _)) (by omega)).trans (Kq.of K9 (Qe _)) (by omega)).trans Q910 (by omega)
  have k02:=K02.len
  exact⟨q.prot.trans K02.prot,QbN k02 q.len,fun x hx=>(q.keep x (by omega) (by omega)).trans (K02.keep x hx)⟩
 have f7:=Zaj R10 (o:=7) rfl
 have psa:IsPerm t.length sa:=c4 ▸ SA.perm
 obtain⟨σ11,ws',e11,K11,len11,P11,W11,C11⟩:=Zw7 (b:=b) hS K010 (by have:=K02.len; omega) bm psa (by omega) (by omega) (by omega) f7 P10 W10 C9 W1 (by omega) W3 (by rw [Q910.prot,p9]; omega) hcc
 have p11:σ11.prot=σ.prot:=by rw [K11.prot,Q910.prot,p9]
 obtain⟨pv,σ12,⟨k12,r12⟩,K12,V12⟩:=Zfa P11 (by omega) (by simp; omega)
 have l12:=K12.len
 have R11:=R10.kp K11 (by omega)
 have R12:=R11.kp K12 (by omega)
 have p12:σ12.prot=σ.prot:=by rw [K12.prot,p11]
 have t13:=Zw R12 (o:=6) (by omega) (by simp) (v:=.ptr pv) rfl
 obtain⟨σ13,h13⟩:∃ s13,s13=σ12.setO b (.cells ([.int .i64 t.length,.int .i64 al,.int .i64 s,.int .i64 (rd t (t.length-1)),.slice (hdS N ((al:Int).toNat+1)),.ptr pm,.ptr none,.ptr (some (m+2+1,0))].set 6 (.ptr pv)) true 8):=⟨_,rfl⟩
 rw [<-h13] at t13
 have R13:σ13.Row b 8 [.int .i64 t.length,.int .i64 al,.int .i64 s,.int .i64 (rd t (t.length-1)),.slice (hdS N ((al:Int).toNat+1)),.ptr pm,.ptr pv,.ptr (some (m+2+1,0))]:=by rw [h13]; exact Store.Row.setO_eq R12.lt
 have Q1213:Kq b σ12.objs.length σ12 σ13:=by rw [h13]; exact Kq.set _ _ _ _
 have len13:σ13.objs.length=σ12.objs.length:=by rw [h13]; simp
 have q713:Kq b m σ7 σ13:=((((Kq.of K8 (by omega)).trans (Kq.of K9 (Qe _)) (by omega)).trans Q910 (by omega)).trans (Kq.of K11 (Qe _)) (by omega)).trans ((Kq.of K12 (Qe _)).trans Q1213 (by omega)) (by omega)
 have q613:Kq b m σ6 σ13:=by
  have:=Q67.trans q713 (by omega)
  rwa [show σ6.objs.length=m by omega] at this
 have q413:Kq b σ4.objs.length σ4 σ13:=(Q45.trans (Kq.of K6 (Qe _)) (by omega)).trans q613 (by omega)
 have N13:σ13.Row N 1 (intsL (belows B ((al:Int).toNat+1))):=by
  have:N<σ4.objs.length:=n3.lt
  exact (q413.keep N this (by omega)).trans n3
 have W13:PkW σ13 (m+2) wd cc ws':=by
  have k:∀ x,x<m+4->x≠b->σ13.objs[x]?=σ11.objs[x]?:=fun x hx hxb=>(Q1213.keep x (by omega) hxb).trans (K12.keep x (by omega))
  exact W11.keep (k _ (by omega) (by omega)) (k _ (by omega) (by omega))
 have K013:Kp σ.objs.length σ σ13:=by
  have l02:=K02.len
  refine⟨by rw [Q1213.prot,p12],by have:=K010.len; omega,fun x hx=>?_⟩
  rw [Q1213.keep x (by omega) (by omega),K12.keep x (by omega),K11.keep x (by omega),K010.keep x hx]
 rw [hcc] at W13 C11
 rw [<-c4] at V12 C11
 have k02l:=K02.len
 refine⟨some (b,0),σ13,rI Tryz.f67 ?_,K013,fun σ'' kq=>⟨⟨b,hdS N ((al:Int).toNat+1),pm,w,pv,m+2,wd,ws',rfl,(kq b (by omega) R13.lt).trans R13,by rw [<-hB]; exact Store.Row.sl ((kq N (by omega) N13.lt).trans N13) (by simp [Z2]),hB ▸ Mat.from_ F6 (fun x h1 h2=>(kq x (by omega) (by omega)).trans (q613.keep x (by omega) (by omega))),(V12.keep (σ':=σ'') fun x hx=>(kq x (by omega) (by omega)).trans (Q1213.keep x (by omega) (by omega))).vec,W13.keep (kq _ (by omega) (by omega)) (kq _ (by omega) (by omega)),C11,W1,by omega,W3⟩,c5,a4,by omega,by omega,by omega,by omega⟩⟩
 obtain⟨k11,e11⟩:=Zc e11
 refine⟨k1+k2+k3+k4+k5+k6+k8+k9+k10+k11+k12,fun k hk=>?_⟩
 have r1:=r1 k (by omega)
 have r2:=r2 k (by omega)
 have r3:=r3 k (by omega)
 have r4:=r4 k (by omega)
 have r5:=r5 k (by omega)
 have r6:=r6 k (by omega)
 have r8:=r8 k (by omega)
 have r9:=r9 k (by omega)
 have r10:=r10 k (by omega)
 have e11:=e11 k (by omega)
 have r12:=r12 k (by omega)
 simp only at r1 r2 r3 r4 r5 r6 r8 r9 r10 e11 r12
 rw [<-hm] at r8
 rw [s8] at r10 t10
 simp only [Zfg]
 simp only [stp,r1,z0,z1,r2,w1,b0,b1,g,r3,e5,z2,z3,r4,g2,ll,<-hb,<-h3,r5,t5,w2,r6,t7,r8,wu,r9,z4,wc,r10,t10,ls,hpm.2,e11]
 simp only [Zff]
 simp only [stp,r12,t13]
end
end Go.Ab

namespace Go.Ab
open Go
section
variable {P:Program} [Told P]
theorem RunsY.stop{l:Nat}{φ:Fr}{ps:List Tmp}{x y:Code}{nt:Nat}{args:List AV}{σ:Store}(hl:σ.objs[l]?=some (.loop φ ps x y nt .ready))(hp:σ.prot<=l)(ha:ps.length=args.length)(hall:(ps.all fun t=>Nat.blt t nt)=true)
  {φ1:Fr} (hx:∀ k,evCode P (gm P k) QO k nt false x ⟨liveC y ⟨0,0,[]⟩,0,[]⟩ (roundFr ps args φ) σ (fun e φ1 σ1=>some ((e,φ1,σ1):LX))=some (.normal,φ1,σ))
  {e:AX} (he:e≠.normal) {σ2:Store} (hy:Ev (fun k=>evCode P (gm P k) QO k nt false y ⟨0,0,[]⟩ (φ1.sel (liveC y ⟨0,0,[]⟩) nt) (σ.setO l (.loop φ ps x y nt .busy)) (fun e _ σ2=>some (e,σ2))) (e,σ2)) (h2:σ2.objs[l]?=some (.loop φ ps x y nt .busy)) :
  RunsY P l args σ (.bool false) (σ2.setO l (.loop φ ps x y nt (.fin e))):=by
 obtain⟨k0,hy⟩:=hy
 refine⟨k0+1,fun k hk=>?_⟩
 obtain⟨k,rfl⟩:∃ i,k=i+1:=⟨k-1,by omega⟩
 simp only [gm,gam,evRound,hl]
 rw [if_pos ⟨hp,ha,hall⟩]
 have hx':=hx k
 have hy':=hy k (by omega)
 simp only [gm] at hx' hy'
 rw [hx']
 simp only [Qj,hl]
 rw [hy']
 simp only [Qj,h2]
 cases e with
 | normal=>exact absurd rfl he
 | exit i=>rfl
 | ret=>rfl
theorem Zvv{g:FuncId}{a b:List AV}{φ:Fr}{ps:List Tmp}{x y:Code}{nt:Nat}{σ σ':Store}{v:AV}{φ':Fr}{ps':List Tmp}{x' y':Code}{nt':Nat}{e:AX}
  (h:Runs P g (a++[.yld σ.objs.length]++b) { σ with objs:=σ.objs++[.loop φ ps x y nt .ready] } v σ') (hl:σ'.objs[σ.objs.length]?=some (.loop φ' ps' x' y' nt' (.fin e))) :
  Ev (fun k=>rangeV (gm P k) g a b (.loop φ ps x y nt .ready) σ) (e,σ'.setO σ.objs.length .dead):=by
 obtain⟨k0,h⟩:=h
 refine⟨k0,fun k hk=>?_⟩
 simp only [rangeV,h k hk,Qj,hl]
end
end Go.Ab

namespace Go.Ab
open Go Go.Proofs Go.Ab.Wd Go.Ab.Bs Go.Ab.Sai
def ranR(B:List Int)(n al:Nat):List Int->Int×Int
 | []=>(0,n)
 | c::q=>nar B n al (ranR B n al q).1 (ranR B n al q).2 c
theorem Zqu(B:List Int)(n al:Nat)(c:Int):nar B n al 0 0 c=(0,0):=by
 unfold nar; rw [if_neg]; rintro⟨_,_,_,_,_,h⟩; exact h rfl
theorem Zxv{B:List Int}{n al:Nat}{x y c:Int}(h:(nar B n al x y c).1=(nar B n al x y c).2):nar B n al x y c=(0,0):=by
 unfold nar at h ⊢
 by_cases c1:0<=c/\c<al/\0<=x/\x<=y/\y<=n/\narrow B c x.toNat≠narrow B c y.toNat
 ·rw [if_pos c1] at h
  exact absurd (by simp at h; omega) c1.2.2.2.2.2
 ·rw [if_neg c1]
theorem Znx{B:List Int}{n al:Nat}{q:List Int}(h:ranR B n al q=(0,0)):∀ p:List Int,ranR B n al (p++q)=(0,0)
 | []=>h
 | c::p=>by
  rw [List.cons_append,ranR,Znx h p]; exact Zqu ..
theorem Zyd{B:List Int}{n al m:Nat}{p:List Int}(h:ranR B n al (p.drop m)=(0,0)):ranR B n al p=(0,0):=by
 have:=Znx h (p.take m)
 rwa [Q5] at this
def Rg(t p:List Int)(r:Int×Int):Prop:=(∃ a z:Nat,IsRng t (saOf t) p a z/\a<z/\r=((a:Int),(z:Int)))\/(r=(0,0)/\∀ j:Nat,j<t.length->¬ Pf t (rd (saOf t) j) p)
theorem Ztt{t:List Int}{x c:Int}{q:List Int}(h:Pf t x (c::q)):rd t x=c/\0<=x/\x<t.length/\Pf t (x+1) q:=by
 have h0:=h.1
 have h1:=h.2.1
 simp only [Q6] at h1
 have:=(Pf.cons_iff h0 (by omega)).1 h
 exact⟨this.1,h0,by omega,this.2⟩
theorem Znw{t:List Int}{al:Nat}(he:Bs.Ends t)(rng:∀ x∈t,0<=x/\x<al):∀ p:List Int,rd t (t.length-1) ∉ p.take (p.length-1)->Rg t p (ranR (bwtOf t (saOf t)) t.length al p)
 | [],_=>.inl ⟨0,t.length,IsRng.all (Zi t),he.1,rfl⟩
 | c::q,hl=>by
  have SA:=Zi t
  have ls:=Z7 t
  have h0:=he.1
  have bl:(bwtOf t (saOf t)).length=t.length:=by rw [Zaa,ls]
  have hq:rd t (t.length-1) ∉ q.take (q.length-1):=fun hm=>hl (by
   cases q with
   | nil=>simp at hm
   | cons d q=>
    simp only [Q6,Nat.add_sub_cancel] at hm ⊢
    rw [Qay]
    exact List.mem_cons_of_mem _ hm)
  have hc:q=[]\/c≠rd t (t.length-1):=by
   cases q with
   | nil=>exact .inl rfl
   | cons d q=>exact .inr fun e=>hl (by simp [e])
  have IH:=Znw he rng q hq
  rw [ranR]
  rcases IH with ⟨a,z,R,haz,er⟩ | ⟨er,no⟩
  ·rw [er]
   simp only
   by_cases hcal:0<=c/\c<al
   ·have st:=R.step SA he hc
    have lz:=R.lz
    unfold nar
    simp only [Qc]
    by_cases hne:narrow (bwtOf t (saOf t)) c a=narrow (bwtOf t (saOf t)) c z
    ·rw [if_neg (fun h=>h.2.2.2.2.2 hne)]
     refine .inr ⟨rfl,fun j hj hp=>?_⟩
     have:=(st.iff j hj).2 hp
     omega
    ·rw [if_pos ⟨hcal.1,hcal.2,by omega,by omega,by omega,hne⟩]
     have:=st.le
     exact .inl ⟨_,_,st,by omega,rfl⟩
   ·unfold nar
    rw [if_neg (fun h=>hcal ⟨h.1,h.2.1⟩)]
    refine .inr ⟨rfl,fun j hj hp=>?_⟩
    obtain⟨h1,h2,h3,_⟩:=Ztt hp
    have:=rng _ (Ze (l:=t) h2 h3)
    rw [h1] at this
    exact hcal this
  ·rw [er]
   simp only [Zqu]
   refine .inr ⟨rfl,fun j hj hp=>?_⟩
   obtain⟨h1,h2,h3,h4⟩:=Ztt hp
   cases q with
   | nil=>
    refine no j hj ?_
    have:=SA.perm.rng _ (Ze (l:=saOf t) (i:=(j:Int)) (by omega) (by omega))
    exact Pf.nil this.1 (by omega)
   | cons d q=>
    have h5:=h4.2.1
    simp only [Q6] at h5
    obtain⟨i,i0,i1,ei⟩:=Zbl (SA.perm.mem_iff.2 (⟨by omega,by omega⟩:0<=rd (saOf t) j+1/\rd (saOf t) j+1<t.length))
    obtain⟨i,rfl⟩:=Qg i0
    refine no i (by omega) ?_
    rw [ei]; exact h4
def ran(t:List Int)(al:Nat)(p:List Int):Int×Int:=if rd t (t.length-1)∈p.take (p.length-1) then (0,0) else ranR (bwtOf t (saOf t)) t.length al p
theorem Zrd{t:List Int}{al:Nat}(he:Bs.Ends t)(rng:∀ x∈t,0<=x/\x<al)(p:List Int):Rg t p (ran t al p):=by
 unfold ran
 split
 ·rename_i hm
  refine .inr ⟨rfl,fun j hj hp=>?_⟩
  obtain⟨k,k0,k1,ek⟩:=Zbl hm
  obtain⟨k,rfl⟩:=Qg k0
  have k2:k<p.length-1:=by simp at k1; omega
  have e1:rd (p.take (p.length-1)) k=rd p k:=by rw [Zb (by simpa using k1),Zb (by omega)]; simp
  have h1:=hp.2.2 k (by omega)
  have h2:=hp.2.1
  refine he.2 (rd (saOf t) j+k) (by have:=hp.1; omega) (by omega) ?_
  rw [h1,<-e1,ek]
 ·rename_i hm
  exact Znw he rng p hm
noncomputable abbrev rgx:Code:=codeAt (fnCode Tryz.f82) ([1,1,1,0,1,0]++[0])
noncomputable abbrev rgy:Code:=codeAt (fnCode Tryz.f82) ([1,1,1,0,1,0]++[1])
abbrev rgf (N:Nat):Fr:=[(7,.ptr (some (N+4,0))),(6,.ptr (some (N+3,0))),(5,.ptr (some (N+2,0))),(4,.ptr (some (N+1,0))),(2,.ptr (some (N,0)))]
noncomputable abbrev rgo (N:Nat) (st:LSt):AObj:=.loop (rgf N) [35,36] rgx rgy (Func.ntmps Tryz.f82) st
structure RgI (σ:Store) (p:Ptr) (h:Hdl) (r:Int×Int) (st:LSt) (s:Store):Prop where
 kk:Kp σ.objs.length σ s
 r0:s.Row σ.objs.length 1 [.ptr p]
 r1:s.Row (σ.objs.length+1) 1 [.int .i64 0]
 r2:s.Row (σ.objs.length+2) 1 [.int .i64 0]
 r3:s.Row (σ.objs.length+3) 1 [.int .i64 r.1]
 r4:s.Row (σ.objs.length+4) 1 [.int .i64 r.2]
 r5:s.Row (σ.objs.length+5) 1 [.slice h]
 r6:s.objs[σ.objs.length+6]?=some (rgo σ.objs.length st)
theorem RgI.set{σ:Store}{p:Ptr}{h:Hdl}{r:Int×Int}{st st':LSt}{s:Store}(I:RgI σ p h r st s):RgI σ p h r st' (s.setO (σ.objs.length+6) (rgo σ.objs.length st')):=by
 have hlt:σ.objs.length+6<s.objs.length:=(Qf.1 I.r6).1
 exact⟨I.kk.setO (by omega),I.r0.setO_ne (by omega),I.r1.setO_ne (by omega),I.r2.setO_ne (by omega),I.r3.setO_ne (by omega),I.r4.setO_ne (by omega),I.r5.setO_ne (by omega),by rw [Zcy _ _ _ hlt,if_pos rfl]⟩
theorem Zag{s:Store}{b:Nat}{x:Int}(r:s.Row b 1 [.int .i64 x]):s.ldInt .i64 (some (b,0))=some x:=by simp only [Qah,r.cell]; simp
theorem Zmi{s:Store}{b:Nat}{x:Ptr}(r:s.Row b 1 [.ptr x]):s.ldPtr (some (b,0))=some x:=by simp only [Qb6,r.cell]; simp
theorem Z5b{s:Store}{b:Nat}{x:Hdl}(r:s.Row b 1 [.slice x]):s.ldSl (some (b,0))=some x:=by simp only [QbE,r.cell]; simp
theorem Za7{s:Store}{b:Nat}{v w:AV}(r:s.Row b 1 [v])(hp:s.prot<=b)(hw:w.one=true):∃ s',s.stL (some (b,0)) [w] 0=some s'/\s'=s.setO b (.cells [w] true 1)/\s'.Row b 1 [w]/\∀ {c es l},s.Row c es l->c≠b->s'.Row c es l:=by
 have t:=Zt7 r hp (o:=0) (by simp) hw
 exact⟨_,t,rfl,Store.Row.setO_eq r.lt,fun h hne=>h.setO_ne (Ne.symm hne)⟩
section
variable {σ:Store} {p:Ptr} {t:List Int} {al sp:Nat}
theorem Z0l{h:Hdl}{r:Int×Int}{i c x y:Int}{s:Store}(hr:nar (bwtOf t (saOf t)) t.length al r.1 r.2 c=(x,y))(F:Fnd σ p t al sp)(hp:σ.prot<=σ.objs.length)(I:RgI σ p h r .ready s) :
  ∃ s',if x=y then RunsY Qb (σ.objs.length+6) [.int .i64 i,.int .i64 c] s (.bool false) s'/\RgI σ p h (x,y) (.fin .ret) s' else RunsY Qb (σ.objs.length+6) [.int .i64 i,.int .i64 c] s (.bool true) s'/\RgI σ p h (x,y) .ready s':=by
 have lt6:σ.objs.length+6<s.objs.length:=(Qf.1 I.r6).1
 obtain⟨sb,hsb⟩:∃ sb,sb=s.setO (σ.objs.length+6) (rgo σ.objs.length .busy):=⟨_,rfl⟩
 have Ib:RgI σ p h r .busy sb:=by rw [hsb]; exact I.set
 have lb:σ.objs.length+6<sb.objs.length:=(Qf.1 Ib.r6).1
 have hpb:sb.prot<=σ.objs.length:=by rw [Ib.kk.prot]; exact hp
 have Fb:=F.kp Ib.kk
 obtain⟨n1,q1⟩:=Zvh Fb r.1 r.2 c
 rw [hr] at q1
 have f0:=Zmi Ib.r0
 have f3:=Zag Ib.r3
 have f4:=Zag Ib.r4
 obtain⟨s1,t1,e1,R31,k1⟩:=Za7 (w:=.int .i64 x) Ib.r3 (by omega) rfl
 have p1:s1.prot=sb.prot:=by rw [e1]; rfl
 obtain⟨s2,t2,e2,R42,k2⟩:=Za7 (w:=.int .i64 y) (k1 Ib.r4 (by omega)) (by omega) rfl
 have p2:s2.prot=sb.prot:=by rw [e2,setO_prot,p1]
 have g3:=Zag (k2 R31 (by omega))
 have g4:=Zag R42
 have obj2:s2.objs[σ.objs.length+6]?=some (rgo σ.objs.length .busy):=by
  rw [e2,e1]
  show ((sb.objs.set _ _).set _ _)[_]?=_
  rw [Qk,if_neg (by omega),Qk,if_neg (by omega)]; exact Ib.r6
 have I2:RgI σ p h (x,y) .busy s2:=by
  refine⟨?_,k2 (k1 Ib.r0 (by omega)) (by omega),k2 (k1 Ib.r1 (by omega)) (by omega),k2 (k1 Ib.r2 (by omega)) (by omega),k2 R31 (by omega),R42,k2 (k1 Ib.r5 (by omega)) (by omega),obj2⟩
  rw [e2,e1]; exact (Ib.kk.setO (by omega)).setO (by omega)
 have hx:∀ k,evCode Qb (gm Qb k) QO k (Func.ntmps Tryz.f82) false rgx ⟨liveC rgy ⟨0,0,[]⟩,0,[]⟩ (roundFr [35,36] [.int .i64 i,.int .i64 c] (rgf σ.objs.length)) s (fun e φ1 σ1=>some ((e,φ1,σ1):LX)) =
   some (.normal,[(9,.int .i64 c),(36,.int .i64 c),(35,.int .i64 i)]++rgf σ.objs.length,s):=fun k=>Zqc (gm Qb k) k s _ _ _ _ _ _ _
 have hsel:Fr.sel ([(9,.int .i64 c),(36,.int .i64 c),(35,.int .i64 i)]++rgf σ.objs.length) (liveC rgy ⟨0,0,[]⟩) (Func.ntmps Tryz.f82)=(9,.int .i64 c)::rgf σ.objs.length:=by kernel_rfl
 by_cases q:x=y
 ·have r0:(x,y)=((0:Int),(0:Int)):=by rw [<-hr]; exact Zxv (by rw [hr]; exact q)
  injection r0 with rx ry
  subst rx ry
  obtain⟨s3,t3,e3,R13,k3⟩:=Za7 (w:=.int .i64 0) I2.r1 (by omega) rfl
  have p3:s3.prot=sb.prot:=by rw [e3,setO_prot,p2]
  obtain⟨s4,t4,e4,R24,k4⟩:=Za7 (w:=.int .i64 0) (k3 I2.r2 (by omega)) (by omega) rfl
  have obj4:s4.objs[σ.objs.length+6]?=some (rgo σ.objs.length .busy):=by
   rw [e4,e3]
   show ((s2.objs.set _ _).set _ _)[_]?=_
   rw [Qk,if_neg (by omega),Qk,if_neg (by omega)]; exact I2.r6
  have I4:RgI σ p h (0,0) .busy s4:=by
   refine⟨?_,k4 (k3 I2.r0 (by omega)) (by omega),k4 R13 (by omega),R24,k4 (k3 I2.r3 (by omega)) (by omega),k4 (k3 I2.r4 (by omega)) (by omega),k4 (k3 I2.r5 (by omega)) (by omega),obj4⟩
   rw [e4,e3]; exact (I2.kk.setO (by omega)).setO (by omega)
  have ev:Ev (fun kk=>roundY Qb (gm Qb kk) QO kk Tryz.f82 [1,1,1,0,1,0] ((9,.int .i64 c)::rgf σ.objs.length) sb) (.ret,s4):=by
   refine⟨n1,fun kk hkk=>?_⟩
   have q1:=q1 kk hkk
   simp only at q1
   simp only [Zhc]
   simp only [stp,f0,f3,f4,q1,t1,t2,g3,g4,t3,t4]
  refine⟨s4.setO (σ.objs.length+6) (rgo σ.objs.length (.fin .ret)),?_⟩
  rw [if_pos q]
  refine⟨RunsY.stop I.r6 (by rw [I.kk.prot]; omega) rfl (by kernel_rfl) hx (by simp) ?_ I4.r6,I4.set⟩
  obtain⟨n,ev⟩:=ev
  refine⟨n,fun kk hkk=>?_⟩
  have ev:=ev kk hkk
  simp only at ev
  rw [hsel]
  rw [hsb] at ev
  exact ev
 ·have ev:Ev (fun kk=>roundY Qb (gm Qb kk) QO kk Tryz.f82 [1,1,1,0,1,0] ((9,.int .i64 c)::rgf σ.objs.length) sb) (.normal,s2):=by
   refine⟨n1,fun kk hkk=>?_⟩
   have q1:=q1 kk hkk
   simp only at q1
   simp only [Zhc]
   simp only [stp,f0,f3,f4,q1,t1,t2,g3,g4,q]
  refine⟨s2.setO (σ.objs.length+6) (rgo σ.objs.length .ready),?_⟩
  rw [if_neg q]
  refine⟨RunsY.intro I.r6 (by rw [I.kk.prot]; omega) rfl (by kernel_rfl) hx ?_ I2.r6,I2.set⟩
  obtain⟨n,ev⟩:=ev
  refine⟨n,fun kk hkk=>?_⟩
  have ev:=ev kk hkk
  simp only at ev
  rw [hsel]
  rw [hsb] at ev
  exact ev
end
end Go.Ab

namespace Go.Ab
open Go Go.Proofs Go.Ab.Wd Go.Ab.Bs Go.Ab.Sai
theorem Z3o{b c o o':Nat}(h:b≠c):Ptr.off (some (b,o)) (some (c,o'))=true:=by
 show (!Nat.beq b c)=true
 cases e:Nat.beq b c with
 | false=>rfl
 | true=>exact absurd (Nat.eq_of_beq_eq_true e) h
section
variable {σ:Store} {p:Ptr} {t:List Int} {al sp:Nat}
theorem Z3t{h:Hdl}{pt:List Int}{s:Store}(F:Fnd σ p t al sp)(hp:σ.prot<=σ.objs.length)(S:σ.Ints h pt)(hn:pt.length<2^61)(I:RgI σ p h (0,(t.length:Int)) .ready s) :
  ∃ s',Runs Qb 204 [.yld (σ.objs.length+6),.ptr (some (σ.objs.length+5,0))] s (.tuple []) s' /\
   (RgI σ p h (ranR (bwtOf t (saOf t)) t.length al pt) .ready s'\/(ranR (bwtOf t (saOf t)) t.length al pt=(0,0)/\RgI σ p h (0,0) (.fin .ret) s')):=by
 have ll:=S.ilen
 obtain⟨B,hB⟩:∃ B,B=bwtOf t (saOf t):=⟨_,rfl⟩
 have e5:∀ {r:Int×Int} {st:LSt} {s1:Store},RgI σ p h r st s1->s1.ldSl (some (σ.objs.length+5,0))=some h:=fun {r st s1} I=>Z5b I.r5
 obtain⟨r,e,s',q⟩:=EvI.downX (f:=fun k s=>Qam Qb (gm Qb k) QO k Tryz.f204 [1,0] [3,1,0] s)
  (fun m st=>∃ s1,st=([.int .i64 ((m:Int)-1),.ptr (some (σ.objs.length+5,0)),.yld (σ.objs.length+6)],s1)/\m<=pt.length/\RgI σ p h (ranR (bwtOf t (saOf t)) t.length al (pt.drop m)) .ready s1)
  (fun r=>∃ s1,(r=(Qw 0,[],s1)/\RgI σ p h (ranR (bwtOf t (saOf t)) t.length al pt) .ready s1)\/(r=(AX.ret,[],s1)/\ranR (bwtOf t (saOf t)) t.length al pt=(0,0)/\RgI σ p h (0,0) (.fin .ret) s1))
  (by
   rintro m st ⟨s1,rfl,hm,I1⟩
   have em:((m+1:Nat):Int)-1=m:=by omega
   rw [em]
   have hml:m<pt.length:=by omega
   have g:=Store.Ints.rd (l:=pt) (Store.Sl.kp S I1.kk) (i:=(m:Int)) (by omega) (by omega)
   have i0:(0:Int)<=m:=by omega
   have i1:(m:Int)<h.len:=by omega
   have w1:Qa .i64 ((m:Int)-1)=m-1:=Za (by omega) (by omega)
   obtain⟨x,y,hxy⟩:∃ x y,nar (bwtOf t (saOf t)) t.length al (ranR (bwtOf t (saOf t)) t.length al (pt.drop (m+1))).1 (ranR (bwtOf t (saOf t)) t.length al (pt.drop (m+1))).2 (rd pt m)=(x,y):=⟨_,_,rfl⟩
   have ed:ranR (bwtOf t (saOf t)) t.length al (pt.drop m)=(x,y):=by
    rw [show pt.drop m=rd pt m::pt.drop (m+1) by rw [Zb hml,QaH],ranR,hxy]
   obtain⟨s2,hs⟩:=Z0l (i:=(m:Int)) hxy F hp I1
   by_cases c:x=y
   ·rw [if_pos c] at hs
    obtain⟨⟨n1,r1⟩,I2⟩:=hs
    have z:(x,y)=((0:Int),(0:Int)):=by rw [<-hxy]; exact Zxv (by rw [hxy]; exact c)
    rw [z] at ed I2
    refine .inr ⟨(AX.ret,[],s2),⟨n1,fun k hk=>?_⟩,s2,.inr ⟨rfl,Zyd ed,I2⟩⟩
    have r1:=r1 k hk
    simp only at r1
    simp only [Zd3]
    simp only [stp,i0,e5 I1,i1,g,r1]
   ·rw [if_neg c] at hs
    obtain⟨⟨n1,r1⟩,I2⟩:=hs
    refine .inl ⟨_,⟨n1,fun k hk=>?_⟩,s2,rfl,by omega,by rw [ed]; exact I2⟩
    have r1:=r1 k hk
    simp only at r1
    simp only [Zd3]
    simp only [stp,i0,e5 I1,i1,g,r1,w1])
  (by
   rintro st ⟨s1,rfl,_,I1⟩
   have c1:¬ (0:Int)<=((0:Nat):Int)-1:=by omega
   exact⟨(Qw 0,[],s1),Ev.of fun k=>by simp only [Zd3]; simp only [stp,c1],s1,.inl ⟨rfl,by simpa using I1⟩⟩)
  pt.length (s:=([.int .i64 ((pt.length:Int)-1),.ptr (some (σ.objs.length+5,0)),.yld (σ.objs.length+6)],s)) ⟨s,rfl,Qe _,by simpa [ranR] using I⟩
 have w1:Qa .i64 ((h.len:Int)-1)=(pt.length:Int)-1:=by rw [ll,Za (by omega) (by omega)]
 rcases q with ⟨rfl,I'⟩ | ⟨rfl,z,I'⟩
 ·refine⟨s',rI Tryz.f204 ?_,.inl I'⟩
  refine (Ev.bind (Zc e) (Ev.of fun k=>Zj9 (gm Qb k) k s')).congr fun k=>?_
  simp only [Zl2]
  simp only [stp,e5 I,w1]
 ·refine⟨s',rI Tryz.f204 ?_,.inr ⟨z,I'⟩⟩
  refine (Ev.bind (Zc e) (Ev.of fun k=>Zuz (gm Qb k) k s')).congr fun k=>?_
  simp only [Zl2]
  simp only [stp,e5 I,w1]
theorem Zu2{h:Hdl}{pt:List Int}(F:Fnd σ p t al sp)(hp:σ.prot<=σ.objs.length)(S:σ.Ints h pt)(hH:σ.Has h)(hn:pt.length<2^61) :
  ∃ σ',Runs Qb 82 [.ptr p,.slice h] σ (.tuple [.int .i64 (ran t al pt).1,.int .i64 (ran t al pt).2]) σ'/\Kp σ.objs.length σ σ':=by
 have ll:=S.ilen
 obtain⟨N,hN⟩:∃ N,N=σ.objs.length:=⟨_,rfl⟩
 obtain⟨σ1,h1⟩:∃ s,s=σ.push [.ptr p] 1:=⟨_,rfl⟩
 obtain⟨σ2,h2⟩:∃ s,s=σ1.push [.int .i64 0] 1:=⟨_,rfl⟩
 obtain⟨σ3,h3⟩:∃ s,s=σ2.push [.int .i64 0] 1:=⟨_,rfl⟩
 have l1:σ1.objs.length=N+1:=by rw [h1,hN]; simp
 have l2:σ2.objs.length=N+2:=by rw [h2]; simp [l1]
 have l3:σ3.objs.length=N+3:=by rw [h3]; simp [l2]
 have R01:σ1.Row N 1 [.ptr p]:=by rw [h1,hN]; exact Store.Row.new
 have R03:σ3.Row N 1 [.ptr p]:=by rw [h3,h2]; exact R01.push.push
 have R12:σ2.Row (N+1) 1 [.int .i64 0]:=by rw [h2,<-l1]; exact Store.Row.new
 have R13:σ3.Row (N+1) 1 [.int .i64 0]:=by rw [h3]; exact R12.push
 have R23:σ3.Row (N+2) 1 [.int .i64 0]:=by rw [h3,<-l2]; exact Store.Row.new
 have K3:Kp N σ σ3:=by rw [h3,h2,h1,hN]; exact ((Kp.push _ _ (Qe _)).push' (by simp)).push' (by simp; omega)
 rw [hN] at K3
 have F3:=F.kp K3
 have S3:=Store.Sl.kp S K3
 have f0:=Zmi R03
 have p3:σ3.prot<=N:=by rw [K3.prot,hN]; exact hp
 obtain⟨b,hb,pm,w,pv,L,wd,ws,ep,R,_⟩:=F3.ex
 have e0:=Zd R (o:=0) rfl
 have e3:=Zd R (o:=3) rfl
 rw [ep] at f0
 by_cases hm:rd t (t.length-1)∈pt.take (pt.length-1)
 ·
  have er:ran t al pt=(0,0):=by unfold ran; rw [if_pos hm]
  rw [er]
  have hpos:0<pt.length:=by
   rcases Qag pt.length with h0 | h0
   ·rw [h0] at hm; simp at hm
   ·exact h0
  have hp0:(0:Int)<h.len:=by omega
  have w1:Qa .i64 ((h.len:Int)-1)=(pt.length:Int)-1:=by rw [ll,Za (by omega) (by omega)]
  obtain⟨hx,q1,q2,q3,_⟩:=Zrs S3 (hH.kp K3) (lo:=none) (hi:=some ((pt.length:Int)-1)) (by simp) (by simp; omega) (by simp; omega)
  have J:σ3.Ints hx (pt.take (pt.length-1)):=by
   have:(QbO (some ((pt.length:Int)-1)) (h.len:Int)).toNat=pt.length-1:=by simp only [QQ]; omega
   rw [this] at q2
   simp only [QaB,QbG,QbH,Zkl] at q2; exact q2
  obtain⟨k1,r1⟩:=Zgx J (by simp; omega) (rd t (t.length-1))
  rw [decide_eq_true hm] at r1
  obtain⟨s4,t4,e4,R14,k4⟩:=Za7 (w:=.int .i64 0) R13 (by omega) rfl
  obtain⟨s5,t5,e5,R25,k5⟩:=Za7 (w:=.int .i64 0) (k4 R23 (by omega)) (by rw [e4,setO_prot]; omega) rfl
  have g1:=Zag (k5 R14 (by omega))
  have g2:=Zag R25
  refine⟨s5,rI Tryz.f82 ⟨k1,fun k hk=>?_⟩,by rw [e5,e4]; exact (K3.setO (by omega)).setO (by omega)⟩
  have r1:=r1 k hk
  simp only at r1
  simp only [Zkh]
  simp only [stp,<-h1,<-h2,<-h3,<-hN,l1,l2,f0,Qd,hp0,w1,q1,e3,r1,t4,t5,g1,g2]
 ·
  have er:ran t al pt=ranR (bwtOf t (saOf t)) t.length al pt:=by unfold ran; rw [if_neg hm]
  rw [er]
  obtain⟨σ4,h4⟩:∃ s,s=σ3.push [.int .i64 0] 1:=⟨_,rfl⟩
  obtain⟨σ5,h5⟩:∃ s,s=σ4.push [.int .i64 0] 1:=⟨_,rfl⟩
  have l4:σ4.objs.length=N+4:=by rw [h4]; simp [l3]
  have l5:σ5.objs.length=N+5:=by rw [h5]; simp [l4]
  have R34:σ4.Row (N+3) 1 [.int .i64 0]:=by rw [h4,<-l3]; exact Store.Row.new
  have R35:σ5.Row (N+3) 1 [.int .i64 0]:=by rw [h5]; exact R34.push
  have R45:σ5.Row (N+4) 1 [.int .i64 0]:=by rw [h5,<-l4]; exact Store.Row.new
  have K5:Kp σ3.objs.length σ3 σ5:=by rw [h5,h4]; exact (Kp.push _ _ (Qe _)).push' (by simp)
  have p5:σ5.prot=σ3.prot:=K5.prot
  obtain⟨σ6,t6,e6,R36,k6⟩:=Za7 (w:=.int .i64 0) R35 (by omega) rfl
  obtain⟨σ7,t7,e7,R47,k7⟩:=Za7 (w:=.int .i64 t.length) (k6 R45 (by omega)) (by rw [e6,setO_prot]; omega) rfl
  have l7:σ7.objs.length=N+5:=by rw [e7,e6]; simp [l5]
  have K7:Kp N σ σ7:=by
   have:=hN ▸ K3
   rw [e7,e6]; exact (((hN ▸ K3:Kp N σ σ3).then K5 (by omega)).setO (by omega)).setO (by omega)
  obtain⟨σ8,h8⟩:∃ s,s=σ7.push [.slice h] 1:=⟨_,rfl⟩
  have l8:σ8.objs.length=N+6:=by rw [h8]; simp [l7]
  have rB:Runs Qb 147 [.slice h] σ7 (.func 204 [] [.ptr (some (N+5,0))]) σ8:=
   rI Tryz.f147 (Ev.of fun m=>by rw [Zs7,h8,l7])
  obtain⟨n8,r8⟩:=rB
  obtain⟨σ9,h9⟩:∃ s:Store,s={ σ8 with objs:=σ8.objs++[rgo N .ready] }:=⟨_,rfl⟩
  have g9:∀ x,x<σ8.objs.length->σ9.objs[x]?=σ8.objs[x]?:=fun x hx=>by rw [h9]; exact Qp hx
  have K79:Kp σ7.objs.length σ7 σ9:=⟨by rw [h9,h8]; rfl,by rw [h9]; simp [l8,l7],fun x hx=>by rw [g9 x (by omega),h8]; simp only [QaI]; rw [Qp hx]⟩
  have I9:RgI σ p h (0,(t.length:Int)) .ready σ9:=by
   refine⟨hN ▸ (K7.then K79 (by omega)),?_,?_,?_,?_,?_,?_,?_⟩
   ·rw [<-hN]; exact (k7 (k6 (R03.kp K5 (by omega)) (by omega)) (by omega)).kp K79 (by omega)
   ·rw [<-hN]; exact (k7 (k6 (R13.kp K5 (by omega)) (by omega)) (by omega)).kp K79 (by omega)
   ·rw [<-hN]; exact (k7 (k6 (R23.kp K5 (by omega)) (by omega)) (by omega)).kp K79 (by omega)
   ·rw [<-hN]; exact (k7 R36 (by omega)).kp K79 (by omega)
   ·rw [<-hN]; exact R47.kp K79 (by omega)
   ·rw [<-hN]
    have:σ8.Row (N+5) 1 [.slice h]:=by rw [h8,<-l7]; exact Store.Row.new
    exact (g9 _ (by omega)).trans this
   ·rw [<-hN,h9,<-l8]; simp
  obtain⟨σ10,r10,I10⟩:=Z3t F hp S hn I9
  rw [<-hN] at r10
  have off:Ptr.off (some (N+1,0)) (some (N+4,0))=true:=Z3o (by omega)
  have tail:∃ σ',Ev (fun k=>Qb4 (rangeV (gm Qb k) 204 [] [.ptr (some (N+5,0))] (rgo N .ready) σ8) fun z=>contF Qb (gm Qb k) QO k Tryz.f82 [1,1,1,0,1,0] (z.1,[(7,.ptr (some (N+4,0))),(6,.ptr (some (N+3,0))),(5,.ptr (some (N+2,0))),(4,.ptr (some (N+1,0)))],z.2))
    (.tuple [.int .i64 (ranR (bwtOf t (saOf t)) t.length al pt).1,.int .i64 (ranR (bwtOf t (saOf t)) t.length al pt).2],σ')/\Kp σ.objs.length σ σ':=by
   rcases I10 with I | ⟨z,I⟩
   ·obtain⟨n,g⟩:=Zre (P:=Qb) (g:=204) (a:=[]) (b:=[.ptr (some (N+5,0))]) (φ:=rgf N) (ps:=[35,36]) (x:=rgx) (y:=rgy) (nt:=Func.ntmps Tryz.f82) (σ:=σ8) (σ':=σ10) (by rw [l8,<-h9]; exact r10) (by rw [l8,hN]; exact I.r6)
    rw [l8] at g
    obtain⟨σ11,h11⟩:∃ s,s=σ10.setO (N+6) .dead:=⟨_,rfl⟩
    rw [<-h11] at g
    have k11:∀ {c es:Nat} {l:List AV},σ10.Row c es l->c≠N+6->σ11.Row c es l:=fun r hc=>by rw [h11]; exact r.setO_ne (Ne.symm hc)
    have p11:σ11.prot<=N:=by rw [h11,setO_prot,I.kk.prot,hN]; exact hp
    have a3:=Zag (k11 I.r3 (by omega))
    have a4:=Zag (k11 I.r4 (by omega))
    rw [<-hN] at a3 a4
    obtain⟨σ12,t12,e12,R12',k12⟩:=Za7 (w:=.int .i64 (ranR (bwtOf t (saOf t)) t.length al pt).1) (k11 I.r1 (by omega)) (by omega) rfl
    obtain⟨σ13,t13,e13,R13',k13⟩:=Za7 (w:=.int .i64 (ranR (bwtOf t (saOf t)) t.length al pt).2) (k12 (k11 I.r2 (by omega)) (by omega)) (by rw [e12,setO_prot]; omega) rfl
    rw [<-hN] at t12 t13
    have b1:=Zag (k13 R12' (by omega))
    have b2:=Zag R13'
    rw [<-hN] at b1 b2
    refine⟨σ13,⟨n,fun k hk=>?_⟩,by rw [e13,e12,h11]; exact ((I.kk.setO (by omega)).setO (by omega)).setO (by omega)⟩
    have g:=g k hk
    simp only at g
    simp only [g,Qj,Zqa,off,if_true,a3,a4,t12,t13,b1,b2]
   ·obtain⟨n,g⟩:=Zvv (P:=Qb) (g:=204) (a:=[]) (b:=[.ptr (some (N+5,0))]) (φ:=rgf N) (ps:=[35,36]) (x:=rgx) (y:=rgy) (nt:=Func.ntmps Tryz.f82) (σ:=σ8) (σ':=σ10) (by rw [l8,<-h9]; exact r10) (by rw [l8,hN]; exact I.r6)
    rw [l8] at g
    obtain⟨σ11,h11⟩:∃ s,s=σ10.setO (N+6) .dead:=⟨_,rfl⟩
    rw [<-h11] at g
    have k11:∀ {c es:Nat} {l:List AV},σ10.Row c es l->c≠N+6->σ11.Row c es l:=fun r hc=>by rw [h11]; exact r.setO_ne (Ne.symm hc)
    have b1:=Zag (k11 I.r1 (by omega))
    have b2:=Zag (k11 I.r2 (by omega))
    rw [<-hN] at b1 b2
    refine⟨σ11,⟨n,fun k hk=>?_⟩,by rw [h11]; exact I.kk.setO (by omega)⟩
    have g:=g k hk
    simp only at g
    simp only [g,z,Qj,Zqb,b1,b2]
  obtain⟨σ',⟨nt,et⟩,Kf⟩:=tail
  by_cases hpos:0<pt.length
  ·have hp0:(0:Int)<h.len:=by omega
   have w1:Qa .i64 ((h.len:Int)-1)=(pt.length:Int)-1:=by rw [ll,Za (by omega) (by omega)]
   obtain⟨hx,q1,q2,q3,_⟩:=Zrs S3 (hH.kp K3) (lo:=none) (hi:=some ((pt.length:Int)-1)) (by simp) (by simp; omega) (by simp; omega)
   have J:σ3.Ints hx (pt.take (pt.length-1)):=by
    have:(QbO (some ((pt.length:Int)-1)) (h.len:Int)).toNat=pt.length-1:=by simp only [QQ]; omega
    rw [this] at q2
    simp only [QaB,QbG,QbH,Zkl] at q2; exact q2
   obtain⟨k1,r1⟩:=Zgx J (by simp; omega) (rd t (t.length-1))
   rw [decide_eq_false hm] at r1
   refine⟨σ',rI Tryz.f82 ⟨k1+n8+nt,fun k hk=>?_⟩,Kf⟩
   have r1:=r1 k (by omega)
   have r8:=r8 k (by omega)
   have et:=et k (by omega)
   simp only at r1 r8 et
   simp only [Zkh]
   simp only [stp,<-h1,<-h2,<-h3,<-hN,l1,l2,f0,Qd,hp0,w1,q1,e3,r1,e0,l3,<-h4,<-h5,l4,t6,t7,r8]
   exact et
  ·have hp0:¬ (0:Int)<h.len:=by omega
   refine⟨σ',rI Tryz.f82 ⟨n8+nt,fun k hk=>?_⟩,Kf⟩
   have r8:=r8 k (by omega)
   have et:=et k (by omega)
   simp only at r8 et
   simp only [Zkh]
   simp only [stp,<-h1,<-h2,<-h3,<-hN,l1,l2,f0,Qd,hp0,e0,l3,<-h4,<-h5,l4,t6,t7,r8]
   exact et
end
end Go.Ab

namespace Go.Ab
open Go Go.Proofs Go.Ab.Wd Go.Ab.Bs Go.Ab.Sai
section
variable {σ:Store} {p:Ptr} {t:List Int} {al sp:Nat}
def suf(t:List Int)(x:Int)(m:Nat):List Int:=(QN m).map fun j:Nat=>rd (saOf t) (x+j)
def plsOf(t:List Int)(al:Nat)(pt:List Int):List Int:=if pt=[] then [] else sortL (suf t (ran t al pt).1 ((ran t al pt).2-(ran t al pt).1).toNat)
end
def pfB(t:List Int)(q:Int)(p:List Int):Bool:=decide (0<=q)&&(decide (q+p.length<=t.length)&&(QN p.length).all fun k=>decide (rd t (q+k)=rd p k))
theorem Zbq{t p:List Int}{q:Int}:pfB t q p=true ↔ Pf t q p:=by
 unfold pfB Pf
 simp
def refPls(t p:List Int):List Int:=if p=[] then [] else (places t.length).filter fun q=>pfB t q p
theorem places_succ(i:Nat):places (i+1)=places i++[(i:Int)]:=by simp [places,QaL]
end Go.Ab

namespace Go.Ab
open Go Go.Proofs Go.Ab.Wd Go.Ab.Bs Go.Ab.Sai
theorem Zoy(n:Nat):(places n).Pairwise (·<=·):=by
 unfold places
 rw [Qbr]
 refine (List.pairwise_le_range (n:=n)).imp fun h=>?_
 simp only [QZ]; omega
theorem Z32{t:List Int}{x q:Int}{m:Nat}:q∈suf t x m ↔ ∃ j:Nat,j<m/\rd (saOf t) (x+j)=q:=by
 unfold suf; simp
theorem Zyw{t:List Int}{a m:Nat}(h:a+m<=t.length):(suf t a m).Nodup:=by
 have SA:=Zi t
 have ls:=Z7 t
 unfold suf
 rw [Qa4,Qbr]
 refine (Qa4.1 List.nodup_range).imp_of_mem fun {i j} hi hj hne e=>?_
 rw [List.mem_range] at hi hj
 rw [show (a:Int)+i=((a+i:Nat):Int) by omega,show (a:Int)+j=((a+j:Nat):Int) by omega] at e
 have:=Zcu SA.perm.nd (by omega) (by omega) (by omega) (by omega) e
 omega
theorem Z5e{t:List Int}{al:Nat}(he:Bs.Ends t)(rng:∀ x∈t,0<=x/\x<al)(p:List Int):plsOf t al p=refPls t p:=by
 unfold plsOf refPls
 split
 ·rfl
 have SA:=Zi t
 have ls:=Z7 t
 have srt:((places t.length).filter fun q=>pfB t q p).Pairwise (·<=·):=(Zoy _).sublist (Qaz)
 refine Z0w ?_ srt
 rcases Zrd he rng p with ⟨a,z,R,haz,er⟩ | ⟨er,no⟩
 ·rw [er]
  simp only
  have lz:=R.lz
  rw [show ((z:Int)-(a:Int)).toNat=z-a by omega]
  refine (List.perm_ext_iff_of_nodup (Zyw (by omega)) ((Zaw _).sublist Qaz)).2 fun q=>?_
  rw [Z32,QJ,Zo,Zbq]
  constructor
  ·rintro⟨j,hj,rfl⟩
   have e:(a:Int)+j=((a+j:Nat):Int):=by omega
   rw [e]
   have:=SA.perm.rng _ (Ze (l:=saOf t) (i:=((a+j:Nat):Int)) (by omega) (by omega))
   exact⟨this,(R.iff (a+j) (by omega)).1 ⟨by omega,by omega⟩⟩
  ·rintro⟨hq,hp⟩
   obtain⟨i,i0,i1,ei⟩:=Zbl (SA.perm.mem_iff.2 hq)
   obtain⟨i,rfl⟩:=Qg i0
   have:=(R.iff i (by omega)).2 (by rw [ei]; exact hp)
   exact⟨i-a,by omega,by rw [show (a:Int)+((i-a:Nat):Int)=(i:Nat) by omega]; exact ei⟩
 ·rw [er]
  have:((places t.length).filter fun q=>pfB t q p)=[]:=by
   rw [QD]
   intro q hq hh
   rw [Zbq] at hh
   obtain⟨i,i0,i1,ei⟩:=Zbl (SA.perm.mem_iff.2 (Zo.1 hq))
   obtain⟨i,rfl⟩:=Qg i0
   exact no i (by omega) (by rw [ei]; exact hh)
  rw [this]; simp [suf]
theorem Z5y(x:Int):Qa .u64 x=x % 18446744073709551616:=by
 unfold Qa
 have e2:(2:Int)^IntKind.u64.bits=18446744073709551616:=by decide
 simp [e2,IntKind.signed]
end Go.Ab

namespace Go.Ab
open Go Go.Proofs Go.Ab.Wd Go.Ab.Bs Go.Ab.Sai
def segLo(a:Int):Nat:=(max a 0).toNat
def segHi(l:List Int)(a b:Int):Nat:=(max (max a 0) (min b l.length)).toNat
def seg(l:List Int)(a b:Int):List Int:=(l.take (segHi l a b)).drop (segLo a)
theorem seg_length{l:List Int}{a b:Int}(h:segLo a<l.length):(seg l a b).length=segHi l a b-segLo a/\segLo a<=segHi l a b/\segHi l a b<=l.length:=by
 unfold seg segLo segHi at *; simp; omega
theorem Zt4{l:List Int}{a b x:Int}(h:x∈seg l a b):x∈l:=Q7 (QaZ h)
section
variable {σ:Store} {p:Ptr} {l:List Int} {w:Nat}
end
end Go.Ab

namespace Go.Ab
open Go Go.Proofs Go.Ab.Wd Go.Ab.Bs Go.Ab.Sai
section
variable {σ:Store} {p:Ptr} {l:List Int} {w:Nat}
end
end Go.Ab

namespace Go.Ab
open Go Go.Proofs Go.Ab.Wd Go.Ab.Bs Go.Ab.Sai
end Go.Ab

namespace Go.Ab
open Go Go.Proofs Go.Ab.Wd Go.Ab.Bs Go.Ab.Sai
def dis(s:List Int)(lo n:Nat):List (Int×Int):=((Qb7 lo n).filter fun v:Nat=>decide (0<Bs.cnt (fun x=>decide (x=(v:Int))) s)).map fun v:Nat=>((v:Int),((Bs.cnt (fun x=>decide (x=(v:Int))) s:Nat):Int))
theorem Zm1(s:List Int)(lo a b:Nat):dis s lo (a+b)=dis s lo a++dis s (lo+a) b:=by
 unfold dis
 rw [<-Qx,<-QS]
 rw [List.range'_append_1]
theorem Zpc{s:List Int}{lo n:Nat}(h:∀ x∈s,¬ (lo<=x.toNat/\x.toNat<lo+n)):dis s lo n=[]:=by
 unfold dis
 rw [QD.2]
 ·rfl
 ·intro v hv
  simp only [Qbs] at hv
  have:Bs.cnt (fun x=>decide (x=(v:Int))) s=0:=by
   unfold Bs.cnt; rw [QD.2]
   ·rfl
   ·intro x hx; have:=h x hx; simp; rintro rfl; simp at this; omega
  rw [this]; simp
def pairsL(l:List (Int×Int)):List AV:=l.flatMap fun p=>[.int .i64 p.1,.int .i64 p.2]
theorem Zgm(a b:List (Int×Int)):pairsL (a++b)=pairsL a++pairsL b:=by simp [pairsL]
theorem Za8(a:List (Int×Int)):(pairsL a).length=a.length*2:=by
 induction a with
 | nil=>rfl
 | cons x a ih=>rw [show pairsL (x::a)=[.int .i64 x.1,.int .i64 x.2]++pairsL a by simp [pairsL],Qm,ih]; simp; omega
theorem Z1a(σ:Store)(v u:AV)(cp:Option Nat):QaE (σ.push [v,u] 2) ⟨some (σ.objs.length,0),1,cp⟩ 2=some [v,u]:=by
 simp [QaE,QaI]
section
variable {σ0:Store} {p:Ptr} {l s:List Int} {w:Nat}
end
end Go.Ab

namespace Go.Ab.Hp
section
variable {α:Type} [Inhabited α]
def at_(l:List α)(i:Nat):α:=l.getD i default
theorem at_get{l:List α}{i:Nat}(h:i<l.length):at_ l i=l[i]:=by unfold at_; rw [Qo,Qad h]; rfl
def swap(l:List α)(i j:Nat):List α:=(l.set i (at_ l j)).set j (at_ l i)
@[simp] theorem swap_length (l:List α) (i j:Nat):(swap l i j).length=l.length:=by simp [swap]
theorem swap_perm{l:List α}{i j:Nat}(hi:i<l.length)(hj:j<l.length):(swap l i j).Perm l:=by
 unfold swap
 rw [at_get hi,at_get hj]
 exact List.set_set_perm hi hj
theorem at_swap{l:List α}{i j k:Nat}(hi:i<l.length)(hj:j<l.length)(hk:k<l.length):at_ (swap l i j) k=if k=j then at_ l i else if k=i then at_ l j else at_ l k:=by
 rw [at_get (by simpa using hk)]
 unfold swap
 rw [QaA]
 by_cases c:j=k
 ·rw [if_pos c,if_pos c.symm]
 ·rw [if_neg c,if_neg (Ne.symm c),QaA]
  by_cases d:i=k
  ·rw [if_pos d,if_pos d.symm]
  ·rw [if_neg d,if_neg (Ne.symm d),at_get hk]
theorem swap_drop{l:List α}{i j n:Nat}(hi:i<n)(hj:j<n):(swap l i j).drop n=l.drop n:=by
 unfold swap
 rw [Qbe hj,Qbe hi]
theorem swap_take_perm{l:List α}{i j n:Nat}(hi:i<n)(hj:j<n)(hn:n<=l.length):((swap l i j).take n).Perm (l.take n):=by
 have h1:=swap_perm (l:=l) (i:=i) (j:=j) (by omega) (by omega)
 rw [<-Q5 n (swap l i j),swap_drop hi hj] at h1
 have h2:((swap l i j).take n++l.drop n).Perm (l.take n++l.drop n):=by rw [Q5 n l]; exact h1
 exact (List.perm_append_right_iff (l.drop n)).1 h2
structure Ord (lt:α->α->Bool):Prop where
 irr:∀ a,lt a a=false
 tr:∀ a b c,lt a b=false->lt b c=false->lt a c=false
 asy:∀ a b,lt a b=true->lt b a=false
variable {lt:α->α->Bool}
def Heap(lt:α->α->Bool)(l:List α)(n:Nat):Prop:=∀ i,0<i->i<n->lt (at_ l i) (at_ l ((i-1) / 2))=false
structure UpI (lt:α->α->Bool) (l:List α) (n j:Nat):Prop where
 ok:∀ i,0<i->i<n->i≠j->lt (at_ l i) (at_ l ((i-1) / 2))=false
 gr:∀ i,0<i->i<n->(i-1) / 2=j->0<j->lt (at_ l i) (at_ l ((j-1) / 2))=false
theorem UpI.stop{l:List α}{n j:Nat}(h:UpI lt l n j)(hj:j=0\/lt (at_ l j) (at_ l ((j-1) / 2))=false):Heap lt l n:=fun i h0 h1=>by
 by_cases c:i=j
 ·subst c
  rcases hj with rfl | hj
  ·omega
  ·exact hj
 ·exact h.ok i h0 h1 c
theorem UpI.step(O:Ord lt){l:List α}{n j:Nat}(h:UpI lt l n j)(hn:n<=l.length)(h0:0<j)(hj:j<n)(hl:lt (at_ l j) (at_ l ((j-1) / 2))=true):UpI lt (swap l ((j-1) / 2) j) n ((j-1) / 2):=by
 obtain⟨p,hp⟩:∃ p,p=(j-1) / 2:=⟨_,rfl⟩
 rw [<-hp] at hl ⊢
 have pj:p<j:=by omega
 have pl:p<l.length:=by omega
 have jl:j<l.length:=by omega
 refine⟨fun i i0 i1 ip=>?_,fun i i0 i1 ie p0=>?_⟩
 ·rw [at_swap pl jl (by omega),at_swap pl jl (by omega)]
  by_cases c:i=j
  ·subst c
   rw [if_pos rfl,<-hp,if_neg (by omega),if_pos rfl]
   exact O.asy _ _ hl
  ·rw [if_neg c,if_neg ip]
   by_cases d:(i-1) / 2=j
   ·rw [if_pos d,hp]; exact h.gr i i0 i1 d h0
   ·rw [if_neg d]
    by_cases e:(i-1) / 2=p
    ·rw [if_pos e]
     have h1:=h.ok i i0 i1 c
     rw [e] at h1
     exact O.tr _ _ _ h1 (O.asy _ _ hl)
    ·rw [if_neg e]; exact h.ok i i0 i1 c
 ·rw [at_swap pl jl (by omega),at_swap pl jl (by omega)]
  rw [if_neg (show ¬ (p-1) / 2=j by omega),if_neg (show ¬ (p-1) / 2=p by omega)]
  have hpp:=h.ok p p0 (by omega) (by omega)
  by_cases c:i=j
  ·rw [if_pos c]; exact hpp
  ·rw [if_neg c,if_neg (by omega)]
   have h1:=h.ok i i0 i1 c
   rw [ie] at h1
   exact O.tr _ _ _ h1 hpp
structure DnI (lt:α->α->Bool) (l:List α) (n i:Nat):Prop where
 ok:∀ k,0<k->k<n->(k-1) / 2≠i->lt (at_ l k) (at_ l ((k-1) / 2))=false
 gr:∀ k,0<k->k<n->(k-1) / 2=i->0<i->lt (at_ l k) (at_ l ((i-1) / 2))=false
theorem DnI.stop{l:List α}{n i:Nat}(h:DnI lt l n i)(h1:2*i+1<n->lt (at_ l (2*i+1)) (at_ l i)=false)(h2:2*i+2<n->lt (at_ l (2*i+2)) (at_ l i)=false):Heap lt l n:=fun k k0 k1=>by
 by_cases c:(k-1) / 2=i
 ·have:k=2*i+1\/k=2*i+2:=by omega
  rcases this with rfl | rfl
  ·rw [show (2*i+1-1) / 2=i by omega]; exact h1 k1
  ·rw [show (2*i+2-1) / 2=i by omega]; exact h2 k1
 ·exact h.ok k k0 k1 c
theorem DnI.step(O:Ord lt){l:List α}{n i j:Nat}(h:DnI lt l n i)(hn:n<=l.length)(hj:j=2*i+1\/j=2*i+2)(jn:j<n)(hl:lt (at_ l j) (at_ l i)=true)
  (hb:∀ k,k=2*i+1\/k=2*i+2->k<n->lt (at_ l k) (at_ l j)=false):DnI lt (swap l i j) n j:=by
 have il:i<l.length:=by omega
 have jl:j<l.length:=by omega
 refine⟨fun k k0 k1 kp=>?_,fun k k0 k1 ke j0=>?_⟩
 ·rw [at_swap il jl (by omega),at_swap il jl (by omega)]
  by_cases c:k=j
  ·subst c
   rw [if_pos rfl,show (k-1) / 2=i by omega,if_neg (by omega),if_pos rfl]
   exact O.asy _ _ hl
  ·rw [if_neg c,if_neg kp]
   by_cases d:(k-1) / 2=i
   ·rw [if_neg (by omega),if_pos d]
    exact hb k (by omega) k1
   ·rw [if_neg d]
    by_cases e:k=i
    ·rw [if_pos e]
     subst e
     exact h.gr j (by omega) jn (by omega) k0
    ·rw [if_neg e]; exact h.ok k k0 k1 d
 ·rw [at_swap il jl (by omega),at_swap il jl (by omega)]
  rw [if_neg (by omega),if_neg (by omega),show (j-1) / 2=i by omega,if_neg (by omega),if_pos rfl]
  have:=h.ok k k0 k1 (by omega)
  rw [ke] at this; exact this
theorem Heap.first(O:Ord lt){l:List α}{n:Nat}(h:Heap lt l n)(i:Nat)(hi:i<n):lt (at_ l i) (at_ l 0)=false:=by
 induction i using Nat.strongRecOn with
 | ind i ih=>
  rcases Qag i with rfl | h0
  ·exact O.irr _
  ·exact O.tr _ _ _ (h i h0 hi) (ih ((i-1) / 2) (by omega) (by omega))
theorem Heap.upI{l:List α}{x:α}(h:Heap lt l l.length):UpI lt (l++[x]) (l.length+1) l.length:=by
 have e:∀ i,i<l.length->at_ (l++[x]) i=at_ l i:=fun i hi=>by rw [at_get (by simp; omega),at_get hi,List.getElem_append_left hi]
 refine⟨fun i i0 i1 ij=>?_,fun i i0 i1 ie j0=>by omega⟩
 rw [e i (by omega),e _ (by omega)]
 exact h i i0 (by omega)
theorem Heap.dnI(O:Ord lt){l:List α}(h:Heap lt l l.length)(h0:0<l.length):DnI lt (swap l 0 (l.length-1)) (l.length-1) 0:=by
 refine⟨fun k k0 k1 kp=>?_,fun k k0 k1 ke i0=>by omega⟩
 rw [at_swap (by omega) (by omega) (by omega),at_swap (by omega) (by omega) (by omega),if_neg (by omega),if_neg (by omega),if_neg (by omega),if_neg kp]
 exact h k k0 (by omega)
end
end Go.Ab.Hp

namespace Go.Ab
open Go Go.Proofs Go.Ab.Wd Go.Ab.Bs Go.Ab.Sai
def bet(a b:Int×Int):Bool:=decide (b.2<a.2) || (decide (a.2=b.2)&&decide (a.1<b.1))
theorem Zfc{a b:Int×Int}:bet a b=true ↔ b.2<a.2\/(a.2=b.2/\a.1<b.1):=by unfold bet; simp
abbrev Srt (l:List (Int×Int)):Prop:=l.Pairwise fun a b=>bet a b=true
def insB(x:Int×Int):List (Int×Int)->List (Int×Int)
 | []=>[x]
 | y::l=>if bet x y=true then x::y::l else y::insB x l
def rk:List (Int×Int)->List (Int×Int)
 | []=>[]
 | x::l=>insB x (rk l)
theorem Zhg(x:Int×Int):∀ l,(insB x l).Perm (x::l)
 | []=>List.Perm.refl _
 | y::l=>by
  unfold insB
  split
  ·exact List.Perm.refl _
  ·exact ((Zhg x l).cons y).trans (List.Perm.swap x y l)
theorem Zdw:∀ l,(rk l).Perm l
 | []=>List.Perm.refl _
 | x::l=>(Zhg x _).trans ((Zdw l).cons x)
theorem Z1e{x y:Int×Int}(h:x.1≠y.1):bet x y=true\/bet y x=true:=by
 rw [Zfc,Zfc]; omega
theorem Z4c{x y z:Int×Int}(h:bet x y=true)(k:bet y z=true):bet x z=true:=by
 rw [Zfc] at *; omega
theorem Z4b{x y:Int×Int}(h:bet x y=true)(k:bet y x=true):False:=by rw [Zfc] at *; omega
theorem Zqh(x:Int×Int):∀ l,Srt l->(∀ y∈l,x.1≠y.1)->Srt (insB x l)
 | [],_,_=>by simp [insB]
 | y::l,h,hx=>by
  rw [Srt,QT] at h
  unfold insB
  split
  ·rename_i c
   rw [Srt,QT]
   refine⟨fun z hz=>?_,QT.2 h⟩
   rcases Qa6.1 hz with rfl | hz
   ·exact c
   ·exact Z4c c (h.1 z hz)
  ·rename_i c
   rw [Srt,QT]
   refine⟨fun z hz=>?_,Zqh x l h.2 fun z hz=>hx z (by simp [hz])⟩
   rcases Qa6.1 ((Zhg x l).mem_iff.1 hz) with rfl | hz
   ·exact (Z1e (hx y (by simp))).resolve_left c
   ·exact h.1 z hz
abbrev Uq (l:List (Int×Int)):Prop:=(l.map (·.1)).Nodup
theorem Zrh:∀ l,Uq l->Srt (rk l)
 | [],_=>by simp [rk]
 | x::l,h=>by
  rw [Uq,Qbh,QaO] at h
  refine Zqh x _ (Zrh l h.2) fun y hy e=>h.1 ?_
  rw [e]; exact Qao.2 ⟨y,(Zdw l).mem_iff.1 hy,rfl⟩
theorem Z0z{a b:List (Int×Int)}(p:a.Perm b)(ha:Srt a)(hb:Srt b):a=b:=by
 induction a generalizing b with
 | nil=>exact (List.nil_perm.1 p).symm ▸ rfl
 | cons x l ih=>
  cases b with
  | nil=>exact absurd p.symm (by intro h; have:=h.length_eq; simp at this)
  | cons y m=>
   rw [Srt,QT] at ha hb
   have h1:y∈x::l:=p.mem_iff.2 (by simp)
   have h2:x∈y::m:=p.mem_iff.1 (by simp)
   have e:x=y:=by
    rcases Qa6.1 h1 with h1 | h1
    ·exact h1.symm
    ·rcases Qa6.1 h2 with h2 | h2
     ·exact h2
     ·exact (Z4b (ha.1 y h1) (hb.1 x h2)).elim
   subst e
   rw [ih (List.Perm.cons_inv p) ha.2 hb.2]
theorem Z58{a b:List (Int×Int)}(p:a.Perm b)(hb:Srt b)(hu:Uq a):rk a=b:=Z0z ((Zdw a).trans p) (Zrh a hu) hb
theorem Zik{s:List Int}{lo n:Nat}{e:Int×Int}(h:e∈dis s lo n):∃ v:Nat,lo<=v/\v<lo+n/\e=((v:Int),((Bs.cnt (fun x=>decide (x=(v:Int))) s:Nat):Int))/\0<Bs.cnt (fun x=>decide (x=(v:Int))) s:=by
 unfold dis at h
 obtain⟨v,hv,rfl⟩:=Qao.1 h
 obtain⟨h1,h2⟩:=QJ.1 hv
 rw [Qbs] at h1
 exact⟨v,h1.1,h1.2,rfl,by simpa using h2⟩
theorem Zwo(s:List Int)(lo n:Nat):Uq (dis s lo n):=by
 unfold dis Uq
 rw [List.map_map]
 have:((Qb7 lo n).filter fun v:Nat=>decide (0<Bs.cnt (fun x=>decide (x=(v:Int))) s)).Nodup:=(List.nodup_range').sublist Qaz
 exact Zb2 (f:=fun v:Nat=>(v:Int)) (fun a b e=>by have e':((a:Int))=b:=e; omega) this
def nOf(s:List Int)(p:Nat×Nat):Nat:=(s.filter (pre p.1 p.2)).length
def eOf(s:List Int)(p:Nat×Nat):List (Int×Int):=dis s (p.2*2^p.1) (2^p.1)
def loOf(p:Nat×Nat):Nat:=p.2*2^p.1
theorem Zdv{k c:Nat}{x:Int}:pre k c x=true ↔ c*2^k<=x.toNat/\x.toNat<c*2^k+2^k:=by
 unfold pre
 rw [decide_eq_true_eq]
 have hp:0<2^k:=QI k
 constructor
 ·rintro rfl
  have h1:=Nat.div_mul_le_self x.toNat (2^k)
  have h2:=Nat.lt_div_mul_add hp (a:=x.toNat)
  omega
 ·rintro⟨h1,h2⟩
  have:=Nat.div_eq_of_lt_le (m:=x.toNat) (n:=2^k) (k:=c) (by omega) (by rw [Qai,Qaj]; omega)
  exact this
theorem Z1n{s:List Int}{p:Nat×Nat}(h:nOf s p=0):eOf s p=[]:=by
 unfold eOf
 refine Zpc fun x hx hb=>?_
 unfold nOf at h
 have:x∈s.filter (pre p.1 p.2):=QJ.2 ⟨hx,Zdv.2 hb⟩
 rw [Qav h] at this
 cases this
theorem Zum{s:List Int}{p:Nat×Nat}{v:Nat}(h0:loOf p<=v)(h1:v<loOf p+2^p.1):Bs.cnt (fun x=>decide (x=(v:Int))) s<=nOf s p:=by
 unfold Bs.cnt nOf
 rw [<-Qax,<-Qax]
 refine List.countP_mono_left fun x _ hx=>?_
 have:x=(v:Int):=by simpa using hx
 subst this
 exact Zdv.2 ⟨by rw [Qc]; exact h0,by rw [Qc]; exact h1⟩
theorem Zzs{s:List Int}{c:Nat}(h:0<nOf s (0,c))(hs:∀ x∈s,0<=x):eOf s (0,c)=[((c:Int),((nOf s (0,c):Nat):Int))]/\nOf s (0,c)=Bs.cnt (fun x=>decide (x=(c:Int))) s:=by
 have e:nOf s (0,c)=Bs.cnt (fun x=>decide (x=(c:Int))) s:=by
  unfold nOf Bs.cnt
  congr 1
  exact Qbq fun x hx=>by rw [Zq8 (hs x hx)]
 refine⟨?_,e⟩
 unfold eOf dis
 simp only [Qa0,QbP]
 have r:Qb7 c 1=[c]:=rfl
 rw [r,Qb0,if_pos (by rw [e] at h; simpa using h)]
 simp [e]
theorem Zzr(s:List Int)(k c:Nat):eOf s (k+1,c)=eOf s (k,2*c)++eOf s (k,2*c+1):=by
 unfold eOf
 simp only
 have h:=Zm1 s (c*2^(k+1)) (2^k) (2^k)
 have e1:2^(k+1)=2^k+2^k:=by rw [QM]; omega
 rw [<-e1] at h
 rw [h]
 have e2:c*(2^k+2^k)=2*c*2^k:=by generalize 2^k=m; rw [QL,Qbg,Nat.two_mul]
 have e3:c*(2^k+2^k)+2^k=(2*c+1)*2^k:=by rw [e2,Qai,Qaj]
 rw [e1,e3,e2]
def nlt(s:List Int)(p q:Nat×Nat):Bool:=decide (nOf s q<nOf s p) || (decide (nOf s p=nOf s q)&&decide (loOf p<loOf q))
theorem Zto{s:List Int}{p q:Nat×Nat}:nlt s p q=true ↔ nOf s q<nOf s p\/(nOf s p=nOf s q/\loOf p<loOf q):=by unfold nlt; simp
theorem Z3i{s:List Int}{p q:Nat×Nat}:nlt s p q=false ↔ nOf s p<nOf s q\/(nOf s p=nOf s q/\loOf q<=loOf p):=by
 rw [<-Bool.not_eq_true,Zto]; omega
structure SI (s:List Int) (M:Nat) (O:List (Int×Int)) (S:List (Nat×Nat)):Prop where
 perm:(O++S.flatMap (eOf s)).Perm (dis s 0 M)
 srt:Srt O
 all:∀ o∈O,∀ e∈S.flatMap (eOf s),bet o e=true
 pos:∀ p∈S,0<nOf s p
theorem SI.congr{s:List Int}{M:Nat}{O:List (Int×Int)}{S S':List (Nat×Nat)}(h:SI s M O S)(p:S.Perm S'):SI s M O S':=by
 have f:(S.flatMap (eOf s)).Perm (S'.flatMap (eOf s)):=p.flatMap_right _
 exact⟨(f.symm.append_left O).trans h.perm,h.srt,fun o ho e he=>h.all o ho e (f.mem_iff.2 he),fun q hq=>h.pos q (p.mem_iff.2 hq)⟩
theorem SI.uq{s:List Int}{M:Nat}{O:List (Int×Int)}{S:List (Nat×Nat)}(h:SI s M O S):Uq (O++S.flatMap (eOf s)):=(h.perm.map (·.1)).nodup_iff.2 (Zwo s 0 M)
theorem SI.tell{s:List Int}{M:Nat}{O:List (Int×Int)}{S:List (Nat×Nat)}{c:Nat}(h:SI s M O ((0,c)::S))(hs:∀ x∈s,0<=x)(hb:∀ q∈S,nlt s q (0,c)=false):SI s M (O++[((c:Int),((nOf s (0,c):Nat):Int))]) S:=by
 obtain⟨e0,e1⟩:=Zzs (c:=c) (h.pos _ (Qbk)) hs
 have fl:((0,c)::S).flatMap (eOf s)=[((c:Int),((nOf s (0,c):Nat):Int))]++S.flatMap (eOf s):=by rw [Qbt,e0]
 have hu:=h.uq
 have hp:=h.perm
 have ha:=h.all
 rw [fl] at hu hp ha
 rw [<-Qu] at hu hp
 have out:∀ e∈S.flatMap (eOf s),bet ((c:Int),((nOf s (0,c):Nat):Int)) e=true:=fun e he=>by
  obtain⟨q,hq,he'⟩:=List.mem_flatMap.1 he
  obtain⟨v,v0,v1,rfl,_⟩:=Zik he'
  have hle:=Zum (s:=s) (p:=q) (v:=v) v0 v1
  have hne:(v:Int)≠(c:Int):=fun ev=>by
   unfold Uq at hu
   rw [Qx,Qbu] at hu
   exact hu.2.2 c (Qao.2 ⟨((c:Int),((nOf s (0,c):Nat):Int)),QaU O (QF.2 rfl),rfl⟩) v (Qao.2 ⟨_,he,rfl⟩) ev.symm
  have:=hb q hq
  rw [Z3i] at this
  have l0:loOf (0,c)=c:=by simp [loOf]
  rw [l0] at this
  have v0':loOf q<=v:=v0
  rw [Zfc]
  simp only
  omega
 refine⟨hp,?_,fun o ho e he=>?_,fun p hp=>h.pos p (by simp [hp])⟩
 ·rw [Srt,Qba]
  exact⟨h.srt,by simp,fun a ha' b hb'=>by rw [QF] at hb'; subst hb'; exact ha a ha' _ (List.mem_append_left _ (Qbk))⟩
 ·rcases Qaw.1 ho with ho | ho
  ·exact ha o ho e (QaU [((c:Int),((nOf s (0,c):Nat):Int))] he)
  ·rw [QF] at ho; subst ho; exact out e he
def kid(s:List Int)(p:Nat×Nat):List (Nat×Nat):=if 0<nOf s p then [p] else []
theorem Zjq(s:List Int)(p:Nat×Nat):(kid s p).flatMap (eOf s)=eOf s p:=by
 unfold kid
 split
 ·simp
 ·rename_i h; rw [Z1n (by omega)]; rfl
theorem SI.split{s:List Int}{M:Nat}{O:List (Int×Int)}{S:List (Nat×Nat)}{k c:Nat}(h:SI s M O ((k+1,c)::S)):SI s M O (S++kid s (k,2*c)++kid s (k,2*c+1)):=by
 have f:((S++kid s (k,2*c)++kid s (k,2*c+1)).flatMap (eOf s)).Perm (((k+1,c)::S).flatMap (eOf s)):=by
  rw [Qbf,Qbf,Zjq,Zjq,Qbt,Zzr,Qu]
  exact List.perm_append_comm
 refine⟨(f.append_left O).trans h.perm,h.srt,fun o ho e he=>h.all o ho e (f.mem_iff.1 he),fun p hp=>?_⟩
 rcases Qaw.1 hp with hp | hp
 ·rcases Qaw.1 hp with hp | hp
  ·exact h.pos p (by simp [hp])
  ·unfold kid at hp; split at hp
   ·rw [QF] at hp; subst hp; assumption
   ·cases hp
 ·unfold kid at hp; split at hp
  ·rw [QF] at hp; subst hp; assumption
  ·cases hp
theorem SI.start{s:List Int}{w:Nat}:SI s (2^w) [] (kid s (w,0)):=by
 refine⟨?_,by simp,by simp,fun p hp=>?_⟩
 ·rw [QbD,Zjq]; unfold eOf; simp
 ·unfold kid at hp; split at hp
  ·rw [QF] at hp; subst hp; assumption
  ·cases hp
theorem SI.res{s:List Int}{M:Nat}{O:List (Int×Int)}{S:List (Nat×Nat)}(h:SI s M O S):rk (dis s 0 M)=O++rk (S.flatMap (eOf s)):=by
 have hu:=h.uq
 have hu2:Uq (S.flatMap (eOf s)):=by
  unfold Uq at hu ⊢
  rw [Qx,Qbu] at hu; exact hu.2.1
 refine Z58 (h.perm.symm.trans ((Zdw _).symm.append_left O)) ?_ (Zwo s 0 M)
 rw [Srt,Qba]
 exact⟨h.srt,Zrh _ hu2,fun a ha b hb=>h.all a ha b ((Zdw _).mem_iff.1 hb)⟩
theorem SI.done{s:List Int}{M:Nat}{O:List (Int×Int)}(h:SI s M O []):O=rk (dis s 0 M):=by
 have:=h.res; simpa [rk] using this.symm
theorem SI.take{s:List Int}{M:Nat}{O:List (Int×Int)}{S:List (Nat×Nat)}(h:SI s M O S):O=(rk (dis s 0 M)).take O.length:=by
 rw [h.res]; simp
end Go.Ab

namespace Go.Ab
open Go Go.Proofs Go.Ab.Wd Go.Ab.Bs Go.Ab.Sai
theorem Z0q{l:List Int}{a b:Nat}(hab:a<=b)(hb:b<=l.length):seg l a b=(l.take b).drop a/\segLo (a:Int)=a/\segHi l a b=b:=by
 have e1:segLo (a:Int)=a:=by unfold segLo; omega
 have e2:segHi l a b=b:=by unfold segHi; omega
 exact⟨by unfold seg; rw [e1,e2],e1,e2⟩
end Go.Ab

namespace Go.Ab
open Go Go.Proofs Go.Ab.Wd Go.Ab.Bs Go.Ab.Sai
theorem Vec.keep{σ σ':Store}{p:Ptr}{B:List Bool}(v:Vec σ p B)(k:∀ x:Nat,x<σ.objs.length->σ'.objs[x]?=σ.objs[x]?):Vec σ' p B:=by
 obtain⟨b,hw,ha,ws,ah,rfl,R,W,A,wb,ab⟩:=v.ex
 have lt:∀ {h:Hdl} {l:List AV},σ.Sl h 1 l->σ'.Sl h 1 l:=fun {h l} s=>by
  refine⟨s.len,?_⟩
  rcases s.row with h1 | ⟨b,o,cs,rw,h1,h2,h3⟩
  ·exact .inl h1
  ·exact .inr ⟨b,o,cs,rw,h1,(k b (Qf.1 h2).1).trans h2,h3⟩
 exact⟨⟨b,hw,ha,ws,ah,rfl,(k b R.lt).trans R,lt W,lt A,wb,ab⟩,v.small⟩
theorem Mat.keep{σ σ':Store}{p:Ptr}{l:List Int}{w:Nat}(m:Mat σ p l w)(k:∀ x:Nat,x<σ.objs.length->σ'.objs[x]?=σ.objs[x]?):Mat σ' p l w:=by
 obtain⟨b,hl,ps,rfl,R,S,lp,V⟩:=m.ex
 have lt:∀ {h:Hdl} {l:List AV},σ.Sl h 1 l->σ'.Sl h 1 l:=fun {h l} s=>by
  refine⟨s.len,?_⟩
  rcases s.row with h1 | ⟨b,o,cs,rw,h1,h2,h3⟩
  ·exact .inl h1
  ·exact .inr ⟨b,o,cs,rw,h1,(k b (Qf.1 h2).1).trans h2,h3⟩
 exact⟨⟨b,hl,ps,rfl,(k b R.lt).trans R,lt S,lp,fun j hj=>by obtain⟨q,e,v⟩:=V j hj; exact⟨q,e,v.keep k⟩⟩,m.wid,m.small,m.rng⟩
theorem Zk4:∀ {L:List (Int×Int)} {i:Nat} {u v:Int},L[i]?=some (u,v)->(pairsL L)[i*2]?=some (.int .i64 u)/\(pairsL L)[i*2+1]?=some (.int .i64 v)
 | [],i,u,v,h=>by simp at h
 | x::L,0,u,v,h=>by simp at h; subst h; simp [pairsL]
 | x::L,i+1,u,v,h=>by
  have:=Zk4 (L:=L) (i:=i) (u:=u) (v:=v) (by simpa using h)
  rw [show pairsL (x::L)=[.int .i64 x.1,.int .i64 x.2]++pairsL L by simp [pairsL]]
  rw [Qn (by simp; omega),Qn (by simp; omega)]
  simp only [Q6,QaP,Q0]
  rw [show (i+1)*2-2=i*2 by omega,show (i+1)*2+1-2=i*2+1 by omega]
  exact this
theorem Zea{σ:Store}{h:Hdl}{L:List (Int×Int)}(s:σ.Sl h 2 (pairsL L)){i:Nat}{u v:Int}(hi:L[i]?=some (u,v)) :
  σ.ldInt .i64 (QG (h.idx (i:Int) 2) 0)=some u/\σ.ldInt .i64 (QG (h.idx (i:Int) 2) 1)=some v:=by
 have hlt:i<L.length:=(Qf.1 hi).1
 obtain⟨g0,g1⟩:=Zk4 hi
 have hl:=s.len
 rw [Za8] at hl
 rcases s.row with h0 | ⟨b,o,cs,rw,ha,hb,hc,hd⟩
 ·omega
 ·have c:∀ j,j<(pairsL L).length->cs[o+j]?=(pairsL L)[j]?:=fun j hj=>by
   rw [<-hd,Qa3,if_pos hj,List.getElem?_drop]
  have l2:=Za8 L
  have c0:=c (i*2) (by omega)
  have c1:=c (i*2+1) (by omega)
  rw [g0] at c0
  rw [g1] at c1
  constructor
  ·simp only [Qah,Store.cell,Hdl.idx,QG,ha,Q9,hb,Qc,QaD,c0,if_true]
  ·simp only [Qah,Store.cell,Hdl.idx,QG,ha,Q9,hb,Qc,Qas,c1,if_true]
theorem Zad{σ:Store}{h:Hdl}{L:List (Int×Int)}(s:σ.Sl h 2 (pairsL L)):h.len=L.length:=by have:=s.len; rw [Za8] at this; omega
theorem Zo2{σ:Store}{u v:Int}(hp:σ.prot<=σ.objs.length):∃ σ',QbR (σ.push [.int .i64 0,.int .i64 0] 2) (some (σ.objs.length,0)) [.int .i64 u,.int .i64 v] 0=some σ'/\Kp σ.objs.length σ σ'/\σ'.Row σ.objs.length 2 [.int .i64 u,.int .i64 v]:=by
 have R:(σ.push [.int .i64 0,.int .i64 0] 2).Row σ.objs.length 2 [.int .i64 0,.int .i64 0]:=Store.Row.new
 have t1:=Zw R (o:=0) (by simpa using hp) (by simp) (v:=.int .i64 u) rfl
 obtain⟨s1,hs1⟩:∃ s,s=(σ.push [.int .i64 0,.int .i64 0] 2).setO σ.objs.length (.cells ([.int .i64 0,.int .i64 0].set 0 (.int .i64 u)) true 2):=⟨_,rfl⟩
 rw [<-hs1] at t1
 have R1:s1.Row σ.objs.length 2 [.int .i64 u,.int .i64 0]:=by rw [hs1]; exact Store.Row.setO_eq R.lt
 have p1:s1.prot<=σ.objs.length:=by rw [hs1]; exact hp
 have t2:=Zw R1 (o:=1) p1 (by simp) (v:=.int .i64 v) rfl
 refine⟨s1.setO σ.objs.length (.cells ([.int .i64 u,.int .i64 0].set 1 (.int .i64 v)) true 2),?_,?_,Store.Row.setO_eq R1.lt⟩
 ·simp only [QbR,QG,Q9,QaD,Q0,Option.bind_eq_bind] at t1 t2 ⊢
  cases h1:Store.st (σ.push [.int .i64 0,.int .i64 0] 2) (some (σ.objs.length,0)) (.int .i64 u) with
  | none=>rw [h1] at t1; cases t1
  | some x=>
   rw [h1] at t1
   simp only [Qj,Option.some.injEq] at t1
   subst t1
   simp only [Qj]
   exact t2
 ·rw [hs1]; exact (((Kp.push _ _ (Qe _)).setO (Qe _)).setO (Qe _))
end Go.Ab

namespace Go.Ab
open Go Go.Proofs Go.Ab.Wd Go.Ab.Bs Go.Ab.Sai
theorem Z1i(s:List Int)(v:Nat):dis s v 1=if 0<Bs.cnt (fun x=>decide (x=(v:Int))) s then [((v:Int),((Bs.cnt (fun x=>decide (x=(v:Int))) s:Nat):Int))] else []:=by
 unfold dis
 rw [List.range'_one]
 split
 ·rename_i h; rw [Qal (by simpa using h)]; rfl
 ·rename_i h; rw [Qak (by simpa using h)]; rfl
def sum2(L:List (Int×Int)):Int:=(L.map (·.2)).sum
theorem Zsn(a b:List (Int×Int)):sum2 (a++b)=sum2 a+sum2 b:=by simp [sum2]
end Go.Ab

namespace Go.Ab
open Go Go.Proofs Go.Ab.Wd Go.Ab.Bs Go.Ab.Sai
theorem Zsv{Γ:Gam}{g:Fun}{args:List AV}{v:AV}{σ σ':Store}(h:Γ g args { σ with prot:=σ.objs.length }=some (v,σ')):callG Γ true g args σ=some (v,{ σ' with prot:=σ.prot }):=by
 unfold callG; simp only []; rw [h]; rfl
theorem Zk9{σ:Store}{h h':Hdl}{L:List (Int×Int)}(a:σ.Sl h 2 (pairsL L))(b:σ.Sl h' 2 (pairsL L))(hn:L.length<2^60):Runs Qb 25 [.slice h,.slice h'] σ (.bool true) σ:=by
 have la:=Zad a
 have lb:=Zad b
 obtain⟨r,e,rfl⟩:=EvI.up (f:=fun k s=>Qam Qb (gm Qb k) QO k Tryz.f25 [1,1,0,1,0] [13,12,1,0] s) L.length
  (fun i s=>s=([.int .i64 i,.int .i64 L.length,.slice h',.slice h],σ)) (fun r=>r=(Qw 0,[],σ))
  (by
   rintro i s hi rfl
   have i0:(0:Int)<=i:=by omega
   have i1:(i:Int)<L.length:=by omega
   have i2:(i:Int)<h.len:=by omega
   have i3:(i:Int)<h'.len:=by omega
   have w:=Zq hi (by omega)
   obtain⟨⟨u,v⟩,huv⟩:∃ q,L[i]?=some q:=⟨_,Qad hi⟩
   obtain⟨g0,g1⟩:=Zea a huv
   obtain⟨g2,g3⟩:=Zea b huv
   exact⟨_,Ev.of fun k=>by simp only [Zkb]; simp only [stp,i0,i1,i2,i3,g0,g1,g2,g3,w],rfl⟩)
  (by
   rintro s rfl
   exact⟨_,Ev.of fun k=>by simp only [Zkb]; simp only [stp,Qv],rfl⟩)
  (s:=([.int .i64 0,.int .i64 L.length,.slice h',.slice h],σ)) rfl
 refine rI Tryz.f25 ?_
 refine (Ev.bind (Zc e) (Ev.of fun k=>Zp4 (gm Qb k) k σ)).congr fun k=>?_
 rw [Z4j]
 have:(h.len:Int)=h'.len:=by omega
 have la':(h'.len:Int)=L.length:=by omega
 simp only [stp,this,la']
end Go.Ab

namespace Go.Ab
open Go Go.Proofs Go.Ab.Wd Go.Ab.Bs Go.Ab.Sai
def mkv(kv:List (Int×Int)):List (AV×AV):=kv.map fun p=>(.int .i64 p.1,.int .i64 p.2)
def mget(x:Int):List (Int×Int)->Option Int
 | []=>none
 | p::r=>if p.1=x then some p.2 else mget x r
def mput(x v:Int):List (Int×Int)->List (Int×Int)
 | []=>[(x,v)]
 | p::r=>if p.1=x then (x,v)::r else p::mput x v r
theorem Znm(x v y:Int):∀ kv,mget y (mput x v kv)=if y=x then some v else mget y kv
 | []=>by
  simp only [mput,mget]
  by_cases c:y=x
  ·rw [if_pos c,if_pos c.symm]
  ·rw [if_neg c,if_neg (fun e=>c e.symm)]
 | p::r=>by
  unfold mput
  by_cases c:p.1=x
  ·rw [if_pos c]
   simp only [mget]
   by_cases d:y=x
   ·rw [if_pos d,if_pos d.symm]
   ·rw [if_neg d,if_neg (fun e=>d e.symm),if_neg (fun e=>d (e.symm.trans c))]
  ·rw [if_neg c]
   simp only [mget]
   rw [Znm x v y r]
   by_cases d:y=x
   ·subst d; simp [c]
   ·simp [d]
theorem Z0a(x v:Int):∀ (kv:List (Int×Int)) (i:Nat),(mget x kv=none/\mapIdx .i64 x (mkv kv) i=some none/\mput x v kv=kv++[(x,v)]) \/
  (∃ j u,mapIdx .i64 x (mkv kv) i=some (some (i+j))/\kv[j]?=some (x,u)/\mget x kv=some u/\mput x v kv=kv.set j (x,v))
 | [],i=>.inl ⟨rfl,rfl,rfl⟩
 | p::r,i=>by
  simp only [mkv,Qbh,mapIdx,mget,mput,if_true]
  by_cases c:p.1=x
  ·right
   refine⟨0,p.2,by rw [if_pos c]; rfl,by simp [<-c],by rw [if_pos c],by rw [if_pos c]; rfl⟩
  ·rw [if_neg c,if_neg c,if_neg c]
   rcases Z0a x v r (i+1) with ⟨h1,h2,h3⟩ | ⟨j,u,h1,h2,h3,h4⟩
   ·exact .inl ⟨h1,h2,by rw [h3]; rfl⟩
   ·exact .inr ⟨j+1,u,by rw [show i+(j+1)=i+1+j by omega]; exact h1,by simpa using h2,h3,by rw [h4]; rfl⟩
theorem Zz7{σ:Store}{r:Nat}{kv:List (Int×Int)}(h:σ.objs[r]?=some (.map (mkv kv)))(x:Int):σ.look (some r) .i64 x=some ((mget x kv).map (AV.int .i64)):=by
 simp only [Store.look,h]
 rcases Z0a x 0 kv 0 with ⟨h1,h2,_⟩ | ⟨j,u,h1,h2,h3,_⟩
 ·rw [h2,h1]; rfl
 ·rw [h1,h3,Q0]
  simp [mkv,h2]
theorem Z36{σ:Store}{r:Nat}{kv:List (Int×Int)}(h:σ.objs[r]?=some (.map (mkv kv)))(hp:σ.prot<=r)(x v:Int):σ.upd (some r) .i64 x (.int .i64 v)=some (σ.setO r (.map (mkv (mput x v kv)))):=by
 simp only [Store.upd,h,if_pos hp]
 rcases Z0a x v kv 0 with ⟨h1,h2,h3⟩ | ⟨j,u,h1,h2,h3,h4⟩
 ·rw [h2,h3]; simp [mkv,Store.setO]
 ·rw [h1,h4,Q0]; simp [mkv,Store.setO,List.map_set]
def lastI(l:List Int):Nat->Int->Option Int
 | 0,_=>none
 | i+1,x=>if x=rd l (i:Nat) then some (i:Int) else lastI l i x
def bkI(l:List Int)(i:Nat):Int:=(lastI l i (rd l (i:Nat))).getD (-1)
def bkIL(l:List Int):List Int:=(QN l.length).map (bkI l)
theorem Zai(l:List Int):(bkIL l).length=l.length:=by simp [bkIL]
theorem Zf3(l:List Int)(x:Int):∀ i,(lastI l i x=none/\∀ j:Nat,j<i->rd l (j:Nat)≠x)\/∃ j:Nat,lastI l i x=some (j:Int)/\j<i/\rd l (j:Nat)=x/\∀ k:Nat,j<k->k<i->rd l (k:Nat)≠x
 | 0=>.inl ⟨rfl,fun j hj=>by omega⟩
 | i+1=>by
  unfold lastI
  by_cases c:x=rd l (i:Nat)
  ·rw [if_pos c]; exact .inr ⟨i,rfl,by omega,c.symm,fun k h1 h2=>by omega⟩
  ·rw [if_neg c]
   rcases Zf3 l x i with ⟨h1,h2⟩ | ⟨j,h1,h2,h3,h4⟩
   ·refine .inl ⟨h1,fun j hj=>?_⟩
    by_cases e:j=i
    ·subst e; exact fun e=>c e.symm
    ·exact h2 j (by omega)
   ·refine .inr ⟨j,h1,by omega,h3,fun k k1 k2=>?_⟩
    by_cases e:k=i
    ·subst e; exact fun e=>c e.symm
    ·exact h4 k k1 (by omega)
theorem Z06{l:List Int}{i a:Nat}:(a:Int)<=bkI l i ↔ ∃ j:Nat,a<=j/\j<i/\rd l (j:Nat)=rd l (i:Nat):=by
 unfold bkI
 rcases Zf3 l (rd l (i:Nat)) i with ⟨h1,h2⟩ | ⟨j,h1,h2,h3,h4⟩
 ·rw [h1]
  constructor
  ·intro h; simp at h; omega
  ·rintro⟨j,_,hj,e⟩; exact absurd e (h2 j hj)
 ·rw [h1]
  simp only [QQ]
  constructor
  ·intro h; exact⟨j,by omega,h2,h3⟩
  ·rintro⟨k,k1,k2,k3⟩
   have:¬ j<k:=fun c=>h4 k c k2 k3
   omega
theorem Zo0(l:List Int)(i:Nat):-1<=bkI l i/\bkI l i<i:=by
 unfold bkI
 rcases Zf3 l (rd l (i:Nat)) i with ⟨h1,h2⟩ | ⟨j,h1,h2,h3,h4⟩
 ·rw [h1]; simp only [QaB]; omega
 ·rw [h1]; simp only [QQ]; omega
theorem Zmo{l:List Int}{i:Nat}(hi:i<l.length):rd (bkIL l) (i:Nat)=bkI l i:=by
 unfold bkIL rd
 simp [hi]
theorem Zgy{σ:Store}{h:Hdl}{l:List Int}(hT:σ.Ints h l)(hp:σ.prot<=σ.objs.length)(hn:l.length<2^40) :
  ∃ ho σ',Runs Qb 131 [.slice h] σ (.slice ho) σ'/\Kp σ.objs.length σ σ'/\σ'.Ints ho (bkIL l)/\∀ b,ho.row=some b->σ.objs.length<=b/\b<σ'.objs.length:=by
 have ll:=hT.ilen
 obtain⟨m,hm⟩:∃ m,m=σ.objs.length:=⟨_,rfl⟩
 obtain⟨ho,hho⟩:∃ h:Hdl,h=⟨some (m+1,0),l.length,some l.length⟩:=⟨_,rfl⟩
 have set_bk:∀ i,i<l.length->((QN i).map (bkI l)++Ql (l.length-i) 0).set i (bkI l i)=(QN (i+1)).map (bkI l)++Ql (l.length-(i+1)) 0:=fun i hi=>by
  have e:l.length-i=(l.length-(i+1))+1:=by omega
  rw [List.set_append,if_neg (by simp),e,QA,Q8,List.length_range,Qan,List.set_cons_zero,QaL,Qx,Qu]
  rfl
 obtain⟨r,e,σ',rfl,K,R⟩:=EvI.up (f:=fun k s=>Qam Qb (gm Qb k) QO k Tryz.f131 [1,1,1,0,1,0] [15,14,13,4,3] s) l.length
  (fun i st=>∃ σ' kv,st=([.int .i64 i,.int .i64 l.length,.slice h,.slice ho,.map (some m)],σ')/\Kp m σ σ'/\σ'.objs[m]?=some (.map (mkv kv))/\σ'.Row (m+1) 1 (intsL ((QN i).map (bkI l)++Ql (l.length-i) 0))/\∀ x,mget x kv=lastI l i x)
  (fun r=>∃ σ',r=(Qw 0,[(4,.slice ho)],σ')/\Kp m σ σ'/\σ'.Row (m+1) 1 (intsL (bkIL l)))
  (by
   rintro i st hi ⟨σ',kv,rfl,K,Mp,R,G⟩
   have i0:(0:Int)<=i:=by omega
   have i1:(i:Int)<l.length:=by omega
   have i2:(i:Int)<h.len:=by omega
   have i3:(i:Int)<ho.len:=by rw [hho]; exact i1
   have w:=Zq hi (by omega)
   have hTs:σ'.Ints h l:=Store.Sl.kp hT (hm ▸ K)
   have rx:=hTs.rd i0 i1
   have lk:=Zz7 Mp (rd l (i:Nat))
   have hpm:σ'.prot<=m:=by rw [K.prot]; omega
   have lr:((QN i).map (bkI l)++Ql (l.length-i) 0).length=l.length:=by simp; omega
   have st:=Zfq R (by omega) (i:=(i:Int)) i0 (by rw [intsL_length,lr]; exact i1) (v:=.int .i64 (bkI l i)) rfl (len:=l.length) (cp:=some l.length)
   rw [<-hho,Qc,Zdn,set_bk i hi] at st
   obtain⟨σ2,h2⟩:∃ s,s=σ'.setO (m+1) (.cells (intsL ((QN (i+1)).map (bkI l)++Ql (l.length-(i+1)) 0)) true 1):=⟨_,rfl⟩
   rw [<-h2] at st
   have M2:σ2.objs[m]?=some (.map (mkv kv)):=by
    rw [h2]; show (σ'.objs.set (m+1) _)[m]?=_
    rw [Qk,if_neg (by omega)]; exact Mp
   have up:=Z36 M2 (by rw [h2]; exact hpm) (rd l (i:Nat)) (i:Int)
   have R2:σ2.Row (m+1) 1 (intsL ((QN (i+1)).map (bkI l)++Ql (l.length-(i+1)) 0)):=by rw [h2]; exact Store.Row.setO_eq R.lt
   have lt2:m<σ2.objs.length:=(Qf.1 M2).1
   have gl:mget (rd l (i:Nat)) kv=lastI l i (rd l (i:Nat)):=G _
   refine⟨([.int .i64 (i+1:Nat),.int .i64 l.length,.slice h,.slice ho,.map (some m)],σ2.setO m (.map (mkv (mput (rd l (i:Nat)) i kv)))),Ev.of fun k=>?_,_,mput (rd l (i:Nat)) i kv,rfl,(by rw [h2]; exact (K.setO (by omega)).setO (by omega)),?_,R2.setO_ne (by omega),fun x=>?_⟩
   ·simp only [Zg2]
    cases hc:lastI l i (rd l (i:Nat)) with
    | none=>
     have hb:bkI l i=-1:=by unfold bkI; rw [hc]; rfl
     rw [hb] at st
     rw [gl,hc] at lk
     simp only [stp,i0,i1,i2,rx,lk,Option.map_none,AV.isO,i3,st,up,w]
    | some u=>
     have hb:bkI l i=u:=by unfold bkI; rw [hc]; rfl
     rw [hb] at st
     rw [gl,hc] at lk
     simp only [stp,i0,i1,i2,rx,lk,Q9,AV.isO,AV.ofO,i3,st,up,w]
   ·show (σ2.objs.set m _)[m]?=_
    rw [Qk,if_pos rfl,if_pos lt2]
   ·rw [Znm]; unfold lastI
    by_cases c:x=rd l (i:Nat)
    ·rw [if_pos c,if_pos c]
    ·rw [if_neg c,if_neg c]; exact G x)
  (by
   rintro st ⟨σ',kv,rfl,K,Mp,R,G⟩
   rw [Qan,List.replicate_zero,QaM] at R
   exact⟨_,Ev.of fun k=>by simp only [Zg2]; simp only [stp,Qv],σ',rfl,K,R⟩)
  (s:=([.int .i64 0,.int .i64 l.length,.slice h,.slice ho,.map (some m)],QaI { objs:=σ.objs++[AObj.map []],prot:=σ.prot } (mkCells [.int .i64 0] l.length) 1))
  ⟨_,[],rfl,by
   rw [hm]
   have k1:Kp σ.objs.length σ { objs:=σ.objs++[AObj.map []],prot:=σ.prot }:=⟨rfl,by simp,fun x hx=>Qp hx⟩
   exact k1.push' (by simp),by simp [QaI,hm,mkv],by
   have:=(Store.Row.new:(QaI { objs:=σ.objs++[AObj.map []],prot:=σ.prot } (mkCells [.int .i64 0] l.length) 1).Row _ 1 _)
   simp only [Qm,List.length_singleton,<-hm] at this
   rw [Zac] at this ⊢
   simpa using this,fun x=>rfl⟩
 obtain⟨n1,e⟩:=Zc e
 have R':σ'.Ints ho (bkIL l):=by
  rw [hho]
  have:=R.sl (len:=l.length) (cp:=some l.length) (by rw [intsL_length,Zai]; simp)
  exact this
 refine⟨ho,σ',rI Tryz.f131 ⟨n1,fun k hk=>?_⟩,hm ▸ K,R',fun b hb=>by rw [hho] at hb; simp [Hdl.row] at hb; have:=R.lt; omega⟩
 have e:=e k hk
 simp only at e
 have c1:((0:Int)<=l.length/\(l.length:Int)<=l.length)/\(l.length:Int)*((8:Nat):Int)<=281474976710656:=by omega
 have c2:(σ.objs++[AObj.map []]).length=m+1:=by simp [hm]
 simp only [Z11,ll,if_pos c1,Qc,c2,<-hm,<-hho,e,Qj]
 rw [Zlv]
theorem Zsj{σ:Store}{n:Nat}{h:Hdl}{l:List Int}(g:GrowI σ n h l)(hp:σ.prot<=n)(hl:l.length<2^60):∃ σ',Runs Qb 187 [.slice h] σ (.tuple []) σ'/\Kp n σ σ'/\GrowI σ' n h (sortL l)/\σ'.objs.length=σ.objs.length:=by
 have ll:=g.ints.ilen
 rcases Qag l.length with h0 | h0
 ·have:l=[]:=Qav h0
  subst this
  refine⟨σ,Runs.told (f:=sortT) (by kernel_rfl) ?_,Kp.refl _ _,g,rfl⟩
  obtain⟨a,len,cap⟩:=h
  simp only [QaP] at ll
  subst ll
  rfl
 ·have s:=Grow.sl g
  rcases s.row with h1 | ⟨b,o,cs,rw,h1,h2,h3,h4⟩
  ·omega
  ·obtain⟨hb,cs',k1,k2,k3⟩:=g.own.own b o h1
   rw [h2] at k1; injection k1 with k1; injection k1 with e1 e2 e3; subst e1 e2
   simp only [intsL_length] at h3 h4
   have hbl:b<σ.objs.length:=(Qf.1 h2).1
   refine⟨σ.setO b (.cells (cs.take o++(intsL (sortL l)++cs.drop (o+l.length))) true 1),Runs.told (f:=sortT) (by kernel_rfl) ?_,(Kp.refl _ _).setO hb,⟨⟨by simp [ll,Zax],.inr ⟨b,o,_,true,h1,Store.Row.setO_eq hbl,?_,?_⟩⟩,⟨fun b' o' e=>?_,g.own.nil⟩⟩,by simp⟩
   ·obtain⟨a,len,cap⟩:=h
    simp only at h1 ll
    subst h1 ll
    obtain⟨m,hm⟩:∃ m,l.length=m+1:=⟨l.length-1,by omega⟩
    unfold sortT
    simp only [hm]
    simp only [h2]
    rw [hm] at h3 h4
    rw [h4,Zix]
    simp only
    rw [if_pos ⟨by omega,h3,by omega⟩]
   ·simp only [Qm,Qz,intsL_length,QaC,Zax]; omega
   ·have tk:(cs.take o).length=o:=by simp; omega
    rw [List.drop_append_of_le_length (by omega),List.drop_of_length_le (by omega),QbD,List.take_append_of_le_length (by simp),QC (by simp)]
   ·rw [h1] at e; injection e with e; injection e with e1 e2; subst e1 e2
    refine⟨hb,_,Store.Row.setO_eq hbl,?_,fun c hc=>?_⟩
    ·simp only [Qm,Qz,intsL_length,QaC,Zax]; omega
    ·have:=k3 c hc
     simp only [Qm,Qz,intsL_length,QaC,Zax]; omega
end Go.Ab

namespace Go.Ab
open Go Go.Proofs Go.Ab.Wd Go.Ab.Bs Go.Ab.Sai
def btr(l:List Int)(x y:Int):Int:=if x<0 then y else if y<0 then x else if rd l x<rd l y then x else if rd l x=rd l y/\x<y then x else y
def IsB(l:List Int)(a b i:Int):Prop:=(b<=a/\i=-1)\/(a<=i/\i<b/\∀ j,a<=j->j<b->rd l i<rd l j\/(rd l i=rd l j/\i<=j))
theorem IsB.none{l:List Int}{a b:Int}(h:b<=a):IsB l a b (-1):=.inl ⟨h,rfl⟩
theorem IsB.one(l:List Int)(a:Int):IsB l a (a+1) a:=.inr ⟨by omega,by omega,fun j h1 h2=>.inr ⟨by rw [show j=a by omega],by omega⟩⟩
theorem IsB.join{l:List Int}{a m c b i j:Int}(h1:IsB l a m i)(h2:IsB l c b j)(a0:0<=a)(h3:a<=c)(h4:c<=m)(h5:m<=b):IsB l a b (btr l i j):=by
 unfold btr
 rcases h1 with ⟨p1,rfl⟩ | ⟨p1,p2,p3⟩
 ·rw [if_pos (by omega)]
  have:c=a:=by omega
  subst this; exact h2
 ·rw [if_neg (by omega)]
  rcases h2 with ⟨q1,rfl⟩ | ⟨q1,q2,q3⟩
  ·rw [if_pos (by omega)]
   exact .inr ⟨p1,by omega,fun k k1 k2=>p3 k k1 (by omega)⟩
  ·rw [if_neg (by omega)]
   right
   by_cases e1:rd l i<rd l j
   ·rw [if_pos e1]
    refine⟨p1,by omega,fun k k1 k2=>?_⟩
    by_cases d:k<m
    ·exact p3 k k1 d
    ·have:=q3 k (by omega) k2; omega
   ·rw [if_neg e1]
    by_cases e2:rd l i=rd l j/\i<j
    ·rw [if_pos e2]
     refine⟨p1,by omega,fun k k1 k2=>?_⟩
     by_cases d:k<m
     ·exact p3 k k1 d
     ·have:=q3 k (by omega) k2; omega
    ·rw [if_neg e2]
     refine⟨by omega,q2,fun k k1 k2=>?_⟩
     by_cases d:k<c
     ·have:=p3 k k1 (by omega); omega
     ·exact q3 k (by omega) k2
def nbl(n:Nat):Nat:=(n+31) / 32
structure IsR (l:List Int) (w:Nat) (r:List Int):Prop where
 len:r.length=nbl l.length+1-w
 get:∀ i:Nat,i<r.length->IsB l (32*i:Nat) (min (32*(i+w)) l.length:Nat) (rd r (i:Nat))
theorem IsR.next{l r:List Int}{w:Nat}(h:IsR l w r)(w0:0<w){i:Nat}(hi:i+w<r.length):IsB l (32*i:Nat) (min (32*(i+2*w)) l.length:Nat) (btr l (rd r (i:Nat)) (rd r ((i+w:Nat):Int))):=by
 have h1:=h.get i (by omega)
 have h2:=h.get (i+w) hi
 have hl:=h.len
 unfold nbl at hl
 rw [show i+w+w=i+2*w by omega] at h2
 exact h1.join h2 (by omega) (by omega) (by omega) (by omega)
theorem IsB.mid{l r:List Int}{w x y:Nat}(h:IsR l w r)(hxy:x+w<=y)(hy:32*y<=l.length)(hw:y<=x+2*w):IsB l (32*x:Nat) (32*y:Nat) (btr l (rd r (x:Nat)) (rd r ((y-w:Nat):Int))):=by
 have hl:=h.len
 unfold nbl at hl
 have h1:=h.get x (by omega)
 have h2:=h.get (y-w) (by omega)
 rw [show min (32*(x+w)) l.length=32*(x+w) by omega] at h1
 rw [show min (32*(y-w+w)) l.length=32*y by omega] at h2
 exact h1.join h2 (by omega) (by omega) (by omega) (by omega)
end Go.Ab

namespace Go.Ab
open Go Go.Proofs Go.Ab.Wd Go.Ab.Bs Go.Ab.Sai
theorem IsB.le{l:List Int}{a b i:Int}(h:IsB l a b i)(hb:b<=l.length):i<l.length:=by
 rcases h with ⟨_,rfl⟩ | ⟨_,h,_⟩
 ·omega
 ·omega
section
variable {σ:Store} {b:Nat} {hl hr:Hdl} {l:List Int}
theorem Zcd(R:σ.Row b 2 [.slice hl,.slice hr])(T:σ.Ints hl l){x y:Int}(hx:x<l.length)(hy:y<l.length):Runs Qb 184 [.ptr (some (b,0)),.int .i64 x,.int .i64 y] σ (.int .i64 (btr l x y)) σ:=by
 have ll:=T.ilen
 have e0:=Zg R (o:=0) rfl
 refine rI Tryz.f184 (Ev.of fun k=>?_)
 simp only [Z2j]
 unfold btr
 by_cases c1:x<0
 ·simp only [stp,c1]
 ·by_cases c2:y<0
  ·simp only [stp,c1,c2]
  ·have x0:0<=x:=by omega
   have y0:0<=y:=by omega
   have rx:=T.rd x0 hx
   have ry:=T.rd y0 hy
   have x1:x<hl.len:=by omega
   have y1:y<hl.len:=by omega
   by_cases c3:rd l x<rd l y
   ·simp only [stp,c1,c2,e0,x0,y0,x1,y1,rx,ry,c3]
   ·by_cases c4:rd l x=rd l y
    ·by_cases c5:x<y
     ·simp only [stp,c1,c2,e0,x0,y0,x1,y1,rx,ry,c3,c4,c5,Qv]
     ·simp only [stp,c1,c2,e0,x0,y0,x1,y1,rx,ry,c3,c4,c5,Qv]
    ·simp only [stp,c1,c2,e0,x0,y0,x1,y1,rx,ry,c3,c4]
theorem Zgc(R:σ.Row b 2 [.slice hl,.slice hr])(T:σ.Ints hl l)(hn:l.length<=4194304){x y:Int}(x0:0<=x)(hx:x<=8388608)(hy:y<=l.length):∃ i,Runs Qb 183 [.ptr (some (b,0)),.int .i64 x,.int .i64 y] σ (.int .i64 i) σ/\IsB l x y i:=by
 obtain⟨r,e,i,rfl,hi⟩:=EvI.while (f:=fun k s=>Qam Qb (gm Qb k) QO k Tryz.f183 [1,1,0,1,0] [8,7,2,0] s)
  (fun m st=>∃ i best:Int,m=(y-i).toNat/\st=([.int .i64 i,.int .i64 best,.int .i64 y,.ptr (some (b,0))],σ)/\x<=i/\(i<=y\/i=x)/\IsB l x i best)
  (fun r=>∃ best:Int,r=(Qw 0,[(7,.int .i64 best)],σ)/\IsB l x y best)
  (by
   rintro m st ⟨i,best,rfl,rfl,h1,h2,hb⟩
   by_cases c:i<y
   ·obtain⟨n1,r1⟩:=Zcd R T (x:=best) (y:=i) (hb.le (by omega)) (by omega)
    have w:Qa .i64 (i+1)=i+1:=Za (by omega) (by omega)
    refine .inl ⟨(y-(i+1)).toNat,_,by omega,⟨n1,fun k hk=>?_⟩,i+1,btr l best i,rfl,rfl,by omega,.inl (by omega),hb.join (IsB.one l i) x0 h1 (by omega) (by omega)⟩
    have r1:=r1 k hk
    simp only at r1
    simp only [Zio]
    simp only [stp,c,r1,w]
   ·refine .inr ⟨_,Ev.of fun k=>?_,best,rfl,?_⟩
    ·simp only [Zio]
     simp only [stp,c]
    ·rcases h2 with h2 | h2
     ·have:i=y:=by omega
      subst this; exact hb
     ·subst h2
      rcases hb with ⟨p,q⟩ | ⟨p,q,_⟩
      ·exact .inl ⟨by omega,q⟩
      ·omega)
  (y-x).toNat ([.int .i64 x,.int .i64 (-1),.int .i64 y,.ptr (some (b,0))],σ) ⟨x,-1,rfl,rfl,by omega,.inr rfl,IsB.none (by omega)⟩
 obtain⟨n1,e⟩:=Zc e
 refine⟨i,rI Tryz.f183 ⟨n1,fun k hk=>?_⟩,hi⟩
 have e:=e k hk
 simp only at e
 simp only [Z2i]
 rw [e,Qj,Zoo]
end
structure Tab (σ:Store) (p:Ptr) (l:List Int):Prop where
 ex:∃ (b:Nat) (hl hr:Hdl) (hs:List Hdl),p=some (b,0)/\σ.Row b 2 [.slice hl,.slice hr]/\σ.Ints hl l/\σ.Sl hr 1 (hs.map QaY)/\∀ k,2^k<=nbl l.length->∃ h r,hs[k]?=some h/\σ.Ints h r/\IsR l (2^k) r
 small:l.length<=4194304
theorem Tab.kp{σ σ':Store}{p:Ptr}{l:List Int}(t:Tab σ p l)(k:Kp σ.objs.length σ σ'):Tab σ' p l:=by
 obtain⟨b,hl,hr,hs,e,R,T,S,G⟩:=t.ex
 refine⟨⟨b,hl,hr,hs,e,R.kp k R.lt,Store.Sl.kp T k,Store.Sl.kp S k,fun j hj=>?_⟩,t.small⟩
 obtain⟨h,r,h1,h2,h3⟩:=G j hj
 exact⟨h,r,h1,Store.Sl.kp h2 k,h3⟩
theorem Tab.keep{σ σ':Store}{p:Ptr}{l:List Int}(t:Tab σ p l)(k:∀ x:Nat,x<σ.objs.length->σ'.objs[x]?=σ.objs[x]?):Tab σ' p l:=by
 obtain⟨b,hl,hr,hs,e,R,T,S,G⟩:=t.ex
 have kk:∀ {h:Hdl} {L:List AV},σ.Sl h 1 L->σ'.Sl h 1 L:=fun {h L} s=>by
  refine⟨s.len,?_⟩
  rcases s.row with h1 | ⟨b,o,cs,rw,h1,h2,h3⟩
  ·exact .inl h1
  ·exact .inr ⟨b,o,cs,rw,h1,(k b (Qf.1 h2).1).trans h2,h3⟩
 refine⟨⟨b,hl,hr,hs,e,(k b R.lt).trans R,kk T,kk S,fun j hj=>?_⟩,t.small⟩
 obtain⟨h,r,h1,h2,h3⟩:=G j hj
 exact⟨h,r,h1,kk h2,h3⟩
theorem Z5o{σ:Store}{h:Hdl}{hs:List Hdl}(s:σ.Sl h 1 (hs.map QaY)){j:Nat}{q:Hdl}(hj:hs[j]?=some q):σ.ldSl (h.idx (j:Int) 1)=some q:=by
 have:σ.cell (h.idx (j:Int) 1)=some (.slice q):=Store.Sl.at s (by omega) (by simp [hj])
 simp [QbE,this]
theorem Z04{σ:Store}{p:Ptr}{l:List Int}(t:Tab σ p l):Runs Qb 185 [.ptr p] σ (.int .i64 l.length) σ:=by
 obtain⟨b,hl,hr,hs,rfl,R,T,S,G⟩:=t.ex
 have e0:=Zg R (o:=0) rfl
 have ll:=T.ilen
 refine rI Tryz.f185 (Ev.of fun k=>?_)
 simp only [Z2k]
 simp only [stp,Qd,e0,ll]
theorem Zyz{x:Int}(h0:0<=x)(h1:x<2^40):Qa .i64 (Qbm x 32)=((x.toNat / 32:Nat):Int):=by
 rw [Qq h0,Za (by omega) (by omega)]; omega
theorem Zxo(σ:Store){x:Nat}(hx:x<2^24):∃ c:Nat,c<=24/\Runs Qb 144 [.int .u64 x] σ (.int .i64 c) σ/\IsLen x c:=by
 obtain⟨c,h1,⟨n1,r1⟩,h2⟩:=Znj σ hx
 refine⟨c,h1,rI Tryz.f144 ⟨n1,fun k hk=>?_⟩,h2⟩
 have r1:=r1 k hk
 simp only at r1
 simp only [Z18]
 simp only [stp,r1]
theorem Z59{k:Nat}(hk:k<=24):shlI .i64 1 (k:Int)=((2^k:Nat):Int):=by
 have:∀ k:Fin 25,shlI .i64 1 ((k.val:Nat):Int)=((2^k.val:Nat):Int):=by decide +kernel
 exact this ⟨k,by omega⟩
theorem Zi1{σ:Store}{p:Ptr}{l:List Int}(t:Tab σ p l){x y:Int}:∃ i,Runs Qb 133 [.ptr p,.int .i64 x,.int .i64 y] σ (.int .i64 i) σ/\IsB l (max x 0) (min y l.length) i:=by
 obtain⟨n0,r0⟩:=Z04 t
 obtain⟨b,hl,hr,hs,rfl,R,T,S,G⟩:=t.ex
 have sm:=t.small
 have mn:=Zbw y l.length
 have mx:=Zbx x 0
 obtain⟨A,hA⟩:∃ A,A=max x 0:=⟨_,rfl⟩
 obtain⟨B,hB⟩:∃ B,B=min y l.length:=⟨_,rfl⟩
 rw [<-hA] at mx
 rw [<-hB] at mn
 rw [<-hA,<-hB]
 have A0:0<=A:=by omega
 have B1:B<=l.length:=by omega
 by_cases c1:B<=A
 ·refine⟨-1,rI Tryz.f133 ⟨n0,fun k hk=>?_⟩,IsB.none c1⟩
  have r0:=r0 k hk
  simp only at r0
  simp only [Zlw]
  simp only [stp,r0,mn,mx,c1]
 have A1:A<=4194304:=by omega
 have w1:Qa .i64 (Qa .i64 (A+32)-1)=A+31:=by rw [Za (x:=A+32) (by omega) (by omega),Za (by omega) (by omega)]; omega
 have w2:=Zyz (x:=A+31) (by omega) (by omega)
 have w3:=Zyz (x:=B) (by omega) (by omega)
 obtain⟨X,hX⟩:∃ X,X=(A+31).toNat / 32:=⟨_,rfl⟩
 obtain⟨Y,hY⟩:∃ Y,Y=B.toNat / 32:=⟨_,rfl⟩
 rw [<-hX] at w2
 rw [<-hY] at w3
 by_cases c2:(Y:Int)<=(X:Int)
 ·obtain⟨i,⟨n1,r1⟩,hi⟩:=Zgc R T sm (x:=A) (y:=B) A0 (by omega) B1
  refine⟨i,rI Tryz.f133 ⟨n0+n1,fun k hk=>?_⟩,hi⟩
  have r0:=r0 k (by omega)
  have r1:=r1 k (by omega)
  simp only at r0 r1
  simp only [Zlw]
  simp only [stp,r0,mn,mx,c1,w1,w2,w3,c2,r1]
 have w4:Qa .i64 ((X:Int)*32)=((32*X:Nat):Int):=by rw [Za (by omega) (by omega)]; omega
 have w5:Qa .i64 ((Y:Int)*32)=((32*Y:Nat):Int):=by rw [Za (by omega) (by omega)]; omega
 have w6:Qa .u64 (Qa .i64 ((Y:Int)-X))=((Y-X:Nat):Int):=by rw [Za (by omega) (by omega),Zx (by omega) (by omega)]; omega
 obtain⟨i1,⟨n1,r1⟩,h1⟩:=Zgc R T sm (x:=A) (y:=(32*X:Nat)) A0 (by omega) (by omega)
 obtain⟨cc,hc24,⟨n2,r2⟩,hlen⟩:=Zxo σ (x:=Y-X) (by omega)
 obtain⟨K,hK⟩:∃ K,cc=K+1:=by
  cases cc with
  | zero=>have:=hlen.1; simp at this; omega
  | succ K=>exact⟨K,rfl⟩
 subst hK
 have lo:2^K<=Y-X:=by rcases hlen.2 with h | h; omega; simpa using h
 have hi2:Y-X<2*2^K:=by have:=hlen.1; rw [QM] at this; omega
 have w7:Qa .i64 (((K+1:Nat):Int)-1)=(K:Int):=by rw [Za (by omega) (by omega)]; omega
 have nb:2^K<=nbl l.length:=by unfold nbl; omega
 obtain⟨hk,r,hk1,hk2,IR⟩:=G K nb
 have ir:=IR.len
 have nbe:nbl l.length=(l.length+31) / 32:=rfl
 have lk:=hk2.ilen
 have e1:=Zg R (o:=1) rfl
 have lsr:=S.len
 simp only [Q8,QbP] at lsr
 have kl:K<hs.length:=(Qf.1 hk1).1
 have k0:(0:Int)<=K/\(K:Int)<hr.len:=by omega
 have rd1:=Z5o S hk1
 have x0:(0:Int)<=X/\(X:Int)<hk.len:=by omega
 have gx:=hk2.rd (i:=(X:Int)) (by omega) (by omega)
 have b1:=h1.le (by omega)
 have IB:=IsB.mid (x:=X) (y:=Y) IR (by omega) (by omega) (by omega)
 have g1:=IR.get X (by omega)
 have g2:=IR.get (Y-2^K) (by omega)
 have v1:=g1.le (by omega)
 have v2:=g2.le (by omega)
 obtain⟨n3,r3⟩:=Zcd R T (x:=i1) (y:=rd r (X:Nat)) b1 v1
 have j1:btr l i1 (rd r (X:Nat))<l.length:=(h1.join g1 A0 (by omega) (by omega) (by omega)).le (by omega)
 obtain⟨n4,r4⟩:=Zcd R T (x:=btr l i1 (rd r (X:Nat))) (y:=rd r ((Y-2^K:Nat):Int)) j1 v2
 have J2:IsB l A (32*Y:Nat) (btr l (btr l i1 (rd r (X:Nat))) (rd r ((Y-2^K:Nat):Int))):=by
  have h:=h1.join g1 A0 (by omega) (by omega) (by omega)
  rw [show min (32*(X+2^K)) l.length=32*(X+2^K) by omega] at h
  rw [show min (32*(Y-2^K+2^K)) l.length=32*Y by omega] at g2
  exact h.join g2 A0 (by omega) (by omega) (by omega)
 have j2:=J2.le (by omega)
 obtain⟨i3,⟨n5,r5⟩,h3⟩:=Zgc R T sm (x:=(32*Y:Nat)) (y:=B) (by omega) (by omega) B1
 have b3:=h3.le B1
 obtain⟨n6,r6⟩:=Zcd R T (x:=btr l (btr l i1 (rd r (X:Nat))) (rd r ((Y-2^K:Nat):Int))) (y:=i3) j2 b3
 have J3:=J2.join h3 A0 (by omega) (by omega) (by omega)
 have pk:2^K<=2^24:=Qh (by omega) (by omega)
 have w8:Qa .i64 ((Y:Int)-shlI .i64 1 (K:Int))=((Y-2^K:Nat):Int):=by
  rw [Z59 (by omega)]
  exact (fun (t:Nat) (ht:t<=Y)=>by rw [Za (by omega) (by omega)]; omega:∀ t:Nat,t<=Y->Qa .i64 ((Y:Int)-(t:Int))=((Y-t:Nat):Int)) (2^K) (by omega)
 have y0:(0:Int)<=((Y-2^K:Nat):Int)/\((Y-2^K:Nat):Int)<hk.len:=by omega
 have gy:=hk2.rd (i:=((Y-2^K:Nat):Int)) (by omega) (by omega)
 refine⟨_,rI Tryz.f133 ⟨n0+n1+n2+n3+n4+n5+n6,fun k hk'=>?_⟩,J3⟩
 have r0:=r0 k (by omega)
 have r1:=r1 k (by omega)
 have r2:=r2 k (by omega)
 have r3:=r3 k (by omega)
 have r4:=r4 k (by omega)
 have r5:=r5 k (by omega)
 have r6:=r6 k (by omega)
 simp only at r0 r1 r2 r3 r4 r5 r6
 have kk0:(0:Int)<=(K:Int):=by omega
 simp only [Zlw]
 simp only [Qj,r0,QbQ,if_true,mn,mx,decide_eq_true_eq,if_neg c1,w1,w2,w3,if_neg c2,w4,r1,w6,r2,e1,w7,if_pos k0,rd1,if_pos x0,gx,r3,if_pos kk0,w8,if_pos y0,gy,r4,w5,r5,r6]
end Go.Ab

namespace Go.Ab
open Go Go.Proofs Go.Ab.Wd Go.Ab.Bs Go.Ab.Sai
theorem Zf{σ:Store}{n:Nat}{h:Hdl}{es:Nat}{l:List AV}(g:Grow σ n h es l):∀ b,h.row=some b->n<=b/\b<σ.objs.length:=fun b e=>by
 cases ha:h.a with
 | none=>simp [Hdl.row,ha] at e
 | some bo=>obtain⟨c,o⟩:=bo; simp [Hdl.row,ha] at e; subst e; exact g.rowLt c o ha
theorem Zar{σ σ':Store}{h:Hdl}{es:Nat}{l:List AV}(s:σ.Sl h es l)(k:∀ b,h.row=some b->σ'.objs[b]?=σ.objs[b]?):σ'.Sl h es l:=s.keep fun b o e=>k b (by simp [Hdl.row,e])
theorem rd_snoc{q:List Int}{x:Int}{j:Nat}:rd (q++[x]) (j:Nat)=if j<q.length then rd q (j:Nat) else if j=q.length then x else 0:=by
 unfold rd
 simp only [Qc,Qo]
 by_cases c:j<q.length
 ·rw [if_pos c,Qp c]
 ·rw [if_neg c,Qn (by omega)]
  by_cases d:j=q.length
  ·rw [if_pos d,d]; simp
  ·rw [if_neg d,QH (by simp; omega)]; rfl
structure TabI (σ1:Store) (b m:Nat) (h2:Hdl) (l:List Int) (k:Nat) (row hr:Hdl) (r:List Int) (hs:List Hdl) (σ':Store):Prop where
 K:Kp b σ1 σ'
 R:σ'.Row b 2 [.slice h2,.slice hr]
 g:GrowI σ' m row r
 gr:Grow σ' m hr 1 (hs.map QaY)
 ap:∀ x,row.row=some x->hr.row≠some x
 hk:hs.length=k
 ir:IsR l (2^k) r
 ent:∀ j,j<k->∃ hj rj,hs[j]?=some hj/\σ'.Ints hj rj/\IsR l (2^j) rj/\∀ x,hj.row=some x->m<=x/\x<σ'.objs.length/\hr.row≠some x
theorem Zk6{l r:List Int}{k:Nat}(h:IsR l (2^k) r)(h0:0<r.length)(hn:l.length<=4194304):2^k<=131072/\r.length<=131072:=by
 have:=h.len
 unfold nbl at this
 have:=QI k
 omega
theorem Zyy{σb:Store}{b:Nat}{h2 hr row:Hdl}{l r:List Int}{k:Nat}(R:σb.Row b 2 [.slice h2,.slice hr])(T:σb.Ints h2 l)(G:σb.Ints row r)(ir:IsR l (2^k) r)(h0:0<r.length)(hn:l.length<=4194304)(hp:σb.prot<=σb.objs.length) :
  ∃ next q σc,EvI (fun kk s=>Qam Qb (gm Qb kk) QO kk Tryz.f132 [1,1,1,1,1,0,1,0,0,1,0,0,1,1,0,1,0] [9,8,7,5,4] s)
   ([.int .i64 0,.slice Q3,.int .i64 (2^k:Nat),.slice row,.ptr (some (b,0))],σb) (Qw 4,[(8,.slice next),(7,.int .i64 (2^k:Nat)),(4,.ptr (some (b,0)))],σc) /\
   Kp σb.objs.length σb σc/\GrowI σc σb.objs.length next q/\IsR l (2^(k+1)) q/\q.length<r.length:=by
 obtain⟨p1,p2⟩:=Zk6 ir h0 hn
 obtain⟨w,hw⟩:∃ w,w=2^k:=⟨_,rfl⟩
 have wpos:0<w:=by rw [hw]; exact QI k
 rw [<-hw] at ir p1 ⊢
 have lr:=G.ilen
 have irl:=ir.len
 have nbe:nbl l.length=(l.length+31) / 32:=rfl
 obtain⟨r',e,next,q,σc,rfl,Kc,Gc,lq,gq⟩:=EvI.up (f:=fun kk s=>Qam Qb (gm Qb kk) QO kk Tryz.f132 [1,1,1,1,1,0,1,0,0,1,0,0,1,1,0,1,0] [9,8,7,5,4] s) (r.length-w)
  (fun i st=>∃ next q σc,st=([.int .i64 (i:Nat),.slice next,.int .i64 (w:Nat),.slice row,.ptr (some (b,0))],σc)/\Kp σb.objs.length σb σc/\GrowI σc σb.objs.length next q/\q.length=i/\∀ j:Nat,j<i->IsB l (32*j:Nat) (min (32*(j+2*w)) l.length:Nat) (rd q (j:Nat)))
  (fun r'=>∃ next q σc,r'=(Qw 4,[(8,.slice next),(7,.int .i64 (w:Nat)),(4,.ptr (some (b,0)))],σc)/\Kp σb.objs.length σb σc/\GrowI σc σb.objs.length next q/\q.length=r.length-w/\∀ j:Nat,j<r.length-w->IsB l (32*j:Nat) (min (32*(j+2*w)) l.length:Nat) (rd q (j:Nat)))
  (by
   rintro i st hi ⟨next,q,σc,rfl,Kc,Gc,lq,gq⟩
   have Rc:=R.kp Kc R.lt
   have Tc:σc.Ints h2 l:=Store.Sl.kp T Kc
   have Gr:σc.Ints row r:=Store.Sl.kp G Kc
   have w1:Qa .i64 ((i:Int)+(w:Int))=((i+w:Nat):Int):=by rw [Za (by omega) (by omega)]; omega
   have w2:Qa .i64 ((i:Int)+1)=((i+1:Nat):Int):=by rw [Za (by omega) (by omega)]; omega
   have c1:((i+w:Nat):Int)<row.len:=by omega
   have c2:(0:Int)<=i/\(i:Int)<row.len:=by omega
   have c3:(0:Int)<=((i+w:Nat):Int)/\((i+w:Nat):Int)<row.len:=by omega
   have rx:=Gr.rd (i:=(i:Int)) (by omega) (by omega)
   have ry:=Gr.rd (i:=((i+w:Nat):Int)) (by omega) (by omega)
   have b1:=(ir.get i (by omega)).le (by omega)
   have b2:=(ir.get (i+w) (by omega)).le (by omega)
   obtain⟨n1,r1⟩:=Zcd Rc Tc b1 b2
   have hpc:σc.prot<=σb.objs.length:=by rw [Kc.prot]; exact hp
   obtain⟨h',σd,e2,k2,g2⟩:=Gc.app hpc Kc.len (btr l (rd r (i:Nat)) (rd r ((i+w:Nat):Int))) (by omega)
   refine⟨([.int .i64 (i+1:Nat),.slice h',.int .i64 (w:Nat),.slice row,.ptr (some (b,0))],σd),⟨n1,fun kk hk=>?_⟩,h',_,σd,rfl,Kc.trans k2,g2,by rw [Qm,lq]; rfl,fun j hj=>?_⟩
   ·have r1:=r1 kk hk
    simp only at r1
    simp only [Zbt]
    simp only [decide_eq_true_eq,w1,if_pos c1,if_pos c2,if_pos c3,rx,ry,Qj,r1,QbQ,if_true,Zbf,e2,w2]
   ·rw [rd_snoc,lq]
    by_cases d:j<i
    ·rw [if_pos d]; exact gq j d
    ·have:j=i:=by omega
     subst this
     rw [if_neg d,if_pos rfl]
     exact ir.next wpos (by omega))
  (by
   rintro st ⟨next,q,σc,rfl,Kc,Gc,lq,gq⟩
   have w1:Qa .i64 (((r.length-w:Nat):Int)+(w:Int))=((r.length-w+w:Nat):Int):=by rw [Za (by omega) (by omega)]; omega
   have c1:¬ ((r.length-w+w:Nat):Int)<row.len:=by omega
   refine⟨_,Ev.of fun kk=>?_,next,q,σc,rfl,Kc,Gc,lq,gq⟩
   simp only [Zbt]
   simp only [decide_eq_true_eq,w1,if_neg c1])
  (s:=([.int .i64 0,.slice Q3,.int .i64 (w:Nat),.slice row,.ptr (some (b,0))],σb)) ⟨Hdl.nil,[],σb,rfl,Kp.refl _ _,Grow.nil _ _ _,rfl,fun j hj=>by omega⟩
 refine⟨next,q,σc,e,Kc,Gc,⟨?_,fun i hi=>?_⟩,by omega⟩
 ·rw [QM,<-hw]; omega
 ·rw [QM,<-hw,QB w 2]; exact gq i (by omega)
theorem Zk8{σ:Store}{h:Hdl}{l:List Int}(hT:σ.Ints h l)(hp:σ.prot<=σ.objs.length)(hn:l.length<=4194304) :
  ∃ p σ',Runs Qb 132 [.slice h] σ (.tuple [.ptr p,.int .i64 0]) σ'/\Kp σ.objs.length σ σ'/\(∀ σ'':Store,(∀ x,σ.objs.length<=x->x<σ'.objs.length->σ''.objs[x]?=σ'.objs[x]?)->Tab σ'' p l):=by
 have ll:=hT.ilen
 obtain⟨h2,σ1,⟨n1,r1⟩,K1,G1⟩:=Zft hT hp (by omega)
 obtain⟨b,hb⟩:∃ b,b=σ1.objs.length:=⟨_,rfl⟩
 obtain⟨σ2,h2_⟩:∃ s,s=σ1.push [.slice h2,.slice Q3] 2:=⟨_,rfl⟩
 have K2:Kp b σ1 σ2:=by rw [h2_,hb]; exact Kp.push _ _ (Qe _)
 have R2:σ2.Row b 2 [.slice h2,.slice Q3]:=by rw [h2_,hb]; exact Store.Row.new
 have T2:σ2.Ints h2 l:=Store.Sl.kp G1.ints (hb ▸ K2)
 have m2:σ2.objs.length=b+1:=by rw [h2_,hb]; simp
 have bn:σ.objs.length<=b:=by rw [hb]; exact K1.len
 have pr2:σ2.prot<=σ.objs.length:=by rw [K2.prot,K1.prot]; exact hp
 have nbe:nbl l.length=(l.length+31) / 32:=rfl
 obtain⟨r',e1,row,r,σ3,rfl,K3,G3,lr,gr⟩:=EvI.up (f:=fun kk s=>Qam Qb (gm Qb kk) QO kk Tryz.f132 [1,1,1,1,0,1,0] [6,5,4,0] s) (nbl l.length)
  (fun t st=>∃ row r σ',st=([.int .i64 (32*t:Nat),.slice row,.ptr (some (b,0)),.slice h],σ')/\Kp σ2.objs.length σ2 σ'/\GrowI σ' σ2.objs.length row r/\r.length=t/\∀ j:Nat,j<t->IsB l (32*j:Nat) (min (32*(j+1)) l.length:Nat) (rd r (j:Nat)))
  (fun r'=>∃ row r σ',r'=(Qw 0,[(5,.slice row),(4,.ptr (some (b,0)))],σ')/\Kp σ2.objs.length σ2 σ'/\GrowI σ' σ2.objs.length row r/\r.length=nbl l.length/\∀ j:Nat,j<nbl l.length->IsB l (32*j:Nat) (min (32*(j+1)) l.length:Nat) (rd r (j:Nat)))
  (by
   rintro t st ht ⟨row,r,σ',rfl,K,G,lr,gr⟩
   have Rc:=R2.kp K R2.lt
   have Tc:σ'.Ints h2 l:=Store.Sl.kp T2 K
   have c1:((32*t:Nat):Int)<h.len:=by omega
   have w1:Qa .i64 (((32*t:Nat):Int)+32)=((32*(t+1):Nat):Int):=by rw [Za (by omega) (by omega)]; omega
   have w2:mn2 ((32*(t+1):Nat):Int) h.len=((min (32*(t+1)) l.length:Nat):Int):=by rw [Zbw]; omega
   obtain⟨i,⟨n1,r1⟩,hi⟩:=Zgc Rc Tc hn (x:=(32*t:Nat)) (y:=(min (32*(t+1)) l.length:Nat)) (by omega) (by omega) (by omega)
   obtain⟨h',σd,e2,k2,g2⟩:=G.app (by rw [K.prot]; omega) K.len i (by omega)
   refine⟨([.int .i64 (32*(t+1):Nat),.slice h',.ptr (some (b,0)),.slice h],σd),⟨n1,fun kk hk=>?_⟩,h',_,σd,rfl,K.trans k2,g2,by rw [Qm,lr]; rfl,fun j hj=>?_⟩
   ·have r1:=r1 kk hk
    simp only at r1
    simp only [Zgi]
    simp only [decide_eq_true_eq,if_pos c1,w1,w2,r1,Qj,QbQ,if_true,Zbf,e2]
   ·rw [rd_snoc,lr]
    by_cases d:j<t
    ·rw [if_pos d]; exact gr j d
    ·have:j=t:=by omega
     subst this
     rw [if_neg d,if_pos rfl]; exact hi)
  (by
   rintro st ⟨row,r,σ',rfl,K,G,lr,gr⟩
   have c1:¬ ((32*nbl l.length:Nat):Int)<h.len:=by omega
   refine⟨_,Ev.of fun kk=>?_,row,r,σ',rfl,K,G,lr,gr⟩
   simp only [Zgi]
   simp only [decide_eq_true_eq,if_neg c1])
  (s:=([.int .i64 0,.slice Q3,.ptr (some (b,0)),.slice h],σ2)) ⟨Hdl.nil,[],σ2,rfl,Kp.refl _ _,Grow.nil _ _ _,rfl,fun j hj=>by omega⟩
 rw [m2] at K3 G3
 have K13:Kp b σ1 σ3:=K2.trans (K3.mono (by omega))
 have ir0:IsR l (2^0) r:=⟨by rw [lr]; simp,fun i hi=>gr i (by omega)⟩
 have I0:TabI σ1 b (b+1) h2 l 0 row Q3 r [] σ3:=⟨K13,R2.kp (m2 ▸ K3) R2.lt,G3,Grow.nil _ _ _,fun x _=>by simp [Hdl.row,Q3],rfl,ir0,fun j hj=>by omega⟩
 obtain⟨r',e2,k,row',r2,hr,hs,σ4,rfl,I,rz⟩:=EvI.while (f:=fun kk s=>Qam Qb (gm Qb kk) QO kk Tryz.f132 [1,1,1,1,1,0,1,0] [7,5,4] s)
  (fun μ st=>∃ k row r hr hs σ',μ=r.length/\st=([.int .i64 (2^k:Nat),.slice row,.ptr (some (b,0))],σ')/\TabI σ1 b (b+1) h2 l k row hr r hs σ')
  (fun r'=>∃ k row r hr hs σ',r'=(Qw 2,[(4,.ptr (some (b,0)))],σ')/\TabI σ1 b (b+1) h2 l k row hr r hs σ'/\r.length=0)
  (by
   rintro μ st ⟨k,row,r,hr,hs,σ',rfl,rfl,I⟩
   have lr:=I.g.ints.ilen
   rcases Qag r.length with h0 | h0
   ·refine .inr ⟨_,Ev.of fun kk=>?_,k,row,r,hr,hs,σ',rfl,I,h0⟩
    have c:¬ (0:Int)<row.len:=by omega
    simp only [Zfe]
    simp only [decide_eq_true_eq,if_neg c]
   ·obtain⟨p1,p2⟩:=Zk6 I.ir h0 hn
    have kb:k<=17:=Nat.le_of_not_lt fun c=>by
     have:2^18<=2^k:=Qh (by omega) c
     omega
    have pr:σ'.prot<=σ.objs.length:=by rw [I.K.prot,K1.prot]; exact hp
    have lb:b+1<=σ'.objs.length:=I.R.lt
    have e0:=Zg I.R (o:=1) rfl
    obtain⟨hr',σa,ea,ka,ga,fa,hra⟩:=I.gr.app1X (by omega) lb (v:=.slice row) rfl (bs:=24) (by omega) (by rw [Q8,I.hk]; omega)
    have Ra:σa.Row b 2 [.slice h2,.slice hr]:=(ka.keep b (by omega)).trans I.R
    have eb:=Zw Ra (by rw [ka.prot]; omega) (o:=1) (by simp) (v:=.slice hr') rfl
    obtain⟨σb,hb_⟩:∃ s,s=σa.setO b (.cells ([.slice h2,.slice hr].set 1 (.slice hr')) true 2):=⟨_,rfl⟩
    rw [<-hb_] at eb
    have Rb:σb.Row b 2 [.slice h2,.slice hr']:=by rw [hb_]; exact Store.Row.setO_eq Ra.lt
    have lab:σb.objs.length=σa.objs.length:=by rw [hb_]; simp
    have lka:=ka.len
    have fb:∀ x,x≠b->σb.objs[x]?=σa.objs[x]?:=fun x hx=>by
     rw [hb_]; show (σa.objs.set b _)[x]?=_
     rw [Qk,if_neg (Ne.symm hx)]
    have Kb:Kp b σ1 σb:=by rw [hb_]; exact (I.K.trans (ka.mono (by omega))).setO (Qe _)
    have Tb:σb.Ints h2 l:=Store.Sl.kp G1.ints (hb ▸ Kb)
    have rowlt:∀ x,row.row=some x->b+1<=x/\x<σ'.objs.length:=Zf I.g
    have Gb:Grow σb (b+1) row 1 (intsL r):=I.g.keepX fun x hx=>(fb x (by have:=rowlt x hx; omega)).trans (fa x (rowlt x hx).2 (I.ap x hx))
    have gb:Grow σb (b+1) hr' 1 ((hs++[row]).map QaY):=by
     rw [Qx]
     exact ga.keepX fun x hx=>fb x (by have:=(Zf ga x hx).1; omega)
    have hrlt:=Zf gb
    obtain⟨next,q,σc,e3,kc,gc,irq,lq⟩:=Zyy Rb Tb (show σb.Ints row r from Gb.sl) I.ir h0 hn (by rw [Kb.prot,K1.prot]; omega)
    obtain⟨n3,e3⟩:=Zc e3
    have apx:∀ x,x<σ'.objs.length->hr.row≠some x->hr'.row≠some x:=fun x hx hne e=>by
     rcases hra with r | r
     ·exact hne (r ▸ e)
     ·have:=r x e; omega
    refine .inl ⟨q.length,_,lq,⟨n3,fun kk hk=>?_⟩,k+1,next,q,hr',hs++[row],σc,rfl,rfl,⟨Kb.trans (kc.mono (by omega)),Rb.kp kc Rb.lt,Grow.mono gc (by omega),gb.kp kc,fun x hx e=>?_,by rw [Qm,I.hk]; rfl,irq,fun j hj=>?_⟩⟩
    ·have e3:=e3 kk hk
     simp only at e3
     have c:(0:Int)<row.len:=by omega
     have w2:Qa .i64 (((2^k:Nat):Int)*2)=((2^(k+1):Nat):Int):=by
      rw [QM]
      exact (fun (t:Nat) (ht:t<=131072)=>by rw [Za (by omega) (by omega)]; omega:∀ t:Nat,t<=131072->Qa .i64 ((t:Int)*2)=((t*2:Nat):Int)) (2^k) p1
     have fin:contFL Qb (gm Qb kk) QO kk Tryz.f132 [1,1,1,1,1,0,1,0] [7,5,4] [1,0,0,1,1,0,1,0] (Qw 4,[(8,.slice next),(7,.int .i64 (2^k:Nat)),(4,.ptr (some (b,0)))],σc)=some (.inl ([.int .i64 (2^(k+1):Nat),.slice next,.ptr (some (b,0))],σc)):=by
      rw [Zdm,w2]
     simp only [Zfe]
     simp only [decide_eq_true_eq,if_pos c,Qj,e0,Zbf,ea,eb,e3,fin]
    ·have:=(Zf gc x hx).1
     have:=(hrlt x e).2
     omega
    ·have lc:=kc.len
     by_cases d:j<k
     ·obtain⟨hj',rj,h1,h3,h4,h5⟩:=I.ent j d
      refine⟨hj',rj,by rw [Qp (by rw [I.hk]; exact d)]; exact h1,Store.Sl.kp (Zar h3 fun x hx=>?_) kc,h4,fun x hx=>?_⟩
      ·obtain⟨q1,q2,q3⟩:=h5 x hx
       exact (fb x (by omega)).trans (fa x q2 q3)
      ·obtain⟨q1,q2,q3⟩:=h5 x hx
       exact⟨q1,by omega,apx x q2 q3⟩
     ·have:j=k:=by omega
      subst this
      refine⟨row,r,by rw [Qn (by rw [I.hk]; exact Qe _),I.hk]; simp,Store.Sl.kp Gb.sl kc,I.ir,fun x hx=>?_⟩
      have:=rowlt x hx
      exact⟨this.1,by omega,apx x this.2 (I.ap x hx)⟩)
  r.length ([.int .i64 1,.slice row,.ptr (some (b,0))],σ3) ⟨0,row,r,Q3,[],σ3,rfl,rfl,I0⟩
 obtain⟨n2,e1⟩:=Zc e1
 obtain⟨n3,e2⟩:=Zc e2
 refine⟨some (b,0),σ4,rI Tryz.f132 ⟨n1+n2+n3,fun kk hk=>?_⟩,K1.trans (I.K.mono bn),fun σ'' kq=>⟨⟨b,h2,hr,hs,rfl,(kq b bn I.R.lt).trans I.R,Zar (show σ4.Ints h2 l from Store.Sl.kp G1.ints (hb ▸ I.K)) fun x hx=>kq x (Zf G1 x hx).1 (by have:=(Zf G1 x hx).2; have:=I.K.len; omega),Zar I.gr.sl fun x hx=>kq x (by have:=(Zf I.gr x hx).1; omega) (Zf I.gr x hx).2,fun j hj=>?_⟩,hn⟩⟩
 ·have r1:=r1 kk (by omega)
  have e1:=e1 kk (by omega)
  have e2:=e2 kk (by omega)
  simp only at r1 e1 e2
  have c:¬ (4194304:Int)<h.len:=by omega
  simp only [Z12]
  simp only [decide_eq_true_eq,if_neg c,r1,Qj,AV.asSl,<-hb,<-h2_,e1]
  rw [Zj6,e2,Qj,Zjj]
 ·have jk:j<k:=Nat.lt_of_not_le fun c=>by
   have:2^k<=2^j:=Qh (by omega) c
   have:=I.ir.len
   omega
  obtain⟨hj',rj,h1,h3,h4,h5⟩:=I.ent j jk
  exact⟨hj',rj,h1,Zar h3 fun x hx=>kq x (by have:=(h5 x hx).1; omega) (h5 x hx).2.1,h4⟩
end Go.Ab
