/- Lemmas. -/
import Derived.Test.YtekmpjgcmooppaaGreatAbIndexAgrees5
import Derived.Test.YtekmpjgcmooppaaGreatAbIndexAgrees1
import Derived.Shelf.SortM.Plain
import Derived.Shelf.SortM.SortNone
import Derived.Shelf.SlSortCmp.NoneTotal
import Derived.Lib.QuietBelow
import Derived.Test.YtekmpjgcmooppaaGreatAbIndexAgrees3
import Derived.Ground.SlgmProg
import Derived.OpenShut
import Derived.WideShapes
set_option linter.unusedVariables false
set_option linter.unusedSimpArgs false
open Go.Proofs.Tryz renaming prog->Qa
open List renaming getElem?_append_left->Qb,getElem?_append_right->Qg,getElem?_eq_getElem->Qi,length_append->Ql,getElem?_take->Qm,getElem?_drop->Qn,length_take->Qo,length_map->Qv,length_filter_le->Qw,getElem?_map->Q2,take_length->Q3,length_drop->Q5,length->QA
open Array renaming getElem?_mapIdx->Qc,getElem?_modify->Qj,eq_empty_of_size_eq_zero->Qp,getElem?_append_left->Qq,getElem?_eq_getElem->Qr
open Nat renaming le_refl->Qd,zero_add->Q0,le_add_right->Q4,add_assoc->Q7
open Option renaming isSome_none->Qe,bind_some->Qs,map_some->Q6,some->QB
open Bool renaming false_eq_true->Qf
open Go.Ab.AV renaming int->Qh,slice->Qx
open Go.IntKind renaming wrap->Qk
open Go.Ab.Store renaming push->Qu
open Go.Value renaming int->Qy
open Go.Ab renaming drawn->Qz,stepF->Q8
open Go.Ab.AX renaming exit->Q9
namespace Go.Ab
open Go Go.Proofs Go.Ab.Wd Go.Ab.Bs Go.Ab.Sai
theorem Zap{σ:Store}(hp:σ.prot<=σ.objs.length)(l:List AV)(es n:Nat)(c:Option Nat)(hn:0<n):Store.markOk (σ.push l es) ⟨some (σ.objs.length,0),n,c⟩=true:=by
 unfold Store.markOk
 have h0:Nat.beq n 0=false:=by cases n with | zero=>omega | succ n=>rfl
 have h1:(σ.push l es).objs[σ.objs.length]?=some (.cells l true es):=Store.Row.new
 simp only [h0,cond_false,h1]
 exact Nat.ble_eq_true_of_le hp
def D19:List (List Int):=[[98,97,110,97,110,97],[97,110,97,110,97,115],[110,97,98]]
theorem Zy8:Byts D19:=by unfold Byts D19; decide
theorem Zv7:okD D19:=by unfold okD D19; decide
theorem Z39:cntI D19 [97,110]=(2,4):=by decide +kernel
theorem Z50:topI D19 [97] 2=[(0,3),(1,3)]:=by decide +kernel
theorem Z1b:(prF [110,97,98] 0 D19).map (·.1)=[2]:=by decide +kernel
theorem Z05:(occP [98] 0 D19).length=2:=by decide +kernel
theorem Zex{σ:Store}{l:List Int}:Store.Nums .u8 (σ.push (numsL .u8 l) 1) ⟨some (σ.objs.length,0),l.length,some l.length⟩ l:=Store.Row.new.sl (by simp)
theorem Zr8{σ:Store}(hp:σ.prot<=σ.objs.length):∃ σ',Runs Qa 15 [] σ (.bool true) σ'/\Kp σ.objs.length σ σ':=by
 obtain⟨n,hn⟩:∃ n,n=σ.objs.length:=⟨_,rfl⟩
 obtain⟨s1,h1⟩:∃ s,s=σ.push [Qh .u8 98,Qh .u8 97,Qh .u8 110,Qh .u8 97,Qh .u8 110,Qh .u8 97] 1:=⟨_,rfl⟩
 obtain⟨s2,h2⟩:∃ s,s=s1.push [Qh .u8 97,Qh .u8 110,Qh .u8 97,Qh .u8 110,Qh .u8 97,Qh .u8 115] 1:=⟨_,rfl⟩
 obtain⟨s3,h3⟩:∃ s,s=s2.push [Qh .u8 110,Qh .u8 97,Qh .u8 98] 1:=⟨_,rfl⟩
 have l1:s1.objs.length=n+1:=by rw [h1,hn]; simp
 have l2:s2.objs.length=n+2:=by rw [h2]; simp [l1]
 have l3:s3.objs.length=n+3:=by rw [h3]; simp [l2]
 have p1:s1.prot=σ.prot:=by rw [h1]; rfl
 have p2:s2.prot=σ.prot:=by rw [h2]; exact p1
 have p3:s3.prot=σ.prot:=by rw [h3]; exact p2
 have m1:Store.markOk s1 ⟨some (n,0),6,some 6⟩=true:=by rw [h1,hn]; exact Zap hp _ _ _ _ (by omega)
 have m2:Store.markOk s2 ⟨some (n+1,0),6,some 6⟩=true:=by rw [h2,<-l1]; exact Zap (by omega) _ _ _ _ (by omega)
 have m3:Store.markOk s3 ⟨some (n+2,0),3,some 3⟩=true:=by rw [h3,<-l2]; exact Zap (by omega) _ _ _ _ (by omega)
 obtain⟨s4,h4⟩:∃ s,s=s3.push [Qx ⟨some (n,0),6,some 6⟩,Qx ⟨some (n+1,0),6,some 6⟩,Qx ⟨some (n+2,0),3,some 3⟩] 1:=⟨_,rfl⟩
 have l4:s4.objs.length=n+4:=by rw [h4]; simp [l3]
 have p4:s4.prot=σ.prot:=by rw [h4]; exact p3
 have k1:Kp n σ s1:=by rw [h1,hn]; exact Kp.push _ _ (Qd _)
 have k4:Kp n σ s4:=by rw [h4,h3,h2]; exact ((k1.push' (by omega)).push' (by simp [l1]; omega)).push' (by simp [l1]; omega)
 have R1:s1.Row n 1 (numsL .u8 [98,97,110,97,110,97]):=by rw [h1,hn]; exact Store.Row.new
 have R2:s2.Row (n+1) 1 (numsL .u8 [97,110,97,110,97,115]):=by rw [h2,<-l1]; exact Store.Row.new
 have R3:s3.Row (n+2) 1 (numsL .u8 [110,97,98]):=by rw [h3,<-l2]; exact Store.Row.new
 have R4:s4.Row (n+3) 1 [Qx ⟨some (n,0),6,some 6⟩,Qx ⟨some (n+1,0),6,some 6⟩,Qx ⟨some (n+2,0),3,some 3⟩]:=by rw [h4,<-l3]; exact Store.Row.new
 have S1:s4.Row n 1 (numsL .u8 [98,97,110,97,110,97]):=by rw [h4,h3,h2]; exact ((R1.push).push).push
 have S2:s4.Row (n+1) 1 (numsL .u8 [97,110,97,110,97,115]):=by rw [h4,h3]; exact (R2.push).push
 have S3:s4.Row (n+2) 1 (numsL .u8 [110,97,98]):=by rw [h4]; exact R3.push
 have Dc:Dcs s4 ⟨some (n+3,0),3,some 3⟩ D19:=⟨[⟨some (n,0),6,some 6⟩,⟨some (n+1,0),6,some 6⟩,⟨some (n+2,0),3,some 3⟩],R4.sl (by rfl),rfl,fun i d hi=>by
  match i,hi with
  | 0,hi=>simp [D19] at hi; subst hi; exact⟨_,rfl,S1.sl (by rfl)⟩
  | 1,hi=>simp [D19] at hi; subst hi; exact⟨_,rfl,S2.sl (by rfl)⟩
  | 2,hi=>simp [D19] at hi; subst hi; exact⟨_,rfl,S3.sl (by rfl)⟩
  | i+3,hi=>simp [D19] at hi⟩
 rcases Zmw Dc (by omega) (fun d hd=>by have:=Zwk hd; have:=Zv7.2; omega) Zy8 with ⟨_,p,s5,⟨n5,r5⟩,k5,pn,X5⟩ | ⟨bad,_⟩
 case inr=>exact absurd Zv7 bad
 have X5:=X5 s5 fun _ _ _=>rfl
 have lm5:=k5.len
 have p5:s5.prot=σ.prot:=k5.prot.trans p4
 obtain⟨s6,h6⟩:∃ s,s=s5.push [Qh .u8 97,Qh .u8 110] 1:=⟨_,rfl⟩
 have k6:Kp s5.objs.length s5 s6:=by rw [h6]; exact Kp.push _ _ (Qd _)
 have m6:Store.markOk s6 ⟨some (s5.objs.length,0),2,some 2⟩=true:=by rw [h6]; exact Zap (by omega) _ _ _ _ (by omega)
 have N6:Store.Nums .u8 s6 ⟨some (s5.objs.length,0),2,some 2⟩ [97,110]:=by rw [h6]; exact Zex (l:=[97,110])
 have lm6:=k6.len
 obtain⟨s7,⟨n7,r7⟩,k7⟩:=Zf1 (X5.kp k6) (by rw [k6.prot]; omega) N6 (by decide)
 rw [Z39,show errQ [97,110]=0 from by decide +kernel] at r7
 have lm7:=k7.len
 obtain⟨m,hm⟩:∃ m,m=s7.objs.length:=⟨_,rfl⟩
 have p7:s7.prot=σ.prot:=(k7.prot.trans k6.prot).trans p5
 have R7:(s7.push [.int .i64 0,.int .i64 0] 2).Row m 2 [.int .i64 0,.int .i64 0]:=by rw [hm]; exact Store.Row.new
 obtain⟨s8,t8,R8,l8,p8,o8⟩:=Zh1 R7 rfl (by show s7.prot<=m; omega) (u:=2) (v:=4)
 have k78:Kp m s7 s8:=⟨p8,by rw [l8]; simp,fun x hx=>by rw [o8 x (by omega)]; simp only [Qu]; rw [Qb (by omega)]⟩
 have X8:=((X5.kp k6).kp k7).kp (hm ▸ k78)
 have lm8:=k78.len
 have p8':s8.prot=σ.prot:=k78.prot.trans p7
 obtain⟨s9,h9⟩:∃ s,s=s8.push [Qh .u8 97] 1:=⟨_,rfl⟩
 have k9:Kp s8.objs.length s8 s9:=by rw [h9]; exact Kp.push _ _ (Qd _)
 have m9:Store.markOk s9 ⟨some (s8.objs.length,0),1,some 1⟩=true:=by rw [h9]; exact Zap (by omega) _ _ _ _ (by omega)
 have N9:Store.Nums .u8 s9 ⟨some (s8.objs.length,0),1,some 1⟩ [97]:=by rw [h9]; exact Zex (l:=[97])
 have lm9:=k9.len
 obtain⟨ht,s10,⟨n10,r10⟩,k10,G10⟩:=Zjp (X8.kp k9) (by rw [k9.prot]; omega) N9 (by decide) 2
 rw [if_neg (by decide)] at r10 G10
 rw [Z50] at G10
 have lm10:=k10.len
 have p10:s10.prot=σ.prot:=(k10.prot.trans k9.prot).trans p8'
 have X10:=(X8.kp k9).kp k10
 obtain⟨s11,h11⟩:∃ s,s=s10.push [Qh .u8 110,Qh .u8 97,Qh .u8 98] 1:=⟨_,rfl⟩
 have k11:Kp s10.objs.length s10 s11:=by rw [h11]; exact Kp.push _ _ (Qd _)
 have m11:Store.markOk s11 ⟨some (s10.objs.length,0),3,some 3⟩=true:=by rw [h11]; exact Zap (by omega) _ _ _ _ (by omega)
 have N11:Store.Nums .u8 s11 ⟨some (s10.objs.length,0),3,some 3⟩ [110,97,98]:=by rw [h11]; exact Zex (l:=[110,97,98])
 have lm11:=k11.len
 obtain⟨hl,s12,⟨n12,r12⟩,k12,G12⟩:=Znb (X10.kp k11) (by rw [k11.prot]; omega) N11 (by decide)
 rw [if_neg (by decide),Z1b] at G12
 rw [show errQ [110,97,98]=0 from by decide +kernel] at r12
 have lm12:=k12.len
 have p12:s12.prot=σ.prot:=(k12.prot.trans k11.prot).trans p10
 have X12:=(X10.kp k11).kp k12
 obtain⟨s13,⟨n13,r13⟩,k13⟩:=Zf1 (h:=Hdl.nil) (q:=[]) X12 (by omega) (Z0d _ _) (by simp)
 rw [show cntI D19 []=(0,0) from by decide +kernel,show errQ []=210 from by decide +kernel] at r13
 have lm13:=k13.len
 have p13:s13.prot=σ.prot:=k13.prot.trans p12
 have R13:(s13.push [.int .i64 0,.int .i64 0] 2).Row s13.objs.length 2 [.int .i64 0,.int .i64 0]:=Store.Row.new
 obtain⟨s14,t14,R14,l14,p14,o14⟩:=Zh1 R13 rfl (by show s13.prot<=_; omega) (u:=0) (v:=0)
 have k14:Kp s13.objs.length s13 s14:=⟨p14,by rw [l14]; simp,fun x hx=>by rw [o14 x (by omega)]; simp only [Qu]; rw [Qb (by omega)]⟩
 have lm14:=k14.len
 have p14':s14.prot=σ.prot:=k14.prot.trans p13
 have X14:=(X12.kp k13).kp k14
 obtain⟨s15,h15⟩:∃ s,s=s14.push [Qh .u8 98] 1:=⟨_,rfl⟩
 have k15:Kp s14.objs.length s14 s15:=by rw [h15]; exact Kp.push _ _ (Qd _)
 have m15:Store.markOk s15 ⟨some (s14.objs.length,0),1,some 1⟩=true:=by rw [h15]; exact Zap (by omega) _ _ _ _ (by omega)
 have N15:Store.Nums .u8 s15 ⟨some (s14.objs.length,0),1,some 1⟩ [98]:=by rw [h15]; exact Zex (l:=[98])
 have lm15:=k15.len
 obtain⟨hq,s16,⟨n16,r16⟩,k16,G16⟩:=Ziy (Zyu 12 (by omega)) (X14.kp k15) (by rw [k15.prot]; omega) N15 (by decide) (by rw [Z05]; omega)
 rw [if_neg (by decide)] at G16
 have lq:=Zad G16.sl
 rw [Z05] at lq
 have lm16:=k16.len
 have p16:s16.prot=σ.prot:=(k16.prot.trans k15.prot).trans p14'
 have k816:Kp s8.objs.length s8 s16:=(((((((k9.trans (k10.mono (by omega))).trans (k11.mono (by omega))).trans (k12.mono (by omega))).trans (k13.mono (by omega))).trans (k14.mono (by omega))).trans (k15.mono (by omega))).trans (k16.mono (by omega)))
 have R16:=R8.kp k816 R8.lt
 obtain⟨f0,f1⟩:=ld2 R16
 have k1016:Kp s10.objs.length s10 s16:=(((((k11.trans (k12.mono (by omega))).trans (k13.mono (by omega))).trans (k14.mono (by omega))).trans (k15.mono (by omega))).trans (k16.mono (by omega)))
 obtain⟨s17,h17⟩:∃ s,s=s16.push [.int .i64 0,.int .i64 3,.int .i64 1,.int .i64 3] 2:=⟨_,rfl⟩
 have k17:Kp s16.objs.length s16 s17:=by rw [h17]; exact Kp.push _ _ (Qd _)
 have P17:s17.Sl ⟨some (s16.objs.length,0),2,some 2⟩ 2 (pairsL [(0,3),(1,3)]):=by rw [h17]; exact Store.Row.new.sl (by rfl)
 have T17:s17.Sl ht 2 (pairsL [(0,3),(1,3)]):=((G10.sl).kp k1016).kp k17
 obtain⟨n17,r17⟩:=Zk9 T17 P17 (by simp)
 have k1216:Kp s12.objs.length s12 s16:=(((k13.trans (k14.mono (by omega))).trans (k15.mono (by omega))).trans (k16.mono (by omega)))
 obtain⟨s18,h18⟩:∃ s,s=s17.push [.int .i64 2] 1:=⟨_,rfl⟩
 have lm17:=k17.len
 have k18:Kp s17.objs.length s17 s18:=by rw [h18]; exact Kp.push _ _ (Qd _)
 have I18:s18.Ints ⟨some (s17.objs.length,0),1,some 1⟩ [2]:=by rw [h18]; exact Store.Row.new.sl (by rfl)
 have L18:s18.Ints hl [2]:=Store.Sl.kp (Store.Sl.kp (Store.Sl.kp G12.ints k1216) k17) k18
 obtain⟨n18,r18⟩:=Z0p L18 I18 (by simp)
 rw [decide_eq_true rfl] at r18
 have lm18:=k18.len
 refine⟨s18,rI Tryz.f15 ⟨n5+n7+n10+n12+n13+n16+n17+n18,fun k hk=>?_⟩,hn ▸ ?_⟩
 ·have r5:=r5 k (by omega)
  have r7:=r7 k (by omega)
  have r10:=r10 k (by omega)
  have r12:=r12 k (by omega)
  have r13:=r13 k (by omega)
  have r16:=r16 k (by omega)
  have r17:=r17 k (by omega)
  have r18:=r18 k (by omega)
  simp only at r5 r7 r10 r12 r13 r16 r17 r18
  rw [show errQ [98]=0 from by decide +kernel] at r16
  simp only [Z4h]
  simp only [<-h1,<-hn,m1,if_true,l1,<-h2,m2,l2,<-h3,m3,l3,<-h4]
  simp only [stp,r5,pn,<-h6,m6,r7,AV.aggAt,<-hm,t8,<-h9,m9,r10,<-h11,m11,r12,r13,t14,<-h15,m15,r16,f0,f1,<-h17,r17,<-h18,r18,lq]
  rfl
 ·exact ((((((((k4.trans (k5.mono (by omega))).trans (k6.mono (by omega))).trans (k7.mono (by omega))).trans (k78.mono (by omega))).trans (k816.mono (by omega)))).trans (k17.mono (by omega))).trans (k18.mono (by omega)))
end Go.Ab

namespace Go.Ab
open Go Go.Proofs Go.Ab.Wd Go.Ab.Bs Go.Ab.Sai
theorem Zyp{σ:Store}{h:Hdl}{D:List (List Int)}(A:Dcs σ h D)(b c:Nat)(hb:b<2^40)(hc:c<2^40):Runs Qa 16 [.slice h,.int .i64 b,.int .i64 c] σ (.bool (smallB D b c)) σ:=by
 have ld:=A.len
 by_cases c0:c<D.length
 ·unfold smallB
  rw [decide_eq_false (by omega:¬ D.length<=c),Bool.false_and]
  refine rI Tryz.f16 (Ev.of fun k=>?_)
  simp only [Zpu]
  simp only [stp,show (c:Int)<(h.len:Int) by omega]
 ·exact Zyq A (by omega) b c hb
theorem Z3v{σ:Store}{h:Hdl}{D:List (List Int)}(r:Rws .u8 σ h D):Dcs σ h D/\Byts D:=by
 obtain⟨hs,s,l,g⟩:=r.ex
 refine⟨⟨hs,s,l,fun i d hd=>?_⟩,fun d hd x hx=>?_⟩
 ·obtain⟨g1,e,n,_⟩:=g i d hd; exact⟨g1,e,n⟩
 ·have:=r.wf d hd x hx
  have e1:IntKind.min .u8=0:=by decide
  have e2:IntKind.max .u8=255:=by decide
  omega
theorem Z37{q:List Int}(hw:∀ n∈q,IntKind.min .u8<=n/\n<=IntKind.max .u8):∀ x∈q,(0:Int)<=x/\x<256:=fun x hx=>by
 have:=hw x hx
 have e1:IntKind.min .u8=0:=by decide
 have e2:IntKind.max .u8=255:=by decide
 omega
section
variable {σ:Store} {h h':Hdl} {D:List (List Int)} {q:List Int}
end
end Go.Ab

namespace Go.Ab
open Go Go.Proofs Go.Ab.Wd Go.Ab.Bs Go.Ab.Sai
section
variable {σ:Store} {h h':Hdl} {d q:List Int} {D:List (List Int)}
end
end Go.Ab

namespace Go.Ab
open Go Go.Proofs Go.Ab.Wd Go.Ab.Bs Go.Ab.Sai
section
variable {σ:Store} {h:Hdl} {D:List (List Int)}
end
end Go.Ab

namespace Go.Ab
open Go Go.Proofs Go.Ab.Wd Go.Ab.Bs Go.Ab.Sai
theorem Ztp(q:List Int):∀ (D:List (List Int)) (i:Int),(occP q i D).length<=tot D
 | [],_=>Qd _
 | d::r,i=>by
  simp only [occP,tot,Ql,Qv]
  have h1:=Ztp q r (i+1)
  have h2:(occ d q).length<=d.length+1:=Nat.le_trans (Qw _ _) (by rw [Zv]; exact Qd _)
  omega
section
variable {σ:Store} {p:Ptr} {h h':Hdl} {D:List (List Int)} {q:List Int}
end
end Go.Ab

namespace Go.Ab
open Go Go.Proofs Go.Ab.Wd Go.Ab.Bs Go.Ab.Sai
section
variable {σ:Store} {h h':Hdl} {D:List (List Int)} {q:List Int}
end
end Go.Ab

namespace Go.Ab
open Go Go.Proofs Go.Ab.Wd Go.Ab.Bs Go.Ab.Sai
def sm:List (Int×Int)->Int
 | []=>0
 | x::l=>x.2+sm l
theorem Z3z{a b:List (Int×Int)}(p:a.Perm b):sm a=sm b:=by
 induction p with
 | nil=>rfl
 | cons x _ ih=>simp only [sm,ih]
 | swap x y l=>simp only [sm]; omega
 | trans _ _ a b=>exact a.trans b
theorem Zyn(a b:List (Int×Int)):sm (a++b)=sm a+sm b:=by
 induction a with
 | nil=>simp [sm]
 | cons x l ih=>simp only [List.cons_append,sm,ih]; omega
theorem Zyo(q:List Int):∀ (D:List (List Int)) (i:Int),sm (prF q i D)=(occP q i D).length
 | [],_=>rfl
 | d::r,i=>by
  have ih:=Zyo q r (i+1)
  simp only [prF,occP,Ql,Qv]
  split
  ·rename_i c
   have:(occ d q).length=0:=c
   omega
  ·simp only [sm,ih,tms]; omega
theorem Zrm:∀ {l:List (Int×Int)},(∀ x∈l,0<x.2)->0<=sm l
 | [],_=>Int.le_refl _
 | x::l,h=>by
  have:=Zrm (l:=l) fun y hy=>h y (by simp [hy])
  have:=h x (by simp)
  simp only [sm]; omega
theorem Zt6{l:List (Int×Int)}(h:∀ x∈l,0<x.2)(i:Nat):0<=sm (l.take i)/\sm (l.take i)<=sm l:=by
 have e:=Zyn (l.take i) (l.drop i)
 rw [List.take_append_drop] at e
 have a:=Zrm (l:=l.take i) fun x hx=>h x (List.mem_of_mem_take hx)
 have b:=Zrm (l:=l.drop i) fun x hx=>h x (List.mem_of_mem_drop hx)
 omega
def inD(v:Int)(l:List (Int×Int)):Nat:=(l.filter fun y=>decide (y.1=v)).length
theorem Ztg(v:Int)(a b:List (Int×Int)):inD v (a++b)=inD v a+inD v b:=by simp [inD]
theorem Z47(v:Int)(l:List (Int×Int)):inD v l<=l.length:=Qw _ _
theorem Zjm{v:Int}{l:List (Int×Int)}(h:∀ y∈l,y.1≠v):inD v l=0:=by
 unfold inD; rw [List.filter_eq_nil_iff.2 fun y hy=>by simpa using h y hy]; rfl
theorem Z3a{v:Int}{l:List (Int×Int)}(h:∀ y∈l,y.1=v):inD v l=l.length:=by
 unfold inD; rw [List.filter_eq_self.2 fun y hy=>by simpa using h y hy]
theorem Zjn{q:List Int}:∀ {D:List (List Int)} {i:Int} {x:Int×Int},x∈prF q i D->(inD x.1 (occP q i D):Int)=x.2
 | [],_,_,h=>by simp [prF] at h
 | d::r,i,x,h=>by
  simp only [occP,Ztg]
  simp only [prF] at h
  split at h
  ·rename_i c
   have:occ d q=[]:=List.eq_nil_of_length_eq_zero c
   rw [this,List.map_nil,Zjm (l:=[]) (by simp),Q0]
   exact Zjn h
  ·rcases List.mem_cons.1 h with rfl | h
   ·rw [Z3a (by simp),Zjm (l:=occP q (i+1) r) (fun y hy=>by have:=Zcj hy; simp only; omega)]
    simp [tms]
   ·have hr:=Zfl h
    rw [Zjm (l:=(occ d q).map _) (fun y hy=>by obtain⟨o,_,rfl⟩:=List.mem_map.1 hy; simp only; omega),Q0]
    exact Zjn h
theorem Z5v(x:Int):∃ v:Nat,Qk .i64 (1+Qk .i64 (Int.tmod (Qk .u64 x) 20))=v/\1<=v/\v<=20:=by
 rw [Z5y,Int.tmod_eq_emod_of_nonneg (by omega)]
 have h2:=Int.emod_nonneg (x % 18446744073709551616) (show (20:Int)≠0 by omega)
 have h3:=Int.emod_lt_of_pos (x % 18446744073709551616) (show (0:Int)<20 by omega)
 generalize x % 18446744073709551616 % (20:Int)=v at *
 rw [Za (x:=v) (by omega) (by omega),Za (by omega) (by omega)]
 exact⟨(1+v).toNat,by omega,by omega,by omega⟩
theorem Zmf{σ:Store}(hp:σ.prot<=σ.objs.length)(u v:Int):∃ σ',(σ.push [.int .i64 0,.int .i64 0] 2).stL (some (σ.objs.length,0)) [.int .i64 u,.int .i64 v] 0=some σ'/\σ'.Row σ.objs.length 2 [.int .i64 u,.int .i64 v]/\Kp σ.objs.length σ σ'/\σ'.objs.length=σ.objs.length+1:=by
 obtain⟨σ',t,R,l,q,o⟩:=Zh1 (σ:=σ.push [.int .i64 0,.int .i64 0] 2) Store.Row.new rfl hp (u:=u) (v:=v)
 exact⟨σ',t,R,⟨q,by rw [l]; simp [Qu],fun x hx=>by rw [o x (by omega)]; simp only [Qu]; rw [Qb (by omega)]⟩,by rw [l]; simp [Qu]⟩
section
variable {σ:Store} {h h':Hdl} {D:List (List Int)} {q:List Int}
theorem Zy9{hP hT:Hdl}{P:List (Int×Int)}{m0:Nat}{u v a b c:Int}{pp:Ptr}(hp:σ.prot<=σ.objs.length)(SP:σ.Sl hP 2 (pairsL P))(R:σ.Row m0 2 [.int .i64 u,.int .i64 v])(lp:P.length<2^40) :
  ∃ σ',EvI (fun k s=>Q8 Qa (gm Qa k) Qz k Tryz.f6 [1,1,1,1,1,1,1,1,1,1,1,1,0,1,0,0,1,1,0,0,1,1,1,0,1,0] [119,118,117,109,108,107,23,22,20,15,9] s)
   ([.int .i64 0,.int .i64 P.length,.slice hP,.int .i64 a,.int .i64 b,.slice hT,.int .i64 0,.ptr (some (m0,0)),.int .i64 c,.slice hP,.ptr pp],σ)
   (Q9 2,[(109,.int .i64 a),(108,.int .i64 b),(107,.slice hT),(23,.int .i64 (inD u P)),(22,.ptr (some (m0,0))),(20,.int .i64 c),(15,.slice hP),(9,.ptr pp)],σ')/\Kp σ.objs.length σ σ':=by
 have lP:=Zad SP
 obtain⟨r,e,σ',rfl,k⟩:=EvI.up (f:=fun k s=>Q8 Qa (gm Qa k) Qz k Tryz.f6 [1,1,1,1,1,1,1,1,1,1,1,1,0,1,0,0,1,1,0,0,1,1,1,0,1,0] [119,118,117,109,108,107,23,22,20,15,9] s) P.length
  (fun j s=>∃ s1,s=([.int .i64 j,.int .i64 P.length,.slice hP,.int .i64 a,.int .i64 b,.slice hT,.int .i64 (inD u (P.take j)),.ptr (some (m0,0)),.int .i64 c,.slice hP,.ptr pp],s1)/\Kp σ.objs.length σ s1)
  (fun r=>∃ s1,r=(Q9 2,[(109,.int .i64 a),(108,.int .i64 b),(107,.slice hT),(23,.int .i64 (inD u P)),(22,.ptr (some (m0,0))),(20,.int .i64 c),(15,.slice hP),(9,.ptr pp)],s1)/\Kp σ.objs.length σ s1)
  (by
   rintro j s hj ⟨s1,rfl,K⟩
   obtain⟨⟨x,y⟩,hxy⟩:∃ z,P[j]?=some z:=⟨_,Qi hj⟩
   have S1:=Store.Sl.kp SP K
   obtain⟨i0,i1⟩:=Zea S1 hxy
   have p1:s1.prot<=s1.objs.length:=by have:=K.prot; have:=K.len; omega
   obtain⟨s2,t2,R2,k2,l2⟩:=Zmf p1 x y
   obtain⟨f0,f1⟩:=ld2 R2
   obtain⟨g0,g1⟩:=ld2 ((R.kp K R.lt).kp k2 (by have:=R.lt; have:=K.len; omega))
   have w:=Zq hj (by omega)
   have tk:inD u (P.take (j+1))=inD u (P.take j)+if x=u then 1 else 0:=by
    rw [Zae hxy,Ztg]; unfold inD; simp only [List.filter_cons,List.filter_nil]
    by_cases hc:x=u <;> simp [hc]
   have ib:=Z47 u (P.take j)
   rw [Qo] at ib
   refine⟨_,Ev.of fun k=>?_,s2,rfl,K.all k2⟩
   simp only [Zan]
   rw [tk]
   by_cases hc:x=u
   ·have w2:Qk .i64 ((inD u (P.take j):Int)+1)=((inD u (P.take j)+1:Nat):Int):=by rw [Za (by omega) (by omega)]; omega
    simp only [stp,show (j:Int)<(P.length:Int) by omega,show (0:Int)<=(j:Int) by omega,show (j:Int)<(hP.len:Int) by omega,i0,i1,t2,f0,g0,if_pos hc,w,w2]
   ·simp only [stp,show (j:Int)<(P.length:Int) by omega,show (0:Int)<=(j:Int) by omega,show (j:Int)<(hP.len:Int) by omega,i0,i1,t2,f0,g0,hc,w,Nat.add_zero])
  (by
   rintro s ⟨s1,rfl,K⟩
   rw [Q3]
   refine⟨_,Ev.of fun k=>?_,s1,rfl,K⟩
   simp only [Zan]
   simp only [stp,show ¬ ((P.length:Int)<(P.length:Int)) by omega])
  (s:=([.int .i64 0,.int .i64 P.length,.slice hP,.int .i64 a,.int .i64 b,.slice hT,.int .i64 0,.ptr (some (m0,0)),.int .i64 c,.slice hP,.ptr pp],σ)) ⟨σ,by simp [inD],Kp.refl _ _⟩
 exact⟨σ',e,k⟩
theorem law_IndexAgrees(hR:Rws .u8 σ h D)(hT:Store.Nums .u8 σ h' q)(hH:σ.Has h')(hn:q.length<2^48)(hw:∀ n∈q,IntKind.min .u8<=n/\n<=IntKind.max .u8){kq:Int}(hk:IntKind.min .i64<=kq/\kq<=IntKind.max .i64)(hp:σ.prot<=σ.objs.length) :
  ∃ σ',Runs Qa 6 [.slice h,.slice h',.int .i64 kq] σ (.bool true) σ':=by
 obtain⟨dc,hb⟩:=Z3v hR
 have A:Args σ h h' D q:=⟨dc,hT,hb,Z37 hw⟩
 have lq:=Zak hT
 obtain⟨s1,⟨n1,r1⟩,k1⟩:=Zr8 hp
 have A1:=A.kp k1
 have p1:s1.prot<=s1.objs.length:=by have:=k1.prot; have:=k1.len; omega
 obtain⟨n2,r2⟩:Runs Qa 16 [.slice h,.int .i64 3000,.int .i64 256] s1 (.bool (smallB D 3000 256)) s1:=Zyp A1.dcs 3000 256 (by omega) (by omega)
 cases cs:smallB D 3000 256 with
 | false=>
  rw [cs] at r2
  refine⟨s1,rI Tryz.f6 ⟨n1+n2,fun k hk=>?_⟩⟩
  have r1:=r1 k (by omega)
  have r2:=r2 k (by omega)
  simp only at r1 r2
  simp only [Zu0]
  simp only [stp,r1,r2]
 | true=>
 rw [cs] at r2
 obtain⟨n3,r3⟩:=Zf2 A1.nq
 by_cases cq:q≠[]/\q.length<=256
 case neg=>
  rw [decide_eq_false cq] at r3
  refine⟨s1,rI Tryz.f6 ⟨n1+n2+n3,fun k hk=>?_⟩⟩
  have r1:=r1 k (by omega)
  have r2:=r2 k (by omega)
  have r3:=r3 k (by omega)
  simp only at r1 r2 r3
  simp only [Zu0]
  simp only [stp,r1,r2,r3]
 rw [decide_eq_true cq] at r3
 have cn:¬ (q=[]\/256<q.length):=fun hh=>hh.elim cq.1 (by omega)
 simp only [smallB,Bool.and_eq_true,decide_eq_true_eq] at cs
 rcases Zmw A1.dcs p1 (fun d hd=>by have:=Zwk hd; omega) hb with ⟨_,p,s2,⟨n4,r4⟩,k2,pn,X2⟩ | ⟨bad,_⟩
 case inr=>exact absurd ⟨cs.1,by omega⟩ bad
 have X2:=X2 s2 fun _ _ _=>rfl
 have A2:=A1.kp k2
 have p2:s2.prot<=s2.objs.length:=by have:=k2.prot; have:=k2.len; omega
 obtain⟨s3,⟨n5,r5⟩,k3⟩:=Zf1 X2 p2 A2.nq A2.bq
 have e1:errQ q=0:=if_neg cn
 have v1:(cntI D q).1=(prF q 0 D).length:=by unfold cntI; rw [if_neg cn]
 have v2:(cntI D q).2=(occP q 0 D).length:=by unfold cntI; rw [if_neg cn]
 rw [e1,v1,v2] at r5
 have lm3:=k3.len
 have p3:s3.prot<=s3.objs.length:=by have:=k3.prot; omega
 obtain⟨m,hm⟩:∃ m,m=s3.objs.length:=⟨_,rfl⟩
 obtain⟨s4,t4,R4,k4,l4⟩:=Zmf p3 ((prF q 0 D).length:Int) ((occP q 0 D).length:Int)
 rw [<-hm] at t4 R4
 have A4:=(A2.kp k3).kp k4
 have X4:=(X2.kp k3).kp k4
 have lm4:=k4.len
 have p4:s4.prot<=s4.objs.length:=by have:=k4.prot; omega
 obtain⟨hl,s5,⟨n6,r6⟩,k5,G5⟩:=Znb X4 p4 A4.nq A4.bq
 have lm5:=k5.len
 have A5:=A4.kp k5
 have X5:=X4.kp k5
 have p5:s5.prot<=s5.objs.length:=by have:=k5.prot; omega
 obtain⟨hT,s6,⟨n7,r7⟩,k6,G6⟩:=Zjp X5 p5 A5.nq A5.bq 300
 have lm6:=k6.len
 have A6:=A5.kp k6
 have X6:=X5.kp k6
 have p6:s6.prot<=s6.objs.length:=by have:=k6.prot; omega
 have tb:=Zbb D
 have ol:=Ztp q D 0
 obtain⟨hP,s7,⟨n8,r8⟩,k7,G7⟩:=Ziy (Zyu 4000 (by omega)) X6 p6 A6.nq A6.bq (by omega)
 have lm7:=k7.len
 have A7:=A6.kp k7
 have X7:=X6.kp k7
 have p7:s7.prot<=s7.objs.length:=by have:=k7.prot; omega
 obtain⟨nn,hnn,nn1,nn2⟩:=Z5v kq
 obtain⟨hU,s8,⟨n9,r9⟩,k8,G8⟩:=Zjp X7 p7 A7.nq A7.bq nn
 have lm8:=k8.len
 have p8:s8.prot<=s8.objs.length:=by have:=k8.prot; omega
 have pf:=Ztx (q:=q) D 0
 rw [if_neg (fun hh=>hh.elim cn (by omega))] at G6 r7 G8 r9
 rw [if_neg cn] at G5 G7
 rw [e1] at r6 r8
 obtain⟨L,hL⟩:∃ L,L=rk (prF q 0 D):=⟨_,rfl⟩
 have pL:L.Perm (prF q 0 D):=by rw [hL]; exact Zdw _
 have lL:L.length=(prF q 0 D).length:=pL.length_eq
 have eT:topI D q 300=L:=by unfold topI; rw [<-hL]; exact List.take_of_length_le (by show L.length<=300; omega)
 have eU:topI D q nn=L.take nn:=by unfold topI; rw [<-hL]; rfl
 rw [eT] at G6
 rw [eU] at G8
 obtain⟨P,hPP⟩:∃ P,P=occP q 0 D:=⟨_,rfl⟩
 rw [<-hPP] at G7 r5 t4 R4 ol
 have ll:=Zad G6.sl
 have lp:=Zad G7.sl
 have lli:=G5.ints.ilen
 rw [Qv] at lli
 have GT:=(G6.kp k7).kp k8
 have SP8:s8.Sl hP 2 (pairsL P):=Store.Sl.kp G7.sl k8
 obtain⟨hC,ec,GC,_⟩:=Znu GT (m:=min nn L.length) (by omega)
 rw [<-List.take_eq_take_min] at GC
 have mn:mn2 (nn:Int) (hT.len:Int)=((min nn L.length:Nat):Int):=by rw [Zbw]; omega
 obtain⟨n10,r10⟩:=Zk9 G8.sl GC.sl (by rw [Qo]; omega)
 have R8:=(((R4.kp k5 (by have:=R4.lt; omega)).kp k6 (by have:=R4.lt; omega)).kp k7 (by have:=R4.lt; omega)).kp k8 (by have:=R4.lt; omega)
 obtain⟨f0,f1⟩:=ld2 R8
 have posL:∀ x∈L,0<x.2:=fun x hx=>(Zfl (pL.mem_iff.1 hx)).2.2
 have sL:sm L=(P.length:Int):=by rw [Z3z pL,Zyo,hPP]
 have ST8:s8.Sl hT 2 (pairsL L):=GT.sl
 obtain⟨r,e,s9,rfl,K9⟩:=EvI.up (f:=fun k s=>Q8 Qa (gm Qa k) Qz k Tryz.f6 [1,1,1,1,1,1,1,1,1,1,1,1,0,1,0] [109,108,107,20,15,9] s) L.length
  (fun i s=>∃ s1,s=([.int .i64 i,.int .i64 L.length,.slice hT,.int .i64 (sm (L.take i)),.slice hP,.ptr (some (m,0))],s1)/\Kp s8.objs.length s8 s1)
  (fun r=>∃ s1,r=(Q9 0,[(20,.int .i64 (sm L)),(9,.ptr (some (m,0)))],s1)/\Kp s8.objs.length s8 s1)
  (by
   rintro i s hi ⟨s1,rfl,K⟩
   obtain⟨⟨u,v⟩,huv⟩:∃ z,L[i]?=some z:=⟨_,Qi hi⟩
   obtain⟨i0,i1⟩:=Zea (Store.Sl.kp ST8 K) huv
   have q1:s1.prot<=s1.objs.length:=by have:=K.prot; have:=K.len; omega
   obtain⟨s2,t2,R2,k2,l2⟩:=Zmf q1 u v
   obtain⟨g0,g1⟩:=ld2 R2
   have tk:sm (L.take (i+1))=sm (L.take i)+v:=by rw [Zae huv,Zyn]; simp [sm]
   have b1:=Zt6 posL i
   have b2:=Zt6 posL (i+1)
   have w2:Qk .i64 (sm (L.take i)+v)=sm (L.take (i+1)):=by rw [tk]; exact Za (by omega) (by omega)
   have q2:s2.prot<=s2.objs.length:=by have:=k2.prot; have:=k2.len; omega
   have K2:=K.all k2
   obtain⟨s3,⟨⟩,k3⟩:=Zy9 (hT:=hT) (a:=(i:Int)) (b:=(L.length:Int)) (c:=sm (L.take (i+1))) (pp:=some (m,0)) q2 (Store.Sl.kp SP8 K2) R2 (by omega)
   rename_i n11 e
   obtain⟨n11,e⟩:=Zc ⟨n11,e⟩
   have inn:(inD u P:Int)=v:=by
    have:=Zjn (x:=(u,v)) (pL.mem_iff.1 (List.mem_of_getElem? huv))
    rw [hPP]; exact this
   obtain⟨h0,h1⟩:=ld2 (R2.kp k3 R2.lt)
   have w:=Zq hi (by omega)
   refine⟨_,⟨n11,fun k hk=>?_⟩,s3,rfl,K2.all k3⟩
   have e:=e k hk
   simp only at e
   simp only [Zco]
   simp only [stp,show (i:Int)<(L.length:Int) by omega,show (0:Int)<=(i:Int) by omega,show (i:Int)<(hT.len:Int) by omega,i0,i1,t2,g1,w2,show (hP.len:Int)=(P.length:Int) by omega,e]
   rw [Zb5]
   simp only [stp,h1,inn,w])
  (by
   rintro s ⟨s1,rfl,K⟩
   rw [Q3]
   refine⟨_,Ev.of fun k=>?_,s1,rfl,K⟩
   simp only [Zco]
   simp only [stp,show ¬ ((L.length:Int)<(L.length:Int)) by omega])
  (s:=([.int .i64 0,.int .i64 L.length,.slice hT,.int .i64 0,.slice hP,.ptr (some (m,0))],s8)) ⟨s8,rfl,Kp.refl _ _⟩
 obtain⟨n11,e⟩:=Zc e
 obtain⟨h0,h1⟩:=ld2 (R8.kp K9 R8.lt)
 refine⟨s9,rI Tryz.f6 ⟨n1+n2+n3+n4+n5+n6+n7+n8+n9+n10+n11,fun k hk=>?_⟩⟩
 have r1:=r1 k (by omega)
 have r2:=r2 k (by omega)
 have r3:=r3 k (by omega)
 have r4:=r4 k (by omega)
 have r5:=r5 k (by omega)
 have r6:=r6 k (by omega)
 have r7:=r7 k (by omega)
 have r8:=r8 k (by omega)
 have r9:=r9 k (by omega)
 have r10:=r10 k (by omega)
 have e:=e k (by omega)
 simp only at r1 r2 r3 r4 r5 r6 r7 r8 r9 r10 e
 simp only [Zu0]
 simp only [stp,r1,r2,r3,r4,r5,AV.aggAt,<-hm,t4,r6,r7,r8,hnn,r9,f0,f1,show (hl.len:Int)=((prF q 0 D).length:Int) by omega,show (hT.len:Int)=((prF q 0 D).length:Int) by omega,show (hP.len:Int)=(P.length:Int) by omega]
 have mn:mn2 (nn:Int) ((prF q 0 D).length:Int)=((min nn L.length:Nat):Int):=by rw [Zbw]; omega
 rw [<-lL] at *
 simp only [stp,mn,ec,r10,e]
 rw [Zfh]
 simp only [stp,h1,sL]
end
end Go.Ab

namespace Go.Ab
open Go Go.Proofs Go.Sort
theorem Zv1{P:Program}{s:Nat}{fn:Func}(hf:P.funcs[s]?=some fn)(hn:(fn.name == "runtime.NumGoroutine")=false)(hb:fn.body.isNone=false)
  (h1:∀ (blk off cap:Nat) (zs:List Int) (w:World),Holds (Qy .i64) w blk off zs.toArray->blk<w.heap.size->zs.length<4611686018427387904 ->
   Calls P s #[.slice (some ⟨blk,off,none⟩) zs.length cap] w fun e w'=>e=.returned (.tuple #[])/\∃ n os,w'=grow (putRow (Qy .i64) (Sort.ahead w n) blk off (zs.mergeSort fun x y=>decide (x<=y)).toArray) os)
  (h0:∀ (p:Option Addr) (cap:Nat) (w:World),Calls P s #[.slice p 0 cap] w fun e w'=>e=.returned (.tuple #[])/\w'=w):SpS P (sortSp s)/\SpK (sortSp s):=by
 constructor
 ·intro g f e args σ v σ' h
  obtain⟨rfl,rfl⟩:=Zlg e
  refine⟨fun cargs w=>Zbn hf hn hb cargs w,fun μ w cargs hR hv=>?_⟩
  obtain⟨hd,rfl,rfl,hc⟩:=Zn1 h
  obtain⟨c,hc1⟩:∃ c,cargs=#[c]:=by
   have:=hv.1
   simp at this
   obtain⟨l⟩:=cargs
   match l,this with
   | [c],_=>exact⟨c,rfl⟩
  subst hc1
  have hv1:VR μ (.slice hd) c:=hv.2 0 _ _ rfl rfl
  rcases hc with ⟨e0,rfl⟩ | ⟨b,o,cs,zs,ha,ho,hz,hp,hl,h62,hpos,rfl⟩
  ·have:∃ p cap,c=.slice p 0 cap:=by
    cases hv1 with
    | slN h=>exact⟨_,_,rfl⟩
    | sl h hc hl hN=>simp at e0; subst e0; exact⟨_,_,rfl⟩
    | sl0 h=>exact⟨_,_,rfl⟩
   obtain⟨p,cap,rfl⟩:=this
   refine (h0 p cap w).mono ?_
   rintro e w' ⟨rfl,rfl⟩
   exact⟨μ,_,rfl,.tuple (by simp) (by simp),Ste.refl hR⟩
  ·have:∃ L cap,μ b=some L/\c=.slice (some ⟨L.blk,L.off+o,none⟩) hd.len cap:=by
    cases hv1 with
    | slN h=>cases ha
    | sl hm hc hl hN=>simp at ha; obtain⟨rfl,rfl⟩:=ha; exact⟨_,_,hm,rfl⟩
    | sl0 h=>simp at hpos
   obtain⟨L,cap,hL,rfl⟩:=this
   have hzl:zs.length=hd.len:=by
    have:=congrArg QA hz
    simp at this; omega
   obtain⟨ce,ty,fz,hblk,hsz,htw⟩:=hR.rw b cs 1 L ho hL
   obtain⟨_,hlN,hj⟩:=hR.cells b cs true 1 L ho hL
   have cellz:∀ j,j<zs.length->w.cell? ⟨L.blk,L.off+o+j,none⟩=some (.int .i64 (zs.getD j 0)):=fun j hj'=>by
    have e1:cs[o+j]?=some (.int .i64 (zs.getD j 0)):=by
     have:=congrArg (fun l:List AV=>l[j]?) hz
     simp only [Qm,Qn,intsL,Q2] at this
     rw [if_pos (by omega)] at this
     rw [this,Qi hj']; simp [hj']
    obtain⟨x,hx,hvx⟩:=hj _ _ e1
    cases hvx
    rw [Q7]; exact hx
   have hH:Holds (Qy .i64) w L.blk (L.off+o) zs.toArray:=fun j hj'=>by
    have hj':j<zs.length:=by simpa using hj'
    refine⟨?_,Zc6 hblk htw (by omega)⟩
    rw [cellz j hj']; simp [hj']
   have hbl:L.blk<w.heap.size:=hR.lt b L hL
   have:=h1 L.blk (L.off+o) cap zs w hH hbl (by omega)
   rw [hzl] at this
   refine this.mono ?_
   rintro e w' ⟨rfl,n,os,rfl⟩
   rw [Zkw]
   obtain⟨d,hd'⟩:∃ d,d=sortL zs:=⟨_,rfl⟩
   rw [<-hd']
   have hdl:d.length=hd.len:=by rw [hd',Zax,hzl]
   obtain⟨w1,hw1⟩:∃ w1,w1=putRow (Qy .i64) (Sort.ahead w n) L.blk (L.off+o) d.toArray:=⟨_,rfl⟩
   rw [<-hw1]
   have s1:w1.heap.size=w.heap.size:=by rw [hw1]; simp [putRow,mapBlock,Sort.ahead]
   have far:∀ c,c≠L.blk->w1.heap[c]?=w.heap[c]?:=fun c hc=>by
    rw [hw1]; simp [putRow,mapBlock,Sort.ahead,Qj,Ne.symm hc]
   have near:w1.heap[L.blk]?=some (.cells (putCells (Qy .i64) (L.off+o) d.toArray ce) ty fz):=by
    rw [hw1]; simp [putRow,mapBlock,Sort.ahead,Qj,hblk,onCells]
   have hW:Ste μ σ w μ (σ.setO b (.cells (cs.take o++(intsL d++cs.drop (o+hd.len))) true 1)) w1:=by
    refine Ste.write hR ho hp hL s1 (by rw [hw1]; rfl) (by rw [hw1]; rfl) (by rw [hw1]; rfl) far ⟨_,_,_,near,by simp [putCells,hsz],by simpa [putCells] using htw⟩ ?_ ?_ (by rw [hw1]; exact Q4 _ _)
    ·simp only [Ql,Qo,intsL_length,Q5]; omega
    ·intro j v hjv
     have tk:(cs.take o).length=o:=by simp; omega
     by_cases c1:j<o
     ·rw [Qb (by omega),Qm,if_pos c1] at hjv
      obtain⟨x,hx,hvx⟩:=hj j v hjv
      refine⟨x,?_,hvx⟩
      simp only [World.cell?,hblk] at hx
      simp only [World.cell?,near]
      simp only [Qe,Qf,if_false] at hx ⊢
      rw [<-hx]
      simp only [putCells,Qc]
      cases hce:ce[L.off+j]? with
      | none=>rfl
      | some y=>simp; omega
     ·rw [Qg (by omega),tk] at hjv
      by_cases c2:j-o<hd.len
      ·rw [Qb (by simp; omega)] at hjv
       simp only [intsL,Q2,Option.map_eq_some_iff] at hjv
       obtain⟨z,hz1,rfl⟩:=hjv
       refine⟨.int .i64 z,?_,.int ..⟩
       simp only [World.cell?,near]
       simp only [Qe,Qf,if_false]
       simp only [putCells,Qc]
       have hlt:L.off+j<ce.size:=by omega
       rw [Qr hlt]
       simp only [Q6,QB.injEq]
       rw [if_pos ⟨by omega,by simp; omega⟩]
       congr 1
       have e5:L.off+j-(L.off+o)=j-o:=by omega
       rw [e5]
       obtain⟨hq,hq2⟩:=List.getElem?_eq_some_iff.1 hz1
       rw [getElem!_pos _ (j-o) (by simpa using hq)]
       simpa using hq2
      ·rw [Qg (by simp; omega),Qn] at hjv
       have e5:o+hd.len+(j-o-(intsL d).length)=j:=by simp; omega
       rw [e5] at hjv
       obtain⟨x,hx,hvx⟩:=hj j v hjv
       refine⟨x,?_,hvx⟩
       simp only [World.cell?,hblk] at hx
       simp only [World.cell?,near]
       simp only [Qe,Qf,if_false] at hx ⊢
       rw [<-hx]
       simp only [putCells,Qc]
       cases hce:ce[L.off+j]? with
       | none=>rfl
       | some y=>simp; omega
   have hG:=Ste.same (w':=grow w1 os) hW.rel rfl rfl rfl (by simp [grow]) (fun c hc=>by simp only [grow]; rw [Qq hc])
   exact⟨μ,_,rfl,.tuple (by simp) (by simp),hW.trans hG⟩
 ·intro g f e args σ v σ' h
  obtain⟨rfl,rfl⟩:=Zlg e
  obtain⟨hd,rfl,rfl,hc⟩:=Zn1 h
  rcases hc with ⟨e0,rfl⟩ | ⟨b,o,cs,zs,ha,ho,hz,hp,hl,h62,hpos,rfl⟩
  ·exact Pre.refl _
  ·exact Pre.set σ hp _
def FirstOkX(P:Program)(sp:FuncId->Option (List AV->Store->Option (AV×Store)))(g:FuncId):Prop:=∃ fn k,P.funcs[g]?=some fn/\(fn.name == "runtime.NumGoroutine")=false/\fn.body.isNone=false/\okTrue (gam P Qz sp k (.fn g) [] ⟨[],0⟩)=true
theorem Zsq{P:Program}(hm:P.follows .mixedOrders=true){sp:FuncId->Option (List AV->Store->Option (AV×Store))}(h0:SpS P sp/\SpK sp){fs:List Nat}(h:∀ g∈fs,FirstOkX P sp g):SpS P (orTell sp fs)/\SpK (orTell sp fs):=by
 have shape:∀ g f,tell fs g=some f->g∈fs/\∀ args σ v σ',f args σ=some (v,σ')->args=[]/\v=.bool true/\σ'=σ:=by
  intro g f e
  unfold tell at e
  split at e
  ·rename_i ha
   injection e with e; subst e
   obtain⟨x,hx,hb⟩:=List.any_eq_true.1 ha
   have:x=g:=Nat.eq_of_beq_eq_true hb
   subst this
   refine⟨hx,fun args σ v σ' h=>?_⟩
   cases args with
   | nil=>simp at h; exact⟨rfl,h.1.symm,h.2.symm⟩
   | cons=>simp at h
  ·cases e
 have parts:∀ g f,orTell sp fs g=some f->sp g=some f\/tell fs g=some f:=fun g f e=>by
  unfold orTell at e
  split at e
  ·rename_i f' e'
   injection e with e; subst e; exact .inl e'
  ·exact .inr e
 constructor
 ·intro g f e args σ v σ' hf
  rcases parts g f e with e | e
  ·exact h0.1 g f e args σ v σ' hf
  obtain⟨hg,hs⟩:=shape g f e
  obtain⟨rfl,rfl,rfl⟩:=hs args σ v σ' hf
  obtain⟨fn,k,k1,k2,k3,k4⟩:=h g hg
  refine⟨fun cargs w=>Zbn k1 k2 k3 cargs w,fun μ w cargs hR hv=>?_⟩
  have hc:cargs.toList=[]:=hv.inv_nil
  obtain⟨σ1,hr⟩:∃ σ1,gam P Qz sp k (.fn g) [] ⟨[],0⟩=some (.bool true,σ1):=by
   cases hx:gam P Qz sp k (.fn g) [] ⟨[],0⟩ with
   | none=>rw [hx] at k4; cases k4
   | some r=>
    obtain⟨v,s⟩:=r
    rw [hx] at k4
    cases v with
    | bool b=>cases b with
     | true=>exact⟨s,rfl⟩
     | false=>cases k4
    | _=>cases k4
  have hs:=Zgb (P:=P) hm h0.1 h0.2 k _ _ _ _ _ hr (fun _=>none) w cargs (Rel.empty w) (by rw [hc]; exact VL.nil _)
  refine hs.2.mono fun e w' ⟨μ',c,e1,e2,e3⟩=>?_
  subst e1
  cases e2
  refine⟨μ,_,rfl,.bool _,Ste.same hR e3.os e3.tape e3.output e3.size (fun c hc=>e3.pres c hc ?_) e3.drawn⟩
  rintro⟨b,o,L,h1,_⟩
  simp at h1
 ·intro g f e args σ v σ' hf
  rcases parts g f e with e | e
  ·exact h0.2 g f e args σ v σ' hf
  obtain⟨_,hs⟩:=shape g f e
  obtain⟨_,_,rfl⟩:=hs args σ v σ' hf
  exact Pre.refl _
end Go.Ab

namespace Go.Ab
open Go Go.Proofs Go.Sort
def encP(x:Int×Int):List Value:=[.int .i64 x.1,.int .i64 x.2]
def valP(zs:List (Int×Int))(t:Nat):Int:=if t % 2=0 then (zs.getD (t / 2) (0,0)).1 else (zs.getD (t / 2) (0,0)).2
theorem Zy4(x:Int×Int)(zs:List (Int×Int))(t:Nat):valP (x::zs) (t+2)=valP zs t:=by
 unfold valP
 rw [show (t+2) % 2=t % 2 by omega,show (t+2) / 2=t / 2+1 by omega,List.getD_cons_succ]
theorem Zf7:∀ (zs:List (Int×Int)) (t:Nat),t<2*zs.length->(pairsA zs)[t]?=some (.int .i64 (valP zs t))
 | [],t,h=>by simp at h
 | x::zs,0,h=>rfl
 | x::zs,1,h=>rfl
 | x::zs,t+2,h=>by
  rw [Zy4]
  exact Zf7 zs t (by simp at h; omega)
theorem Zm7(zs:List (Int×Int))(t:Nat)(h:t<2*zs.length):(flatK encP 2 zs.toArray)[t]! = .int .i64 (valP zs t):=by
 rw [get_flatK _ _ _ _ (by simp; omega)]
 have e:(zs.toArray)[t / 2]! = zs.getD (t / 2) (0,0):=by
  rw [getElem!_pos _ _ (by simp; omega)]
  simp [List.getD_eq_getElem?_getD,Qi (show t / 2<zs.length by omega)]
 rw [e]
 unfold encP valP
 rcases Nat.mod_two_eq_zero_or_one t with m | m <;> rw [m] <;> rfl
theorem Zki(zs:List (Int×Int)):(flatK encP 2 zs.toArray).size=2*zs.length:=by rw [size_flatK]; simp; omega
theorem Zsk{P:Program}{s cl:Nat}{fn:Func}(hf:P.funcs[s]?=some fn)(hn:(fn.name == "runtime.NumGoroutine")=false)(hb:fn.body.isNone=false)
  (h1:∀ (blk off cap:Nat) (zs:List (Int×Int)) (w:World),HoldsK encP 2 w blk off zs.toArray->blk<w.heap.size->zs.length<4611686018427387904 ->
   Calls P s #[.slice (some ⟨blk,off,none⟩) zs.length cap,.func (.func cl) #[] #[]] w fun e w'=>e=.returned (.tuple #[])/\∃ n os,w'=sortWorldK encP 2 w blk off n (zs.mergeSort fun x y=>!plx y x).toArray os)
  (h0:∀ (p:Option Addr) (cap:Nat) (fv:Value) (w:World),Calls P s #[.slice p 0 cap,fv] w fun e w'=>e=.returned (.tuple #[])/\w'=w):SpS P (sortFSp s cl)/\SpK (sortFSp s cl):=by
 constructor
 ·intro g f e args σ v σ' h
  obtain⟨rfl,rfl⟩:=Zi8 e
  refine⟨fun cargs w=>Zbn hf hn hb cargs w,fun μ w cargs hR hv=>?_⟩
  obtain⟨hd,rfl,rfl,hc⟩:=Zle h
  obtain⟨c,c',hc1⟩:∃ c c',cargs=#[c,c']:=by
   have:=hv.1
   simp at this
   obtain⟨l⟩:=cargs
   match l,this with
   | [c,c'],_=>exact⟨c,c',rfl⟩
  subst hc1
  have hv1:VR μ (.slice hd) c:=hv.2 0 _ _ rfl rfl
  have hv2:VR μ (.func cl [] []) c':=hv.2 1 _ _ rfl rfl
  obtain rfl:c'=.func (.func cl) #[] #[]:=by
   cases hv2 with
   | @func _ _ _ a' b' ha hb _ _=>
    obtain rfl:a'=#[]:=Qp ha.symm
    obtain rfl:b'=#[]:=Qp hb.symm
    rfl
  rcases hc with ⟨e0,rfl⟩ | ⟨b,o,cs,zs,ha,ho,hz,hp,hl,h62,hpos,rfl⟩
  ·have:∃ p cap,c=.slice p 0 cap:=by
    cases hv1 with
    | slN h=>exact⟨_,_,rfl⟩
    | sl h hc hl hN=>simp at e0; subst e0; exact⟨_,_,rfl⟩
    | sl0 h=>exact⟨_,_,rfl⟩
   obtain⟨p,cap,rfl⟩:=this
   refine (h0 p cap _ w).mono ?_
   rintro e w' ⟨rfl,rfl⟩
   exact⟨μ,_,rfl,.tuple (by simp) (by simp),Ste.refl hR⟩
  ·have:∃ L cap,μ b=some L/\c=.slice (some ⟨L.blk,L.off+o,none⟩) hd.len cap:=by
    cases hv1 with
    | slN h=>cases ha
    | sl hm hc hl hN=>simp at ha; obtain⟨rfl,rfl⟩:=ha; exact⟨_,_,hm,rfl⟩
    | sl0 h=>simp at hpos
   obtain⟨L,cap,hL,rfl⟩:=this
   have hzl:zs.length=hd.len:=by
    have:=congrArg QA hz
    rw [Zgl] at this
    simp at this; omega
   obtain⟨ce,ty,fz,hblk,hsz,htw⟩:=hR.rw b cs 2 L ho hL
   obtain⟨_,hlN,hj⟩:=hR.cells b cs true 2 L ho hL
   have cellz:∀ j,j<2*zs.length->w.cell? ⟨L.blk,L.off+o+j,none⟩=some (.int .i64 (valP zs j)):=fun j hj'=>by
    have e1:cs[o+j]?=some (.int .i64 (valP zs j)):=by
     have:=congrArg (fun l:List AV=>l[j]?) hz
     simp only [Qm,Qn] at this
     rw [if_pos (by omega),Zf7 _ _ hj'] at this
     exact this
    obtain⟨x,hx,hvx⟩:=hj _ _ e1
    cases hvx
    rw [Q7]; exact hx
   have hH:HoldsK encP 2 w L.blk (L.off+o) zs.toArray:=fun j hj'=>by
    rw [Zki] at hj'
    refine⟨?_,Zc6 hblk htw (by omega)⟩
    rw [cellz j hj',Zm7 _ _ hj']; rfl
   have hbl:L.blk<w.heap.size:=hR.lt b L hL
   have:=h1 L.blk (L.off+o) cap zs w hH hbl (by omega)
   rw [hzl] at this
   refine this.mono ?_
   rintro e w' ⟨rfl,n,os,rfl⟩
   obtain⟨d,hd'⟩:∃ d,d=sortP zs:=⟨_,rfl⟩
   rw [show (zs.mergeSort fun x y=>!plx y x)=d from hd'.symm,<-hd']
   have hdl:d.length=hd.len:=by rw [hd',Zek,hzl]
   obtain⟨F,hF⟩:∃ F,F=flatK encP 2 d.toArray:=⟨_,rfl⟩
   have hFs:F.size=2*hd.len:=by rw [hF,Zki,hdl]
   obtain⟨w1,hw1⟩:∃ w1,w1=putRow id (Sort.ahead w n) L.blk (L.off+o) F:=⟨_,rfl⟩
   have e0:sortWorldK encP 2 w L.blk (L.off+o) n d.toArray os=grow w1 os:=by rw [hw1,hF]; rfl
   rw [e0]
   have s1:w1.heap.size=w.heap.size:=by rw [hw1]; simp [putRow,mapBlock,Sort.ahead]
   have far:∀ c,c≠L.blk->w1.heap[c]?=w.heap[c]?:=fun c hc=>by
    rw [hw1]; simp [putRow,mapBlock,Sort.ahead,Qj,Ne.symm hc]
   have near:w1.heap[L.blk]?=some (.cells (putCells id (L.off+o) F ce) ty fz):=by
    rw [hw1]; simp [putRow,mapBlock,Sort.ahead,Qj,hblk,onCells]
   have pdl:(pairsA d).length=2*hd.len:=by rw [Zgl,hdl]
   have hW:Ste μ σ w μ (σ.setO b (.cells (cs.take o++(pairsA d++cs.drop (o+2*hd.len))) true 2)) w1:=by
    refine Ste.write hR ho hp hL s1 (by rw [hw1]; rfl) (by rw [hw1]; rfl) (by rw [hw1]; rfl) far ⟨_,_,_,near,by simp [putCells,hsz],by simpa [putCells] using htw⟩ ?_ ?_ (by rw [hw1]; exact Q4 _ _)
    ·simp only [Ql,Qo,pdl,Q5]; omega
    ·intro j v hjv
     have tk:(cs.take o).length=o:=by simp; omega
     by_cases c1:j<o
     ·rw [Qb (by omega),Qm,if_pos c1] at hjv
      obtain⟨x,hx,hvx⟩:=hj j v hjv
      refine⟨x,?_,hvx⟩
      simp only [World.cell?,hblk] at hx
      simp only [World.cell?,near]
      simp only [Qe,Qf,if_false] at hx ⊢
      rw [<-hx]
      simp only [putCells,Qc]
      cases hce:ce[L.off+j]? with
      | none=>rfl
      | some y=>simp; omega
     ·rw [Qg (by omega),tk] at hjv
      by_cases c2:j-o<2*hd.len
      ·rw [Qb (by omega),Zf7 _ _ (by omega)] at hjv
       injection hjv with hjv
       subst hjv
       refine⟨.int .i64 (valP d (j-o)),?_,.int ..⟩
       simp only [World.cell?,near]
       simp only [Qe,Qf,if_false]
       simp only [putCells,Qc]
       have hlt:L.off+j<ce.size:=by omega
       rw [Qr hlt]
       simp only [Q6,QB.injEq]
       rw [if_pos ⟨by omega,by omega⟩]
       have e5:L.off+j-(L.off+o)=j-o:=by omega
       rw [e5,hF,Zm7 _ _ (by omega)]
       rfl
      ·rw [Qg (by omega),Qn] at hjv
       have e5:o+2*hd.len+(j-o-(pairsA d).length)=j:=by omega
       rw [e5] at hjv
       obtain⟨x,hx,hvx⟩:=hj j v hjv
       refine⟨x,?_,hvx⟩
       simp only [World.cell?,hblk] at hx
       simp only [World.cell?,near]
       simp only [Qe,Qf,if_false] at hx ⊢
       rw [<-hx]
       simp only [putCells,Qc]
       cases hce:ce[L.off+j]? with
       | none=>rfl
       | some y=>simp; omega
   have hG:=Ste.same (w':=grow w1 os) hW.rel rfl rfl rfl (by simp [grow]) (fun c hc=>by simp only [grow]; rw [Qq hc])
   exact⟨μ,_,rfl,.tuple (by simp) (by simp),hW.trans hG⟩
 ·intro g f e args σ v σ' h
  obtain⟨rfl,rfl⟩:=Zi8 e
  obtain⟨hd,rfl,rfl,hc⟩:=Zle h
  rcases hc with ⟨e0,rfl⟩ | ⟨b,o,cs,zs,ha,ho,hz,hp,hl,h62,hpos,rfl⟩
  ·exact Pre.refl _
  ·exact Pre.set σ hp _
theorem Zvn{P:Program}{s t:FuncId->Option (List AV->Store->Option (AV×Store))}(hs:SpS P s/\SpK s)(ht:SpS P t/\SpK t):SpS P (orSp s t)/\SpK (orSp s t):=by
 constructor
 ·intro g f e args σ v σ' h
  rcases Zq3 e with e | e
  ·exact hs.1 g f e args σ v σ' h
  ·exact ht.1 g f e args σ v σ' h
 ·intro g f e args σ v σ' h
  rcases Zq3 e with e | e
  ·exact hs.2 g f e args σ v σ' h
  ·exact ht.2 g f e args σ v σ' h
theorem Z3n:SWO plx where
 irrefl x:=by rw [Zbz]; omega
 trans x y z h1 h2:=by rw [Ztv] at *; omega
 ntrans x y z h1 h2:=by rw [Zbz] at *; omega
theorem Zx8(x y:Int×Int)(h1:plx x y=false)(h2:plx y x=false):x=y:=by
 rw [Zbz] at *
 exact Prod.ext (by omega) (by omega)
theorem Zua{μ:Mu}(x:Int×Int):VR μ (.agg [.int .i64 x.1,.int .i64 x.2]) (.agg (encP x).toArray):=
 .agg rfl fun i u v hu hv=>by
  match i,hu,hv with
  | 0,hu,hv=>injection hu with hu; injection hv with hv; subst hu hv; exact .int ..
  | 1,hu,hv=>injection hu with hu; injection hv with hv; subst hu hv; exact .int ..
  | i+2,hu,hv=>simp at hu
theorem Zzf{P:Program}(hm:P.follows .mixedOrders=true){sp:FuncId->Option (List AV->Store->Option (AV×Store))}(h0:SpS P sp/\SpK sp){cl:Nat}{cf:Int×Int->Int×Int->Int}
  (hrun:∀ x y:Int×Int,∃ k σ',gam P Qz sp k (.fn cl) [.agg [.int .i64 x.1,.int .i64 x.2],.agg [.int .i64 y.1,.int .i64 y.2]] ⟨[],0⟩=some (.int .i64 (cf x y),σ')) (blk off size:Nat) (w:World):CmpLays P cl #[] encP 2 cf blk off size w:=by
 intro m os dk hdk x y
 obtain⟨k,σ',hr⟩:=hrun x y
 generalize sortWorldK encP 2 w blk off m dk os=W
 have hs:=Zgb (P:=P) hm h0.1 h0.2 k _ _ _ _ _ hr (fun _=>none) W #[.agg (encP x).toArray,.agg (encP y).toArray] (Rel.empty W) (VL.cons (Zua x) (VL.cons (Zua y) (VL.nil _)))
 rw [Array.append_empty]
 refine hs.2.mono fun e w' ⟨μ',c,e1,e2,e3⟩=>?_
 subst e1
 cases e2
 have bel:Go.RowKit.Below W.heap.size W w':=⟨e3.os,e3.tape,e3.output,e3.size,fun k hk=>e3.pres k hk (by rintro⟨b,o,L,h1,_⟩; simp at h1)⟩
 refine⟨rfl,w'.drawn-W.drawn,?_⟩
 obtain⟨p,hp⟩:=regrown_of_below bel
 refine⟨p.os,?_⟩
 have hd:w'.drawn=p.d:=by rw [hp]; rfl
 have e4:W.drewN (w'.drawn-W.drawn)=redrawn W p.d:=by
  have:=e3.drawn
  unfold World.drewN redrawn
  congr 1; omega
 rw [e4]; exact hp
end Go.Ab

namespace Go.Ab
open Go Go.Proofs Go.Ab.Wd Go.Ab.Bs Go.Ab.Sai
section
variable [T:Told Qa] (hT:∀ g,Told.sp Qa g=none)
include hT
theorem Zxg(σ:Store)(x:Int):Runs Qa 145 [.int .i64 x] σ (.bool false) σ:=by
 refine Runs.intro (fn:=Tryz.f145) (by kernel_rfl) (by kernel_rfl) (Ev.of fun k=>?_) (hT _)
 simp only [Zs6]
 simp
theorem Z07(σ:Store)(x y:Int):Runs Qa 81 [.int .i64 x,.int .i64 y] σ (.int .i64 (cmpI x y)) σ:=by
 obtain⟨n1,r1⟩:=Zxg hT σ x
 obtain⟨n2,r2⟩:=Zxg hT σ y
 refine Runs.intro (fn:=Tryz.f81) (by kernel_rfl) (by kernel_rfl) ⟨n1+n2,fun k hk=>?_⟩ (hT _)
 have r1:=r1 k (by omega)
 have r2:=r2 k (by omega)
 simp only at r1 r2
 simp only [Zw4]
 simp only [stp,r1,r2]
 unfold cmpI
 split
 ·rfl
 ·split <;> rfl
theorem or0{σ:Store}{h:Hdl}{x y:Int}(s:σ.Ints h [x,y]):Runs Qa 80 [.slice h] σ (.int .i64 (if x≠0 then x else y)) σ:=by
 have hl:=s.ilen
 simp only [List.length_cons,List.length_nil,Q0] at hl
 have g0:σ.ldInt .i64 (h.idx 0 1)=some x:=s.rd (i:=0) (by omega) (by simp)
 have g1:σ.ldInt .i64 (h.idx 1 1)=some y:=s.rd (i:=1) (by omega) (by simp)
 have w1:Qk .i64 1=1:=by rfl
 have w2:Qk .i64 2=2:=by rfl
 by_cases c:x=0
 ·rw [if_neg (by simpa using c)]
  have s0:Ev (fun k=>Q8 Qa (gm Qa k) Qz k Tryz.f80 [1,1,0,1,0] [8,7,6,3] ([.int .i64 0,.int .i64 2,.slice h,.int .i64 0],σ)) (.inl ([.int .i64 1,.int .i64 2,.slice h,.int .i64 0],σ)):=Ev.of fun k=>by
   simp only [Z9]
   simp [hl,g0,c,w1]
  by_cases d:y=0
  ·have e:EvI (fun k s=>Q8 Qa (gm Qa k) Qz k Tryz.f80 [1,1,0,1,0] [8,7,6,3] s) ([.int .i64 0,.int .i64 2,.slice h,.int .i64 0],σ) (Q9 0,[(3,.int .i64 0)],σ):=by
    refine EvI.step s0 (EvI.step (s':=([.int .i64 2,.int .i64 2,.slice h,.int .i64 0],σ)) (Ev.of fun k=>?_) (EvI.done (Ev.of fun k=>?_)))
    ·simp only [Z9]
     simp [hl,g1,d,w2]
    ·simp only [Z9]
     simp
   obtain⟨n,e⟩:=Zc e
   refine Runs.intro (fn:=Tryz.f80) (by kernel_rfl) (by kernel_rfl) ⟨n,fun k hk=>?_⟩ (hT _)
   have e:=e k hk
   simp only at e
   simp only [Zfi,hl]
   rw [show ((2:Nat):Int)=2 from rfl,e,Qs,Zhb,d]
  ·have e:EvI (fun k s=>Q8 Qa (gm Qa k) Qz k Tryz.f80 [1,1,0,1,0] [8,7,6,3] s) ([.int .i64 0,.int .i64 2,.slice h,.int .i64 0],σ) (AX.ret,[(2,.int .i64 y)],σ):=by
    refine EvI.step s0 (EvI.done (Ev.of fun k=>?_))
    simp only [Z9]
    simp [hl,g1,d]
   obtain⟨n,e⟩:=Zc e
   refine Runs.intro (fn:=Tryz.f80) (by kernel_rfl) (by kernel_rfl) ⟨n,fun k hk=>?_⟩ (hT _)
   have e:=e k hk
   simp only at e
   simp only [Zfi,hl]
   rw [show ((2:Nat):Int)=2 from rfl,e,Qs,Zcf]
 ·rw [if_pos c]
  have e:EvI (fun k s=>Q8 Qa (gm Qa k) Qz k Tryz.f80 [1,1,0,1,0] [8,7,6,3] s) ([.int .i64 0,.int .i64 2,.slice h,.int .i64 0],σ) (AX.ret,[(2,.int .i64 x)],σ):=by
   refine EvI.done (Ev.of fun k=>?_)
   simp only [Z9]
   simp [hl,g0,c]
  obtain⟨n,e⟩:=Zc e
  refine Runs.intro (fn:=Tryz.f80) (by kernel_rfl) (by kernel_rfl) ⟨n,fun k hk=>?_⟩ (hT _)
  have e:=e k hk
  simp only at e
  simp only [Zfi,hl]
  rw [show ((2:Nat):Int)=2 from rfl,e,Qs,Zcf]
def cmpP(x y:Int×Int):Int:=if cmpI x.1 y.1≠0 then cmpI x.1 y.1 else cmpI x.2 y.2
theorem Z56(σ:Store)(hp:σ.prot<=σ.objs.length)(x y:Int×Int):∃ σ',Runs Qa 79 [.agg [.int .i64 x.1,.int .i64 x.2],.agg [.int .i64 y.1,.int .i64 y.2]] σ (.int .i64 (cmpP x y)) σ':=by
 obtain⟨n,hn⟩:∃ n,n=σ.objs.length:=⟨_,rfl⟩
 obtain⟨s1,h1⟩:∃ s,s=(σ.push [.int .i64 x.1,.int .i64 x.2] 2).push [.int .i64 y.1,.int .i64 y.2] 2:=⟨_,rfl⟩
 have len1:(σ.push [Qh .i64 x.1,.int .i64 x.2] 2).objs.length=n+1:=by rw [hn]; simp
 have R0:s1.Row n 2 [.int .i64 x.1,.int .i64 x.2]:=by rw [h1,hn]; exact Store.Row.push Store.Row.new
 have R1:s1.Row (n+1) 2 [.int .i64 y.1,.int .i64 y.2]:=by rw [h1,<-len1]; exact Store.Row.new
 obtain⟨f0,f1⟩:=ld2 R0
 obtain⟨g0,g1⟩:=ld2 R1
 obtain⟨n1,r1⟩:=Z07 hT { s1 with prot:=s1.objs.length } x.1 y.1
 obtain⟨n2,r2⟩:=Z07 hT s1 x.2 y.2
 have I3:(s1.push [.int .i64 (cmpI x.1 y.1),.int .i64 (cmpI x.2 y.2)] 1).Ints ⟨some (s1.objs.length,0),2,some 2⟩ [cmpI x.1 y.1,cmpI x.2 y.2]:=Store.Row.new.sl (by rfl)
 obtain⟨n3,r3⟩:=or0 hT I3
 refine⟨s1.push [.int .i64 (cmpI x.1 y.1),.int .i64 (cmpI x.2 y.2)] 1,Runs.intro (fn:=Tryz.f79) (by kernel_rfl) (by kernel_rfl) ⟨n1+n2+n3,fun k hk=>?_⟩ (hT _)⟩
 have r1:=Zn (r1 k (by omega))
 have r2:=r2 k (by omega)
 have r3:=r3 k (by omega)
 simp only at r2 r3
 simp only [Z4w]
 simp only [stp,<-h1,len1,<-hn,f0,f1,g0,g1,r1,r2]
 erw [r3]
 rfl
end
theorem Zhm:ltOf cmpP=plx:=by
 funext x y
 unfold ltOf
 rw [Bool.eq_iff_iff,Ztv,decide_eq_true_eq]
 unfold cmpP cmpI
 split <;> split <;> (try split) <;> (try split) <;> omega
end Go.Ab

namespace Go.Ab
open Go Go.Proofs Go.Shelf Go.Sort
def Tryz.sortA_ren:Go.Shelf.Ren:=⟨fun | 5=>187 | 8=>144 | 7=>225 | 19=>203 | 20=>178 | 10=>240 | 11=>241 | 12=>242 | 13=>243 | 14=>244 | 15=>245 | 16=>246 | 17=>247 | 18=>248 | 30=>253 | 31=>232 | 32=>233 | 33=>254 | 34=>255 | 35=>145 | 40=>257 | n=>n,fun | 23=>34 | 25=>3 | 3=>3 | 32=>58 | 22=>34 | 0=>0 | 44=>86 | 46=>183 | 4=>4 | 36=>273 | 35=>272 | 41=>254 | 5=>5 | 9=>9 | 53=>302 | 57=>306 | 63=>320 | 64=>51 | n=>n,fun | n=>n⟩
theorem Tryz.sortA:Go.Proofs.SlLaysM.n5 Qa Tryz.sortA_ren:={
 mixed:=by kernel_rfl,
 f5:=⟨Tryz.f187.name,by decide,Tryz.func187.trans (congrArg some (by kernel_rfl))⟩,
 f7:=⟨Tryz.f225.name,by decide,Tryz.func225.trans (congrArg some (by kernel_rfl))⟩,
 f8:=Tryz.func144.trans (congrArg some (by kernel_rfl)),
 f10:=⟨Tryz.f240.name,by decide,Tryz.func240.trans (congrArg some (by kernel_rfl))⟩,
 f11:=⟨Tryz.f241.name,by decide,Tryz.func241.trans (congrArg some (by kernel_rfl))⟩,
 f12:=⟨Tryz.f242.name,by decide,Tryz.func242.trans (congrArg some (by kernel_rfl))⟩,
 f13:=⟨Tryz.f243.name,by decide,Tryz.func243.trans (congrArg some (by kernel_rfl))⟩,
 f14:=⟨Tryz.f244.name,by decide,Tryz.func244.trans (congrArg some (by kernel_rfl))⟩,
 f15:=⟨Tryz.f245.name,by decide,Tryz.func245.trans (congrArg some (by kernel_rfl))⟩,
 f16:=⟨Tryz.f246.name,by decide,Tryz.func246.trans (congrArg some (by kernel_rfl))⟩,
 f17:=⟨Tryz.f247.name,by decide,Tryz.func247.trans (congrArg some (by kernel_rfl))⟩,
 f18:=⟨Tryz.f248.name,by decide,Tryz.func248.trans (congrArg some (by kernel_rfl))⟩,
 f19:=Tryz.func203.trans (congrArg some (by kernel_rfl)),
 f20:=Tryz.func178.trans (congrArg some (by kernel_rfl)),
 f30:=⟨Tryz.f253.name,by decide,Tryz.func253.trans (congrArg some (by kernel_rfl))⟩,
 f31:=Tryz.func232.trans (congrArg some (by kernel_rfl)),
 f32:=Tryz.func233.trans (congrArg some (by kernel_rfl)),
 f33:=⟨Tryz.f254.name,by decide,Tryz.func254.trans (congrArg some (by kernel_rfl))⟩,
 f34:=⟨Tryz.f255.name,by decide,Tryz.func255.trans (congrArg some (by kernel_rfl))⟩,
 f35:=⟨Tryz.f145.name,by decide,Tryz.func145.trans (congrArg some (by kernel_rfl))⟩,
 f40:=⟨Tryz.f257.name,by decide,Tryz.func257.trans (congrArg some (by kernel_rfl))⟩,
 t0:=Tryz.underlying0,
 a0:=Tryz.isAgg0,
 z0:=Tryz.sizeOf0,
 v0:=Tryz.zeroValue0,
 t3:=Tryz.underlying3,
 a3:=Tryz.isAgg3,
 z3:=Tryz.sizeOf3,
 v3:=Tryz.zeroValue3,
 t4:=Tryz.underlying4,
 a4:=Tryz.isAgg4,
 z4:=Tryz.sizeOf4,
 v4:=Tryz.zeroValue4,
 t5:=Tryz.underlying5,
 a5:=Tryz.isAgg5,
 z5:=Tryz.sizeOf5,
 v5:=Tryz.zeroValue5,
 t9:=Tryz.underlying9,
 a9:=Tryz.isAgg9,
 z9:=Tryz.sizeOf9,
 v9:=Tryz.zeroValue9,
 t22:=Tryz.underlying34,
 a22:=Tryz.isAgg34,
 z22:=Tryz.sizeOf34,
 v22:=Tryz.zeroValue34,
 t23:=Tryz.underlying34,
 a23:=Tryz.isAgg34,
 z23:=Tryz.sizeOf34,
 v23:=Tryz.zeroValue34,
 t25:=Tryz.underlying3,
 a25:=Tryz.isAgg3,
 z25:=Tryz.sizeOf3,
 v25:=Tryz.zeroValue3,
 t32:=Tryz.underlying58,
 a32:=Tryz.isAgg58,
 z32:=Tryz.sizeOf58,
 v32:=Tryz.zeroValue58,
 t35:=Tryz.underlying272,
 a35:=Tryz.isAgg272,
 z35:=Tryz.sizeOf272,
 v35:=Tryz.zeroValue272,
 t36:=Tryz.underlying273,
 a36:=Tryz.isAgg273,
 z36:=Tryz.sizeOf273,
 v36:=Tryz.zeroValue273,
 t41:=Tryz.underlying254,
 a41:=Tryz.isAgg254,
 z41:=Tryz.sizeOf254,
 v41:=Tryz.zeroValue254,
 t44:=Tryz.underlying86,
 a44:=Tryz.isAgg86,
 z44:=Tryz.sizeOf86,
 v44:=Tryz.zeroValue86,
 t46:=Tryz.underlying183,
 a46:=Tryz.isAgg183,
 z46:=Tryz.sizeOf183,
 v46:=Tryz.zeroValue183,
 t53:=Tryz.underlying302,
 a53:=Tryz.isAgg302,
 z53:=Tryz.sizeOf302,
 v53:=Tryz.zeroValue302,
 t57:=Tryz.underlying306,
 a57:=Tryz.isAgg306,
 z57:=Tryz.sizeOf306,
 v57:=Tryz.zeroValue306,
 t63:=Tryz.underlying320,
 a63:=Tryz.isAgg320,
 z63:=Tryz.sizeOf320,
 v63:=Tryz.zeroValue320,
 t64:=Tryz.underlying51,
 a64:=Tryz.isAgg51,
 z64:=Tryz.sizeOf51,
 v64:=Tryz.zeroValue51
}
def Tryz.placesL_ren:Go.Shelf.Ren:=⟨fun | 6=>78 | 15=>144 | 14=>143 | 28=>203 | 29=>178 | 20=>195 | 21=>196 | 22=>197 | 23=>198 | 24=>199 | 25=>200 | 26=>201 | 27=>202 | 46=>231 | 47=>232 | 48=>233 | 49=>234 | 50=>235 | 57=>251 | n=>n,fun | 22=>48 | 24=>62 | 25=>135 | 3=>3 | 39=>58 | 0=>0 | 53=>86 | 55=>183 | 4=>4 | 46=>273 | 45=>272 | 50=>254 | 5=>5 | 9=>9 | 66=>302 | 70=>306 | 76=>320 | 77=>51 | n=>n,fun | n=>n⟩
theorem Tryz.placesL:Go.Proofs.SlLaysF0.n6 Qa Tryz.placesL_ren:={
 mixed:=by kernel_rfl,
 f6:=⟨Tryz.f78.name,by decide,Tryz.func78.trans (congrArg some (by kernel_rfl))⟩,
 f14:=⟨Tryz.f143.name,by decide,Tryz.func143.trans (congrArg some (by kernel_rfl))⟩,
 f15:=Tryz.func144.trans (congrArg some (by kernel_rfl)),
 f20:=⟨Tryz.f195.name,by decide,Tryz.func195.trans (congrArg some (by kernel_rfl))⟩,
 f21:=⟨Tryz.f196.name,by decide,Tryz.func196.trans (congrArg some (by kernel_rfl))⟩,
 f22:=⟨Tryz.f197.name,by decide,Tryz.func197.trans (congrArg some (by kernel_rfl))⟩,
 f23:=⟨Tryz.f198.name,by decide,Tryz.func198.trans (congrArg some (by kernel_rfl))⟩,
 f24:=⟨Tryz.f199.name,by decide,Tryz.func199.trans (congrArg some (by kernel_rfl))⟩,
 f25:=⟨Tryz.f200.name,by decide,Tryz.func200.trans (congrArg some (by kernel_rfl))⟩,
 f26:=⟨Tryz.f201.name,by decide,Tryz.func201.trans (congrArg some (by kernel_rfl))⟩,
 f27:=⟨Tryz.f202.name,by decide,Tryz.func202.trans (congrArg some (by kernel_rfl))⟩,
 f28:=Tryz.func203.trans (congrArg some (by kernel_rfl)),
 f29:=Tryz.func178.trans (congrArg some (by kernel_rfl)),
 f46:=⟨Tryz.f231.name,by decide,Tryz.func231.trans (congrArg some (by kernel_rfl))⟩,
 f47:=Tryz.func232.trans (congrArg some (by kernel_rfl)),
 f48:=Tryz.func233.trans (congrArg some (by kernel_rfl)),
 f49:=⟨Tryz.f234.name,by decide,Tryz.func234.trans (congrArg some (by kernel_rfl))⟩,
 f50:=⟨Tryz.f235.name,by decide,Tryz.func235.trans (congrArg some (by kernel_rfl))⟩,
 f57:=⟨Tryz.f251.name,by decide,Tryz.func251.trans (congrArg some (by kernel_rfl))⟩,
 t0:=Tryz.underlying0,
 a0:=Tryz.isAgg0,
 z0:=Tryz.sizeOf0,
 v0:=Tryz.zeroValue0,
 t3:=Tryz.underlying3,
 a3:=Tryz.isAgg3,
 z3:=Tryz.sizeOf3,
 v3:=Tryz.zeroValue3,
 t4:=Tryz.underlying4,
 a4:=Tryz.isAgg4,
 z4:=Tryz.sizeOf4,
 v4:=Tryz.zeroValue4,
 t5:=Tryz.underlying5,
 a5:=Tryz.isAgg5,
 z5:=Tryz.sizeOf5,
 v5:=Tryz.zeroValue5,
 t9:=Tryz.underlying9,
 a9:=Tryz.isAgg9,
 z9:=Tryz.sizeOf9,
 v9:=Tryz.zeroValue9,
 t22:=Tryz.underlying48,
 a22:=Tryz.isAgg48,
 z22:=Tryz.sizeOf48,
 v22:=Tryz.zeroValue48,
 t25:=Tryz.underlying135,
 a25:=Tryz.isAgg135,
 z25:=Tryz.sizeOf135,
 v25:=Tryz.zeroValue135,
 t39:=Tryz.underlying58,
 a39:=Tryz.isAgg58,
 z39:=Tryz.sizeOf58,
 v39:=Tryz.zeroValue58,
 t45:=Tryz.underlying272,
 a45:=Tryz.isAgg272,
 z45:=Tryz.sizeOf272,
 v45:=Tryz.zeroValue272,
 t46:=Tryz.underlying273,
 a46:=Tryz.isAgg273,
 z46:=Tryz.sizeOf273,
 v46:=Tryz.zeroValue273,
 t50:=Tryz.underlying254,
 a50:=Tryz.isAgg254,
 z50:=Tryz.sizeOf254,
 v50:=Tryz.zeroValue254,
 t53:=Tryz.underlying86,
 a53:=Tryz.isAgg86,
 z53:=Tryz.sizeOf86,
 v53:=Tryz.zeroValue86,
 t55:=Tryz.underlying183,
 a55:=Tryz.isAgg183,
 z55:=Tryz.sizeOf183,
 v55:=Tryz.zeroValue183,
 t66:=Tryz.underlying302,
 a66:=Tryz.isAgg302,
 z66:=Tryz.sizeOf302,
 v66:=Tryz.zeroValue302,
 t70:=Tryz.underlying306,
 a70:=Tryz.isAgg306,
 z70:=Tryz.sizeOf306,
 v70:=Tryz.zeroValue306,
 t76:=Tryz.underlying320,
 a76:=Tryz.isAgg320,
 z76:=Tryz.sizeOf320,
 v76:=Tryz.zeroValue320,
 t77:=Tryz.underlying51,
 a77:=Tryz.isAgg51,
 z77:=Tryz.sizeOf51,
 v77:=Tryz.zeroValue51
}
theorem Z5p:SpS Qa (sortSp 187)/\SpK (sortSp 187):=
 Zv1 (fn:=Tryz.f187) (by kernel_rfl) (by kernel_rfl) (by kernel_rfl)
  (fun blk off cap zs w hH hb hl=>AnyM.slices_Sort_int Tryz.sortA blk off cap zs w hH hb hl)
  (fun p cap w=>AnyM.slices_Sort_int_none Tryz.sortA p cap w)
theorem Z4d(hm:Qa.follows .mixedOrders=true)(blk off size:Nat)(w:World):CmpLays Qa 79 #[] encP 2 cmpP blk off size w:=
 Zzf hm (sp:=fun _=>none) (And.intro (fun _ _ h=>absurd h (by simp)) (fun _ _ h=>absurd h (by simp))) (fun x y=>by
  obtain⟨σ',k,h⟩:=@Z56 ⟨fun _=>none⟩ (fun _=>rfl) ⟨[],0⟩ (Qd _) x y
  exact⟨k,σ',h k (Qd _)⟩) blk off size w
theorem Z30(hm:Qa.follows .mixedOrders=true):SpS Qa (sortFSp 78 79)/\SpK (sortFSp 78 79):=
 Zsk (fn:=Tryz.f78) (by kernel_rfl) (by kernel_rfl) (by kernel_rfl)
  (fun blk off cap zs w hH hb hl=>by
   have eg:∀ args w,(callFunc 79 args).run Qa w=.ok (.enter 79 args) w:=enters_of Tryz.func79 (by kernel_rfl) rfl
   have h:=AnyQ.slices_SortFunc_total Tryz.placesL 2 Tryz.isAgg62 Tryz.sizeOf62 encP (fun _=>rfl) (fun x v hv=>by simp [encP] at hv; rcases hv with rfl | rfl <;> rfl) cmpP (by rw [Zhm]; exact Z3n) 79 #[] blk off cap zs.toArray w eg (Z4d hm blk off _ w) hH hb (by simpa using hl) (by rw [Zhm]; exact Zx8)
   rw [Zhm] at h
   simp only [List.size_toArray,List.toList_toArray] at h
   exact h)
  (fun p cap fv w=>AnyF.slices_SortFunc_none { Tryz.placesL with } p cap fv w)
theorem toldOk(hm:Qa.follows .mixedOrders=true):SpS Qa (Told.sp Qa)/\SpK (Told.sp Qa):=
 Zsq hm (Zvn Z5p (Z30 hm)) fun g hg=>by simp at hg
end Go.Ab

namespace Go.Ab
open Go
section
variable {H:Type} {enc:TypeId×Value->H} {P:Program} {w:World} {base:Nat} {spare:Nat->Bool} {held:Bool}
end
end Go.Ab
