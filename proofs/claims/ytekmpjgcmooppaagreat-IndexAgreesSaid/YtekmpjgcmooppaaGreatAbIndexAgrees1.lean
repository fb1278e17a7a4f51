/- Lemmas. -/
import Derived.Test.YtekmpjgcmooppaaGreatAbIndexAgrees0
import Derived.SizedLaws
import Derived.ChangeSlices
import Derived.OpenShut
import Derived.LaidMore
import Derived.ChangeArms
set_option linter.unusedVariables false
set_option linter.unusedSimpArgs false
open Option renaming bind_eq_some_iff->Qa,bind_some->Qi,map_eq_some_iff->Qw,map_some->Qz,some->Q2,getD_some->QR,bind->Qa0
open List renaming getElem?_eq_some_iff->Qb,getElem?_append_left->Qc,getElem?_set->Qe,getD_eq_getElem?_getD->Qh,eq_nil_of_length_eq_zero->Ql,getElem?_eq_getElem->Qn,replicate->Qp,getElem?_take->Qq,pairwise_cons->Qr,length_drop->Qs,getElem?_eq_none->Qu,length_take->Qx,mem_cons->Q4,range->Q5,mem_range->Q6,pairwise_iff_getElem->Q9,take_of_length_le->QB,getElem?_map->QC,all_eq_true->QD,mem_of_mem_take->QE,nodup_cons->QF,getElem_of_mem->QG,idxOf_lt_length_of_mem->QI,getElem?_drop->QK,getElem_range->QL,append_assoc->QM,length_cons->QS,getElem_map->QT,pairwise_mergeSort->QU,filter_eq_nil_iff->QX,mem_filter->QZ,length_filter_le->Qaa,mem_iff_getElem?->Qab,mem_append_left->Qac,drop_zero->Qae,mergeSort_perm->Qai,map_take->Qak,mem_filterMap->Qam,length_append->Qan,getElem_idxOf->Qao,map_set->Qap,mem_map->Qaq,any_eq_true->Qar,ext_getElem->Qas,length_set->Qau,mem_append->Qav,drop_take->Qax,Nodup->Qa1
open Array renaming getElem?_eq_some_iff->Qd,getD_eq_getD_getElem?->Qo,getElem?_setIfInBounds->Q3,getD->QW,all_eq_true'->Qal,replicate->Qat
open Bool renaming and_eq_true->Qf,not_eq_true'->Qv,or_eq_true->Qy,false_or->QQ,not_true->Qaj,true_and->Qay
open Nat renaming le_refl->Qg,eq_of_beq_eq_true->Qj,lt_of_lt_of_le->Qm,beq->Q0,lt_or_ge->Q7,min_eq_left->QA,le_trans->QH,blt_eq->QJ,lt_trichotomy->QN,add_mul->QO,zero_le->QP,zero_add->QV,strongRecOn->QY,mul_one->Qad,mul_le_mul_right->Qaf,mul_le_mul_left->Qah,testBit_or->Qaw,le_total->Qaz
open Int renaming eq_ofNat_of_zero_le->Qk
open Classical renaming byContradiction->Q8
open Go.Value renaming cells->Qag
namespace Go.Ab
open Go Go.RowKit
structure Pre (σ σ':Store):Prop where
 len:σ.objs.length<=σ'.objs.length
 prot:σ'.prot=σ.prot
 keep:∀ b,b<σ.prot->b<σ.objs.length->σ'.objs[b]?=σ.objs[b]?
theorem Pre.refl(σ:Store):Pre σ σ:=⟨Nat.le_refl _,rfl,fun _ _ _=>rfl⟩
theorem Pre.trans{σ σ1 σ2:Store}(h:Pre σ σ1)(k:Pre σ1 σ2):Pre σ σ2:=
 ⟨Nat.le_trans h.len k.len,k.prot.trans h.prot,fun b hb hl=>(k.keep b (by rw [h.prot]; exact hb) (Qm hl h.len)).trans (h.keep b hb hl)⟩
theorem Pre.push(σ:Store)(l:List AV)(es:Nat):Pre σ (σ.push l es):=⟨by simp [Store.push],rfl,fun b _ hl=>by simp only [Store.push]; rw [Qc hl]⟩
theorem Pre.set(σ:Store){b:Nat}(hb:σ.prot<=b)(o:AObj):Pre σ { σ with objs:=σ.objs.set b o }:=⟨by simp,rfl,fun i hi _=>by show (σ.objs.set b o)[i]?=_; rw [Qe,if_neg (by omega)]⟩
theorem Pre.st{σ σ':Store}{p:Ptr}{v:AV}(h:σ.st p v=some σ'):Pre σ σ':=by
 unfold Store.st at h
 split at h
 ·split at h
  ·split at h
   ·rename_i hc
    injection h with h; subst h
    exact Pre.set σ hc.1.1 _
   ·exact absurd h (by simp)
  ·exact absurd h (by simp)
 ·exact absurd h (by simp)
theorem Pre.stL(l:List AV):∀ {σ σ':Store} {p:Ptr} {i:Nat} (_:σ.stL p l i=some σ'),Pre σ σ':=by
 induction l with
 | nil=>intro σ σ' p i h; simp only [Store.stL] at h; injection h with h; subst h; exact Pre.refl _
 | cons v l ih=>
  intro σ σ' p i h
  simp only [Store.stL] at h
  obtain⟨σ1,h1,h2⟩:=Qa.1 h
  exact (Pre.st h1).trans (ih h2)
theorem Pre.app{σ σ':Store}{h h':Hdl}{es by_ m:Nat}{xs:List AV}(ha:σ.app h es by_ xs m=some (h',σ')):Pre σ σ':=by
 unfold Store.app at ha
 split at ha
 ·injection ha with ha; simp only [Prod.mk.injEq] at ha; rw [<-ha.2]; exact Pre.refl _
 ·split at ha
  ·split at ha
   ·injection ha with ha; simp only [Prod.mk.injEq] at ha; rw [<-ha.2]; exact Pre.push ..
   ·split at ha
    ·split at ha
     ·split at ha
      ·split at ha
       ·split at ha
        ·rename_i hc
         injection ha with ha; simp only [Prod.mk.injEq] at ha; rw [<-ha.2]; exact Pre.set σ hc.2.1 _
        ·exact absurd ha (by simp)
       ·injection ha with ha; simp only [Prod.mk.injEq] at ha; rw [<-ha.2]; exact Pre.push ..
      ·split at ha
       ·rename_i hc
        injection ha with ha; simp only [Prod.mk.injEq] at ha; rw [<-ha.2]
        exact (Pre.set σ hc.2 .dead).trans (Pre.push { σ with objs:=σ.objs.set _ .dead } _ es)
       ·exact absurd ha (by simp)
     ·exact absurd ha (by simp)
    ·exact absurd ha (by simp)
  ·exact absurd ha (by simp)
def GK(Γ:Gam):Prop:=∀ g args σ v σ',Γ g args σ=some (v,σ')->Pre σ σ'
theorem Zgt{Γ:Gam}(hΓ:GK Γ){q:Bool}{g:Fun}{args:List AV}{σ σ':Store}{v:AV}(h:callG Γ q g args σ=some (v,σ')):Pre σ σ'/\(q=true->∀ b,b<σ.objs.length->σ'.objs[b]?=σ.objs[b]?):=by
 cases q with
 | false=>exact⟨hΓ _ _ _ _ _ h,fun e=>by cases e⟩
 | true=>
  simp only [callG] at h
  obtain⟨⟨v',σ1⟩,hr,e⟩:=Qw.1 h
  simp only [Prod.mk.injEq] at e
  obtain⟨rfl,rfl⟩:=e
  have:=hΓ _ _ _ _ _ hr
  exact⟨⟨this.len,rfl,fun b _ hl=>this.keep b hl hl⟩,fun _ b hb=>this.keep b hb hb⟩
section
variable {P:Program} {Γ:Gam} {dr:DrawOk} {k nt:Nat} {rf:Bool}
theorem Zof{b:Builtin}{ts:List TypeId}{args:List AV}{σ σ':Store}{v:AV}(h:evBuiltin P b ts args σ (fun v σ'=>some (v,σ'))=some (v,σ')):Pre σ σ':=by
 have one:∀ {x:AV},(some (x,σ):Option (AV×Store))=some (v,σ')->Pre σ σ':=fun h=>by injection h with h; simp only [Prod.mk.injEq] at h; rw [<-h.2]; exact Pre.refl _
 unfold evBuiltin at h
 split at h
 ·split at h
  ·split at h
   ·exact one h
   ·exact absurd h (by simp)
  ·exact absurd h (by simp)
 ·split at h
  ·split at h
   ·exact one h
   ·exact absurd h (by simp)
  ·exact absurd h (by simp)
 ·split at h
  ·split at h
   ·obtain⟨_,_,h⟩:=Qa.1 h; exact one h
   ·exact absurd h (by simp)
  ·exact absurd h (by simp)
 ·split at h
  ·split at h
   ·obtain⟨_,_,h⟩:=Qa.1 h
    obtain⟨_,_,h⟩:=Qa.1 h
    obtain⟨σ1,hr,h⟩:=Qa.1 h
    injection h with h; simp only [Prod.mk.injEq] at h; rw [<-h.2]; exact Pre.stL _ hr
   ·exact absurd h (by simp)
  ·exact absurd h (by simp)
 ·rw [Zct] at h; obtain⟨x,_,h⟩:=Qa.1 h; exact one h
 ·rw [Zct] at h; obtain⟨x,_,h⟩:=Qa.1 h; exact one h
 ·split at h
  ·split at h
   ·split at h
    ·split at h
     ·obtain⟨xs,_,h⟩:=Qa.1 h
      obtain⟨⟨h',σ1⟩,hr,h⟩:=Qa.1 h
      injection h with h; simp only [Prod.mk.injEq] at h; rw [<-h.2]; exact Pre.app hr
     ·exact absurd h (by simp)
    ·exact absurd h (by simp)
   ·exact absurd h (by simp)
  ·exact absurd h (by simp)
 ·exact absurd h (by simp)
theorem Zbi(hΓ:GK Γ){q:Bool}{ty:TypeId}{φ:Fr}{σ σ':Store}{op:Op}{v:AV}(h:evOpD P Γ q ty φ σ op=some (v,σ')) :
  Pre σ σ'/\(isLoad op=true->σ'=σ)/\(isCallV op=true->q=true->∀ b,b<σ.objs.length->σ'.objs[b]?=σ.objs[b]?):=by
 by_cases hp:pureOp op=true
 ·have:=(Zo1 hp h).1
  subst this
  exact⟨Pre.refl _,fun _=>rfl,fun _ _ _ _=>rfl⟩
 ·unfold evOpD at h
  cases op with
  | alloc t=>
   simp only [evOp] at h
   obtain⟨l,es,h⟩:∃ l es,some (AV.ptr (some (σ.objs.length,0)),σ.push l es)=some (v,σ'):=by
    split at h
    ·split at h
     ·exact⟨_,_,h⟩
     ·exact absurd h (by simp)
    ·obtain⟨l,_,h⟩:=Qa.1 h; exact⟨l,_,h⟩
   injection h with h; simp only [Prod.mk.injEq] at h; rw [<-h.2]
   exact⟨Pre.push ..,fun e=>by simp [isLoad] at e,fun e=>by simp [isCallV] at e⟩
  | box t x=>
   simp only [evOp] at h
   obtain⟨l,_,h⟩:=Qa.1 h
   split at h
   ·exact absurd h (by simp)
   ·injection h with h; simp only [Prod.mk.injEq] at h; rw [<-h.2]
    exact⟨Pre.push ..,fun e=>by simp [isLoad] at e,fun e=>by simp [isCallV] at e⟩
  | load t x=>
   simp only [evOp] at h
   split at h
   ·rw [Zbo] at h
    obtain⟨x,_,h⟩:=Qa.1 h
    injection h with h; simp only [Prod.mk.injEq] at h; rw [<-h.2]
    exact⟨Pre.refl _,fun _=>rfl,fun _ _ _ _=>rfl⟩
   ·exact absurd h (by simp)
  | store t x y=>
   simp only [evOp] at h
   split at h
   ·split at h
    ·obtain⟨σ1,h1,h⟩:=Qa.1 h
     injection h with h; simp only [Prod.mk.injEq] at h; rw [<-h.2]
     exact⟨Pre.stL _ h1,fun e=>by simp [isLoad] at e,fun e=>by simp [isCallV] at e⟩
    ·exact absurd h (by simp)
   ·exact absurd h (by simp)
  | makeSlice t l c=>
   simp only [evOp] at h
   split at h
   ·split at h
    ·split at h
     ·split at h
      ·injection h with h; simp only [Prod.mk.injEq] at h; rw [<-h.2]
       exact⟨Pre.push ..,fun e=>by simp [isLoad] at e,fun e=>by simp [isCallV] at e⟩
      ·exact absurd h (by simp)
     ·exact absurd h (by simp)
    ·exact absurd h (by simp)
   ·exact absurd h (by simp)
  | slice t x lo hi mx=>
   simp only [evOp] at h
   split at h
   ·obtain⟨_,_,h⟩:=Qa.1 h
    obtain⟨_,_,h⟩:=Qa.1 h
    obtain⟨_,_,h⟩:=Qa.1 h
    obtain⟨_,_,h⟩:=Qa.1 h
    obtain⟨_,_,h⟩:=Qa.1 h
    split at h
    ·exact absurd h (by simp)
    ·injection h with h; simp only [Prod.mk.injEq] at h; rw [<-h.2]
     exact⟨Pre.refl _,fun _=>rfl,fun _ _ _ _=>rfl⟩
   ·split at h
    ·obtain⟨_,_,h⟩:=Qa.1 h
     obtain⟨_,_,h⟩:=Qa.1 h
     injection h with h; simp only [Prod.mk.injEq] at h; rw [<-h.2]
     exact⟨Pre.refl _,fun _=>rfl,fun _ _ _ _=>rfl⟩
    ·exact absurd h (by simp)
   ·exact absurd h (by simp)
  | buildSlice t len ps=>
   simp only [evOp] at h
   split at h
   ·split at h
    ·split at h
     ·obtain⟨_,_,h⟩:=Qa.1 h
      obtain⟨_,_,h⟩:=Qa.1 h
      injection h with h; simp only [Prod.mk.injEq] at h; rw [<-h.2]
      exact⟨Pre.push ..,fun e=>by simp [isLoad] at e,fun e=>by simp [isCallV] at e⟩
     ·exact absurd h (by simp)
    ·exact absurd h (by simp)
   ·exact absurd h (by simp)
  | makeMap t x=>
   simp only [evOp] at h
   have one:some (AV.map (some σ.objs.length),({ σ with objs:=σ.objs++[.map []] }:Store))=some (v,σ')->Pre σ σ':=fun h=>by
    injection h with h; simp only [Prod.mk.injEq] at h; rw [<-h.2]
    exact⟨by simp,rfl,fun b _ hl=>by simp only []; rw [Qc hl]⟩
   split at h
   ·exact⟨one h,fun e=>by simp [isLoad] at e,fun e=>by simp [isCallV] at e⟩
   ·split at h
    ·exact⟨one h,fun e=>by simp [isLoad] at e,fun e=>by simp [isCallV] at e⟩
    ·exact absurd h (by simp)
  | lookup t x i ok=>
   simp only [evOp] at h
   split at h
   ·split at h
    ·obtain⟨z,_,h⟩:=Qa.1 h
     obtain⟨o,_,h⟩:=Qa.1 h
     split at h
     ·rw [Zay] at h
      obtain⟨u,_,h⟩:=Qa.1 h
      injection h with h; simp only [Prod.mk.injEq] at h; rw [<-h.2]
      exact⟨Pre.refl _,fun _=>rfl,fun _ _ _ _=>rfl⟩
     ·injection h with h; simp only [Prod.mk.injEq] at h; rw [<-h.2]
      exact⟨Pre.refl _,fun _=>rfl,fun _ _ _ _=>rfl⟩
    ·exact absurd h (by simp)
   ·exact absurd h (by simp)
  | mapUpdate t m k x=>
   simp only [evOp] at h
   split at h
   ·split at h
    ·obtain⟨σ1,h1,h⟩:=Qa.1 h
     injection h with h; simp only [Prod.mk.injEq] at h; rw [<-h.2]
     refine⟨?_,fun e=>by simp [isLoad] at e,fun e=>by simp [isCallV] at e⟩
     unfold Store.upd at h1
     split at h1
     ·cases h1
     ·split at h1
      ·split at h1
       ·rename_i hp
        split at h1
        ·cases h1
        ·injection h1 with h1; subst h1; exact Pre.set σ hp _
        ·injection h1 with h1; subst h1; exact Pre.set σ hp _
       ·cases h1
      ·cases h1
    ·exact absurd h (by simp)
   ·exact absurd h (by simp)
  | call c=>
   simp only [evOp] at h
   split at h
   ·rename_i b hb
    obtain⟨args,_,h⟩:=Qa.1 h
    exact⟨Zof h,fun e=>by simp [isLoad] at e,fun e=>by simp [isCallV,hb] at e⟩
   ·split at h
    ·obtain⟨args,_,h⟩:=Qa.1 h
     obtain⟨⟨v1,σ1⟩,hr,h⟩:=Qa.1 h
     rw [Zab] at h
     obtain⟨x,_,h⟩:=Qa.1 h
     injection h with h; simp only [Prod.mk.injEq] at h; rw [<-h.2]
     have:=Zgt hΓ hr
     exact⟨this.1,fun e=>by simp [isLoad] at e,fun _ hq=>this.2 hq⟩
    ·obtain⟨args,_,h⟩:=Qa.1 h
     obtain⟨⟨v1,σ1⟩,hr,h⟩:=Qa.1 h
     rw [Zab] at h
     obtain⟨x,_,h⟩:=Qa.1 h
     injection h with h; simp only [Prod.mk.injEq] at h; rw [<-h.2]
     have:=Zgt hΓ hr
     exact⟨this.1,fun e=>by simp [isLoad] at e,fun _ hq=>this.2 hq⟩
    ·exact absurd h (by simp)
   ·have fin:∀ (f:FuncId) (u:AV),((φ.evs c.args.toList).bind fun args=>(callG Γ q (.fn f) (u::args) σ).bind fun r=>castR P ty r.1 fun v=>some (v,r.2))=some (v,σ')->Pre σ σ'/\(q=true->∀ b,b<σ.objs.length->σ'.objs[b]?=σ.objs[b]?):=by
     intro f u h
     obtain⟨args,_,h⟩:=Qa.1 h
     obtain⟨⟨v1,σ1⟩,hr,h⟩:=Qa.1 h
     rw [Zab] at h
     obtain⟨x,_,h⟩:=Qa.1 h
     injection h with h; simp only [Prod.mk.injEq] at h; rw [<-h.2]
     exact Zgt hΓ hr
    split at h
    ·split at h
     ·exact absurd h (by simp)
     ·split at h
      ·have:=fin _ _ h
       exact⟨this.1,fun e=>by simp [isLoad] at e,fun _ hq=>this.2 hq⟩
      ·split at h
       ·rw [Zbo] at h
        obtain⟨u,_,h⟩:=Qa.1 h
        have:=fin _ _ h
        exact⟨this.1,fun e=>by simp [isLoad] at e,fun _ hq=>this.2 hq⟩
       ·exact absurd h (by simp)
    ·exact absurd h (by simp)
  | convert s d x=>
   simp only [evOp] at h
   split at h
   ·split at h
    ·split at h
     ·injection h with h; simp only [Prod.mk.injEq] at h; rw [<-h.2]
      exact⟨Pre.refl _,fun _=>rfl,fun _ _ _ _=>rfl⟩
     ·exact absurd h (by simp)
    ·exact absurd h (by simp)
   ·split at h
    ·split at h
     ·split at h
      ·obtain⟨_,_,h⟩:=Qa.1 h
       obtain⟨_,_,h⟩:=Qa.1 h
       injection h with h; simp only [Prod.mk.injEq] at h; rw [<-h.2]
       exact⟨Pre.refl _,fun _=>rfl,fun _ _ _ _=>rfl⟩
      ·exact absurd h (by simp)
     ·exact absurd h (by simp)
    ·split at h
     ·split at h
      ·split at h
       ·split at h
        ·injection h with h; simp only [Prod.mk.injEq] at h; rw [<-h.2]
         exact⟨Pre.refl _,fun _=>rfl,fun _ _ _ _=>rfl⟩
        ·exact absurd h (by simp)
       ·exact absurd h (by simp)
      ·exact absurd h (by simp)
     ·exact absurd h (by simp)
   ·split at h
    ·rename_i hc
     split at h
     ·split at h
      ·injection h with h; simp only [Prod.mk.injEq] at h; rw [<-h.2]
       exact⟨Pre.push ..,fun (e:(Q0 d strT || Q0 s d)=true)=>(by
        rw [hc.1,QQ] at e
        have:=Qj e
        subst this
        rw [hc.1] at hc; exact absurd hc.2 (by simp)),fun e=>by simp [isCallV] at e⟩
      ·exact absurd h (by simp)
     ·exact absurd h (by simp)
    ·exact absurd h (by simp)
   ·exact absurd h (by simp)
  | _=>first | (exact absurd rfl hp) | (simp [evOp] at h)
theorem Zm6(hΓ:GK Γ){qs:Nat}{ops:Array Oper}{l:List Oper}{i:Nat}{R:Type}{φ:Fr}{σ:Store}{K:Fr->Store->Option R}{r:R}(h:evOps P Γ nt qs ops l i φ σ K=some r):∃ φ' σ',K φ' σ'=some r/\Pre σ σ':=by
 obtain⟨X,V,S,Φ,h1,h2,h3,h4⟩:=Zpp l i h
 refine⟨_,_,h3,?_⟩
 have:∀ k,k<=l.length->Pre (S 0) (S k):=by
  intro k
  induction k with
  | zero=>intro _; exact Pre.refl _
  | succ k ih=>
   intro hk
   have st:=h4 k l[k] (by simp)
   refine (ih (by omega)).trans ?_
   cases hx:X k with
   | true=>exact (Zbi hΓ (st.exec hx)).1
   | false=>rw [(st.skip hx).2]; exact Pre.refl _
 rw [<-h2]; exact this _ (Qg _)
theorem Zfu(hΓ:GK Γ)(c:Code):∀ {R:Type} {N:Live} {φ:Fr} {σ:Store} {K:AX->Fr->Store->Option R} {r:R} (_:evCode P Γ dr k nt rf c N φ σ K=some r),∃ e φ' σ',K e φ' σ'=some r/\Pre σ σ':=by
 induction c with
 | skip=>intro R N φ σ K r h; exact⟨_,_,_,h,Pre.refl _⟩
 | region id ops draw=>
  intro R N φ σ K r h
  cases draw with
  | false=>
   simp only [evCode] at h
   obtain⟨φ',σ',h1,h2⟩:=Zm6 hΓ h
   exact⟨_,_,_,h1,h2⟩
  | true=>
   simp only [evCode] at h
   obtain⟨⟨qs,ap⟩,_,h⟩:=Qa.1 h
   obtain⟨φ',σ',h1,h2⟩:=Zm6 hΓ (Zfr h).2
   exact⟨_,_,_,h1,h2⟩
 | seq x y ihx ihy=>
  intro R N φ σ K r h
  simp only [evCode] at h
  obtain⟨e,φ',σ',h1,h2⟩:=ihx h
  cases e with
  | normal=>
   obtain⟨e,φ2,σ2,h3,h4⟩:=ihy h1
   exact⟨_,_,_,h3,h2.trans h4⟩
  | exit i=>exact⟨_,_,_,h1,h2⟩
  | ret=>exact⟨_,_,_,h1,h2⟩
 | cond c x y ihx ihy=>
  intro R N φ σ K r h
  simp only [evCode] at h
  split at h
  ·split at h
   ·exact ihx h
   ·exact ihy h
  ·exact absurd h (by simp)
 | block id c ih=>
  intro R N φ σ K r h
  simp only [evCode] at h
  obtain⟨e,φ',σ',h1,h2⟩:=ih h
  cases e with
  | normal=>exact⟨_,_,_,h1,h2⟩
  | exit i=>
   simp only at h1
   cases hb:Q0 i id with
   | true=>rw [hb] at h1; exact⟨_,_,_,h1,h2⟩
   | false=>rw [hb] at h1; exact⟨_,_,_,h1,h2⟩
  | ret=>exact⟨_,_,_,h1,h2⟩
 | loop c ih=>
  intro R N φ σ K r h
  simp only [evCode] at h
  obtain⟨⟨e0,φ0,σ0⟩,h,hK0⟩:=Qa.1 h
  simp only at hK0
  refine⟨e0,φ0,σ0,hK0,?_⟩
  have key:∀ (j:Nat) (L:List Nat) (vs:List AV) (σ1:Store),iter j (loopK nt (evCode P Γ dr k nt rf c) L N (liveC c { N with n:=0 })) (vs,σ1)=some (e0,φ0,σ0)->Pre σ1 σ0:=by
   intro j L
   induction j with
   | zero=>intro vs σ1 h; simp [iter] at h
   | succ j ihj=>
    intro vs σ1 h
    simp only [iter] at h
    split at h
    ·exact absurd h (by simp)
    ·rename_i s' hs'
     obtain⟨vs',σ'⟩:=s'
     simp only [loopK] at hs'
     obtain⟨e,φ2,σ2,h1,h2⟩:=ih hs'
     cases e with
     | normal=>
      simp only [loopE] at h1
      obtain⟨us,hus,h1⟩:=Qa.1 h1
      injection h1 with h1; injection h1 with h1
      simp only [Prod.mk.injEq] at h1
      obtain⟨rfl,rfl⟩:=h1
      exact h2.trans (ihj _ _ h)
     | exit i=>simp only [loopE] at h1; injection h1 with h1; cases h1
     | ret=>simp only [loopE] at h1; injection h1 with h1; cases h1
    ·rename_i r' hs'
     injection h with h; subst h
     simp only [loopK] at hs'
     obtain⟨e,φ2,σ2,h1,h2⟩:=ih hs'
     cases e with
     | normal=>
      simp only [loopE] at h1
      obtain⟨us,hus,h1⟩:=Qa.1 h1
      injection h1 with h1; cases h1
     | exit i=>
      simp only [loopE] at h1
      injection h1 with h1; injection h1 with h1
      simp only [Prod.mk.injEq] at h1
      obtain⟨rfl,rfl,rfl⟩:=h1
      exact h2
     | ret=>
      simp only [loopE] at h1
      injection h1 with h1; injection h1 with h1
      simp only [Prod.mk.injEq] at h1
      obtain⟨rfl,rfl,rfl⟩:=h1
      exact h2
  exact key k _ _ σ h
 | exit i=>intro R N φ σ K r h; exact⟨_,_,_,h,Pre.refl _⟩
 | ret=>intro R N φ σ K r h; exact⟨_,_,_,h,Pre.refl _⟩
 | rangeFunc f ps x y _ _=>
  intro R N φ σ K r h
  simp only [evCode] at h
  cases rf with
  | false=>exact absurd h (by simp)
  | true=>
   simp only at h
   split at h
   ·obtain⟨⟨ev,σv⟩,hr0,h⟩:=Qa.1 h
    simp only [rangeV] at hr0
    obtain⟨⟨v,σ'⟩,hr,hr0⟩:=Qa.1 hr0
    have hp:=hΓ _ _ _ _ _ hr
    have hp2:Pre σ (σ'.setO σ.objs.length .dead):=by
     refine⟨?_,hp.prot,fun b hb hl=>?_⟩
     ·have:=hp.len; simp at this; simp [Store.setO]; omega
     ·show (σ'.objs.set _ _)[b]?=_
      rw [Qe,if_neg (by omega),hp.keep b hb (by simp; omega)]
      show (σ.objs++_)[b]?=_
      rw [Qc hl]
    simp only at hr0 h
    split at hr0
    ·injection hr0 with hr0; simp only [Prod.mk.injEq] at hr0; obtain⟨rfl,rfl⟩:=hr0; exact⟨_,_,_,h,hp2⟩
    ·injection hr0 with hr0; simp only [Prod.mk.injEq] at hr0; obtain⟨rfl,rfl⟩:=hr0; exact⟨_,_,_,h,hp2⟩
    ·exact absurd hr0 (by simp)
   ·exact absurd h (by simp)
 | scope c _=>intro R N φ σ K r h; simp [evCode] at h
 | label l=>intro R N φ σ K r h; simp [evCode] at h
 | goto l=>intro R N φ σ K r h; simp [evCode] at h
 | refuse s=>intro R N φ σ K r h; simp [evCode] at h
theorem Z3s{φ:Fr}{σ:Store}(l:List ResultVar):∀ {K:List AV->Option (AV×Store)} {r:AV×Store} (_:resL P φ σ l K=some r),∃ vs,K vs=some r:=by
 induction l with
 | nil=>intro K r h; exact⟨_,h⟩
 | cons x l ih=>
  intro K r h
  simp only [resL] at h
  cases x with
  | tmp t=>
   simp only [resOne] at h
   obtain⟨v,_,h⟩:=Qa.1 h
   obtain⟨vs,h⟩:=ih h; exact⟨_,h⟩
  | cell t ty=>
   simp only [resOne] at h
   split at h
   ·rw [Zbo] at h
    obtain⟨v,_,h⟩:=Qa.1 h
    obtain⟨vs,h⟩:=ih h; exact⟨_,h⟩
   ·exact absurd h (by simp)
theorem Zuw(hΓ:GK Γ){fn:Func}{args:List AV}{σ σ':Store}{v:AV}(h:evBody P Γ dr k fn args σ=some (v,σ')):Pre σ σ':=by
 unfold evBody at h
 split at h
 ·exact absurd h (by simp)
 ·obtain⟨e,φ',σ2,h1,h2⟩:=Zfu hΓ _ h
  have fin:resK P fn φ' σ2=some (v,σ')->Pre σ σ':=by
   intro hK
   unfold resK at hK
   obtain⟨vs,hK⟩:=Z3s _ hK
   split at hK <;> (injection hK with hK; simp only [Prod.mk.injEq] at hK; rw [<-hK.2]; exact h2)
  cases e with
  | normal=>exact fin h1
  | ret=>exact fin h1
  | exit i=>exact absurd h1 (by simp)
end
theorem Zr6{P:Program}{Γ:Gam}(hΓ:GK Γ){dr:DrawOk}{k l:Nat}{args:List AV}{σ σ':Store}{v:AV}(h:evRound P Γ dr k l args σ=some (v,σ')):Pre σ σ':=by
 unfold evRound at h
 split at h
 ·split at h
  ·rename_i hc
   have hp:=hc.1
   obtain⟨⟨e1,φ1',σ1'⟩,hx,h⟩:=Qa.1 h
   obtain⟨e,φ1,σ1,hK,p1⟩:=Zfu hΓ _ hx
   injection hK with hK
   simp only [Prod.mk.injEq] at hK
   obtain⟨rfl,rfl,rfl⟩:=hK
   cases e with
   | normal=>
    simp only at h
    split at h
    ·obtain⟨⟨e2,σ2'⟩,hy,h⟩:=Qa.1 h
     obtain⟨e,φ2,σ2,hK,p2⟩:=Zfu hΓ _ hy
     injection hK with hK
     simp only [Prod.mk.injEq] at hK
     obtain⟨rfl,rfl⟩:=hK
     have p3:Pre σ σ2:=p1.trans ((Pre.set σ1 (by rw [p1.prot]; exact hp) _).trans p2)
     simp only at h
     split at h
     ·have p4:∀ o,Pre σ (σ2.setO l o):=fun o=>p3.trans (Pre.set σ2 (by rw [p3.prot]; exact hp) o)
      cases e with
      | normal=>injection h with h; simp only [Prod.mk.injEq] at h; rw [<-h.2]; exact p4 _
      | exit i=>injection h with h; simp only [Prod.mk.injEq] at h; rw [<-h.2]; exact p4 _
      | ret=>injection h with h; simp only [Prod.mk.injEq] at h; rw [<-h.2]; exact p4 _
     ·exact absurd h (by simp)
    ·exact absurd h (by simp)
   | exit i=>exact absurd h (by simp)
   | ret=>exact absurd h (by simp)
  ·exact absurd h (by simp)
 ·exact absurd h (by simp)
def SpK(sp:FuncId->Option (List AV->Store->Option (AV×Store))):Prop:=∀ g f,sp g=some f->∀ args σ v σ',f args σ=some (v,σ')->Pre σ σ'
theorem Z28{P:Program}{dr:DrawOk}{sp:FuncId->Option (List AV->Store->Option (AV×Store))}(hsp:SpK sp)(k:Nat):GK (gam P dr sp k):=by
 induction k with
 | zero=>
  intro g args σ v σ' h
  cases g with
  | yl l=>simp [gam] at h
  | fn g=>
   simp only [gam] at h
   split at h
   ·rename_i f hf; exact hsp g f hf _ _ _ _ h
   ·exact absurd h (by simp)
 | succ k ih=>
  intro g args σ v σ' h
  cases g with
  | yl l=>simp only [gam] at h; exact Zr6 ih h
  | fn g=>
   simp only [gam] at h
   split at h
   ·rename_i f hf; exact hsp g f hf _ _ _ _ h
   ·split at h
    ·exact absurd h (by simp)
    ·rename_i fn hf
     cases hn:fn.name == "runtime.NumGoroutine" with
     | true=>rw [hn] at h; exact absurd h (by simp)
     | false=>rw [hn] at h; exact Zuw ih h
end Go.Ab

namespace Go.Ab
open Go Go.RowKit
theorem Zwd(l:List Oper):∀ (acc:List Nat),∃ suf,befs l acc=acc++suf/\suf.length=l.length/\∀ (k:Nat) (o:Oper),l[k]?=some o->(befs l acc)[acc.length+k]?=some (edgeMask ((befs l acc).take (acc.length+k)) o.after.toList):=by
 induction l with
 | nil=>intro acc; exact⟨[],by simp [befs],rfl,fun k o h=>by simp at h⟩
 | cons o l ih=>
  intro acc
  obtain⟨suf,h1,h2,h3⟩:=ih (acc++[edgeMask acc o.after.toList])
  refine⟨edgeMask acc o.after.toList::suf,by simp only [befs]; rw [h1]; simp,by simp [h2],?_⟩
  intro k p hk
  simp only [befs]
  cases k with
  | zero=>
   simp at hk; subst hk
   rw [h1]
   simp
  | succ k=>
   have:=h3 k p (by simpa using hk)
   rw [show acc.length+(k+1)=(acc++[edgeMask acc o.after.toList]).length+k by simp; omega]
   exact this
theorem Zpk(acc:List Nat)(es:List Edge)(i:Nat)(h:bitOn (edgeMask acc es) i=true):∃ e∈es,Region.binds .any e=true/\(e.on=i\/bitOn (acc.getD e.on 0) i=true):=by
 have key:∀ (es:List Edge) (m:Nat),bitOn (es.foldl (fun m e=>bif Region.binds .any e then m ||| (1 <<< e.on) ||| acc.getD e.on 0 else m) m) i=true->bitOn m i=true\/∃ e∈es,Region.binds .any e=true/\(e.on=i\/bitOn (acc.getD e.on 0) i=true):=by
  intro es
  induction es with
  | nil=>intro m h; exact .inl h
  | cons e es ih=>
   intro m h
   rw [List.foldl_cons] at h
   rcases ih _ h with h | ⟨e',he',h⟩
   ·cases hb:Region.binds .any e with
    | false=>rw [hb] at h; exact .inl h
    | true=>
     rw [hb] at h
     simp only [cond_true] at h
     rw [Zdh,Qaw,Qaw,Nat.one_shiftLeft,Nat.testBit_two_pow] at h
     simp only [Qy,decide_eq_true_eq] at h
     rcases h with (h | h) | h
     ·exact .inl (by rw [Zdh]; exact h)
     ·exact .inr ⟨e,by simp,hb,.inl h⟩
     ·exact .inr ⟨e,by simp,hb,.inr (by rw [Zdh]; exact h)⟩
   ·exact .inr ⟨e',by simp [he'],h⟩
 rcases key es 0 h with h | h
 ·rw [Zdh] at h; simp at h
 ·exact h
section
variable {ops:Array Oper}
theorem Zfs(hE:∀ (i:Nat) (o:Oper),ops[i]?=some o->∀ e∈o.after.toList,Region.binds .any e=true->e.on<i){D:Nat->Prop}
  (hD:∀ (i:Nat) (o:Oper),ops[i]?=some o->D i->∀ e∈o.after.toList,Region.binds .any e=true->D e.on) (j:Nat):∀ (p:Oper),ops[j]?=some p->(∀ e∈p.after.toList,Region.binds .any e=true->D e.on) ->
  ∀ i,bitOn ((befs ops.toList []).getD j 0) i=true->D i:=by
 obtain⟨suf,h1,h2,h3⟩:=Zwd ops.toList []
 induction j using QY with
 | _ j ih=>
  intro p hp hd i hi
  have hj:=h3 j p (by simpa using hp)
  simp only [List.length_nil,QV] at hj
  rw [Qh,hj] at hi
  simp only [QR] at hi
  obtain⟨e,he,hb,hc⟩:=Zpk _ _ _ hi
  have hon:=hE j p hp e he hb
  have hDe:=hd e he hb
  rcases hc with rfl | hc
  ·exact hDe
  ·have hlt:e.on<ops.size:=by have:=(Qd.1 hp).1; omega
   rw [Qh,Qq,if_pos hon,<-Qh] at hc
   exact ih e.on hon ops[e.on] (by simp [hlt]) (hD e.on _ (by simp [hlt]) hDe) i hc
end
theorem Zws{ops:Array Oper}{qs:Nat}{ap:List (Nat×Nat)}(h:drawn ops=some (qs,ap)):(∀ (i:Nat) (o:Oper),ops[i]?=some o->∀ e∈o.after.toList,Region.binds .any e=true->e.on<i) /\
  ∀ (i j:Nat) (o p:Oper),ops[i]?=some o->ops[j]?=some p->i≠j->okPair ops (befs ops.toList []) qs ap i j o p=true:=by
 unfold drawn at h
 simp only at h
 split at h
 case isFalse=>exact absurd h (by simp)
 rename_i hc
 injection h with h
 injection h with h h2
 rw [h2,h] at hc
 rw [QD] at hc
 have get:∀ (i:Nat) (o:Oper),ops[i]?=some o->i∈Q5 ops.toList.length/\ops.toList[i]?=some o:=fun i o hi=>⟨by have:=(Qd.1 hi).1; simpa using this,by simpa using hi⟩
 refine⟨fun i o hi e he hb=>?_,fun i j o p hi hj hne=>?_⟩
 ·have:=hc i (get i o hi).1
  rw [(get i o hi).2] at this
  simp only [Qf] at this
  have:=QD.1 this.1 e he
  simpa [hb,QJ] using this
 ·have:=hc i (get i o hi).1
  rw [(get i o hi).2] at this
  simp only [Qf] at this
  have:=QD.1 this.2 j (get j p hj).1
  rw [(get j p hj).2] at this
  simp only [Qy] at this
  rcases this with this | this
  ·exact absurd (Qj this) hne
  ·exact this
def onlyT(l:List Nat)(φ:Fr):Fr:=l.filterMap fun t=>(φ.get t).map fun v=>(t,v)
theorem Znr(l:List Nat)(φ:Fr)(t:Nat):(onlyT l φ).get t=if t∈l then φ.get t else none:=by
 induction l with
 | nil=>simp [onlyT,Fr.get]
 | cons x l ih=>
  unfold onlyT at ih ⊢
  rw [List.filterMap_cons]
  cases hx:φ.get x with
  | none=>
   simp only [Option.map_none]
   rw [ih]
   by_cases e:t=x
   ·subst e; simp [hx]
   ·simp [e]
  | some v=>
   simp only [Qz]
   rw [Fr.get_cons,ih]
   by_cases e:x=t
   ·subst e; simp [hx]
   ·rw [if_neg e]; simp [Ne.symm e]
theorem Zqq{R:Type}{σ:Store}{c:CK}{p:Ptr}{K:AV->Option R}(h:σ.cell p=none):ldK σ c p K=none:=by
 cases c <;> simp [ldK,Store.ldInt,Store.ldBool,Store.ldStr,Store.ldPtr,Store.ldSl,Store.ldMap,Store.ldFn,Store.ldIfc,h]
theorem Z48{R:Type}{P:Program}{σ:Store}{t:TypeId}{b o:Nat}{K:AV->Option R}{r:R}(hk:ldT P σ t (some (b,o)) K=some r):b<σ.objs.length:=by
 by_cases h:b<σ.objs.length
 ·exact h
 ·exfalso
  have hc:∀ i,σ.cell (Ptr.add (some (b,o)) i)=none:=fun i=>by simp only [Ptr.add,Qz,Store.cell]; rw [Qu (by omega)]
  have hc0:σ.cell (some (b,o))=none:=by simp only [Store.cell]; rw [Qu (by omega)]
  unfold ldT at hk
  split at hk
  ·obtain⟨cs,_,hk⟩:=Qa.1 hk
   split at hk
   ·rename_i hcs
    cases cs with
    | nil=>simp at hcs
    | cons c cs=>simp only [ldL] at hk; rw [Zqq (hc 0)] at hk; cases hk
   ·cases hk
  ·split at hk
   ·rw [Zqq hc0] at hk; cases hk
   ·cases hk
theorem Zp{ops:Array Oper}{B:List Nat}{qs i j:Nat}{ap:List (Nat×Nat)}{o p:Oper}(h:okPair ops B qs ap i j o p=true) :
  (∀ t,o.dst=some t->p.dst≠some t/\(t∈readsL ops p->(i<j/\bitOn (B.getD j 0) i=true)\/(j<i/\bitOn (B.getD i 0) j=true))) /\
  (isE o.op=true->isE p.op=true->i<=j->bitOn (B.getD j 0) i=true\/(isA o.op=true/\isA p.op=true)) /\
  (isE o.op=true->isLoad p.op=true->bitOn (B.getD j 0) i=true\/bitOn (B.getD i 0) j=true\/(isCallV o.op=true/\bitOn qs i=true)\/isA o.op=true\/freshSt ops i j o=true\/slR i j o p=true\/apSt ops ap o p=true):=by
 unfold okPair okLoad at h
 simp only [Qf] at h
 obtain⟨⟨h1,h2⟩,h3⟩:=h
 refine⟨fun t ht=>?_,fun e1 e2 hij=>?_,fun e1 e2=>?_⟩
 ·rw [ht] at h1
  simp only [Qf,Qy,Qv,bne_iff_ne,ne_eq] at h1
  refine⟨h1.1,fun hm=>?_⟩
  rcases h1.2 with (h | h) | h
  ·rw [List.contains_iff_mem.2 hm] at h; cases h
  ·exact .inl ⟨by have:=h.1; rwa [QJ] at this,h.2⟩
  ·exact .inr ⟨by have:=h.1; rwa [QJ] at this,h.2⟩
 ·rw [e1,e2] at h2
  simp only [Qaj,QQ,Qy,Qf] at h2
  rcases h2 with (h | h) | h
  ·rw [QJ] at h; omega
  ·exact .inl h
  ·exact .inr h
 ·rw [e1,e2] at h3
  simp only [Qaj,QQ,Qy,Qf] at h3
  rcases h3 with (((((h | h) | h) | h) | h) | h) | h
  ·exact .inl h
  ·exact .inr (.inl h)
  ·exact .inr (.inr (.inl h))
  ·exact .inr (.inr (.inr (.inl h)))
  ·exact .inr (.inr (.inr (.inr (.inl h))))
  ·exact .inr (.inr (.inr (.inr (.inr (.inl h)))))
  ·exact .inr (.inr (.inr (.inr (.inr (.inr h)))))
theorem Z4a{σ σ':Store}{h h':Hdl}{es by_ m:Nat}{xs:List AV}(ha:σ.app h es by_ xs m=some (h',σ')){b:Nat}(hb:b<σ.objs.length){l:List AV}{rw_:Bool}{e:Nat}(hc:σ'.objs[b]?=some (.cells l rw_ e)) :
  ∃ l' rw',σ.objs[b]?=some (.cells l' rw' e):=by
 have push:∀ {l':List AV} {es':Nat},σ'=σ.push l' es'->∃ l' rw',σ.objs[b]?=some (.cells l' rw' e):=fun {l' es'} he=>by
  rw [he] at hc; simp only [Store.push] at hc
  rw [Qc hb] at hc; exact⟨_,_,hc⟩
 have set:∀ {c:Nat} {l0 l':List AV} {r0 r':Bool} {e0:Nat},σ.objs[c]?=some (.cells l0 r0 e0)->σ'.objs=σ.objs.set c (.cells l' r' e0)->∃ l' rw',σ.objs[b]?=some (.cells l' rw' e):=fun {c l0 l' r0 r' e0} h0 he=>by
  rw [he,Qe] at hc
  by_cases d:c=b
  ·subst d
   rw [if_pos rfl,if_pos hb] at hc
   injection hc with hc; injection hc with _ _ hc
   subst hc; exact⟨_,_,h0⟩
  ·rw [if_neg d] at hc; exact⟨_,_,hc⟩
 have dead:∀ {c:Nat} {l':List AV} {es':Nat},σ'.objs=σ.objs.set c .dead++[.cells l' true es']->∃ l' rw',σ.objs[b]?=some (.cells l' rw' e):=fun {c l' es'} he=>by
  rw [he,Qc (by simpa using hb),Qe] at hc
  by_cases d:c=b
  ·subst d; rw [if_pos rfl,if_pos hb] at hc; cases hc
  ·rw [if_neg d] at hc; exact⟨_,_,hc⟩
 unfold Store.app at ha
 split at ha
 ·injection ha with ha; simp only [Prod.mk.injEq] at ha; rw [<-ha.2] at hc; exact⟨_,_,hc⟩
 ·split at ha
  ·split at ha
   ·injection ha with ha; simp only [Prod.mk.injEq] at ha; exact push ha.2.symm
   ·split at ha
    ·rename_i l0 rw0 es0 Zf
     split at ha
     ·rename_i hcd
      obtain⟨_,rfl⟩:=hcd
      split at ha
      ·split at ha
       ·split at ha
        ·injection ha with ha; simp only [Prod.mk.injEq] at ha; exact set Zf (by rw [<-ha.2])
        ·exact absurd ha (by simp)
       ·injection ha with ha; simp only [Prod.mk.injEq] at ha; exact push ha.2.symm
      ·split at ha
       ·injection ha with ha; simp only [Prod.mk.injEq] at ha; exact dead (by rw [<-ha.2])
       ·exact absurd ha (by simp)
     ·exact absurd ha (by simp)
    ·exact absurd ha (by simp)
  ·exact absurd ha (by simp)
theorem Zpn{P:Program}{b:Builtin}{ts:List TypeId}{args:List AV}{σ σ':Store}{v:AV}(hbb:b=.append)(h:evBuiltin P b ts args σ (fun v σ'=>some (v,σ'))=some (v,σ')){c:Nat}(hb:c<σ.objs.length){l:List AV}{rw_:Bool}{e:Nat}(hc:σ'.objs[c]?=some (.cells l rw_ e)) :
  ∃ l' rw',σ.objs[c]?=some (.cells l' rw' e):=by
 unfold evBuiltin at h
 split at h
 ·cases hbb
 ·cases hbb
 ·cases hbb
 ·cases hbb
 ·cases hbb
 ·cases hbb
 ·split at h
  ·split at h
   ·split at h
    ·split at h
     ·obtain⟨xs,_,h⟩:=Qa.1 h
      obtain⟨⟨h',σ1⟩,hr,h⟩:=Qa.1 h
      injection h with h; simp only [Prod.mk.injEq] at h
      rw [<-h.2] at hc
      exact Z4a hr hb hc
     ·exact absurd h (by simp)
    ·exact absurd h (by simp)
   ·exact absurd h (by simp)
  ·exact absurd h (by simp)
 ·exact absurd h (by simp)
theorem Zzu{P:Program}{Γ:Gam}{q:Bool}{ty:TypeId}{φ:Fr}{σ σ':Store}{op:Op}{v:AV}(ho:isApp op=true)(h:evOpD P Γ q ty φ σ op=some (v,σ')){c:Nat}(hb:c<σ.objs.length){l:List AV}{rw_:Bool}{e:Nat}(hc:σ'.objs[c]?=some (.cells l rw_ e)) :
  ∃ l' rw',σ.objs[c]?=some (.cells l' rw' e):=by
 unfold isApp at ho
 split at ho
 ·rename_i cl
  split at ho
  ·rename_i hcal
   unfold evOpD at h
   simp only [evOp,hcal] at h
   obtain⟨args,_,h⟩:=Qa.1 h
   exact Zpn rfl h hb hc
  ·cases ho
 ·cases ho
theorem Zsl{σ σ':Store}{p:Ptr}{v:AV}(h:σ.st p v=some σ'){b:Nat}(hb:∀ o,p≠some (b,o)):σ'.objs[b]?=σ.objs[b]?:=by
 cases p with
 | none=>simp [Store.st] at h
 | some x=>
  obtain⟨c,o⟩:=x
  simp only [Store.st] at h
  split at h
  ·split at h
   ·injection h with h; subst h
    show (σ.objs.set c _)[b]?=_
    rw [Qe,if_neg (fun e=>hb o (by rw [e]))]
   ·cases h
  ·cases h
theorem Zh0(l:List AV):∀ {σ σ':Store} {p:Ptr} {i:Nat} (_:σ.stL p l i=some σ') {b:Nat} (_:∀ o,p≠some (b,o)),σ'.objs[b]?=σ.objs[b]?:=by
 induction l with
 | nil=>intro σ σ' p i h b hb; simp only [Store.stL] at h; injection h with h; rw [h]
 | cons v l ih=>
  intro σ σ' p i h b hb
  simp only [Store.stL] at h
  obtain⟨σ1,h1,h2⟩:=Qa.1 h
  rw [ih h2 hb]
  refine Zsl h1 fun o e=>?_
  cases p with
  | none=>simp [Ptr.add] at e
  | some x=>obtain⟨c,q⟩:=x; simp [Ptr.add] at e; exact hb q (by rw [e.1])
theorem Ze5{ops:Array Oper}{i j:Nat}{o:Oper}(h:freshSt ops i j o=true):∃ ty t y m a,o.op=.store ty (.tmp t) y/\j<m/\m<i/\ops[m]?=some a/\isA a.op=true/\a.dst=some t:=by
 unfold freshSt at h
 split at h
 ·rename_i ty t y he
  obtain⟨m,hm,h⟩:=Qar.1 h
  simp only [Qf] at h
  obtain⟨h1,h2⟩:=h
  split at h2
  ·rename_i a ha
   simp only [Qf,beq_iff_eq] at h2
   exact⟨ty,t,y,m,a,he,by rwa [QJ] at h1,Q6.1 hm,ha,h2.1,h2.2⟩
  ·cases h2
 ·cases h
def Ext(σ σ':Store):Prop:=σ'.prot=σ.prot/\∃ more,σ'.objs=σ.objs++more
theorem Ext.refl(σ:Store):Ext σ σ:=⟨rfl,[],by simp⟩
theorem Ext.trans{σ σ1 σ2:Store}(h:Ext σ σ1)(k:Ext σ1 σ2):Ext σ σ2:=by
 obtain⟨h1,m,h2⟩:=h
 obtain⟨k1,m',k2⟩:=k
 exact⟨k1.trans h1,m++m',by rw [k2,h2,QM]⟩
theorem Ext.push(σ:Store)(l:List AV)(es:Nat):Ext σ (σ.push l es):=⟨rfl,_,rfl⟩
theorem Ext.len{σ σ':Store}(h:Ext σ σ'):σ.objs.length<=σ'.objs.length:=by obtain⟨_,m,h⟩:=h; rw [h]; simp
theorem Ext.get{σ σ':Store}(h:Ext σ σ'){b:Nat}(hb:b<σ.objs.length):σ'.objs[b]?=σ.objs[b]?:=by obtain⟨_,m,h⟩:=h; rw [h,Qc hb]
theorem Ste.grow{μ:Mu}{σ σ':Store}{w:World}(h:Rel μ σ w)(he:Ext σ σ'):Ste μ σ w μ σ' w:=by
 have hg:∀ b L,μ b=some L->σ'.objs[b]?=σ.objs[b]?:=fun b L hb=>he.get (h.dom b L hb)
 refine⟨⟨fun b L hb=>Qm (h.dom b L hb) he.len,h.dat,?_,?_,?_,?_⟩,fun _ _=>rfl,he.len,he.1,fun b _ hb=>he.get hb,Qg _,rfl,rfl,rfl,fun _ _ _=>rfl,?_,Qg _⟩
 ·intro b l rw es L ho hb; rw [hg b L hb] at ho; exact h.cells b l rw es L ho hb
 ·intro b l es L ho hb; rw [hg b L hb] at ho; exact h.rw b l es L ho hb
 ·intro b o L ho hx hb; rw [hg b L hb] at ho; exact h.obj b o L ho hx hb
 ·intro b b' o o' L L' h1 h2 h3 h4 h5 h6 h7; rw [hg b L h6] at h1; rw [hg b' L' h7] at h3; exact h.sep b b' o o' L L' h1 h2 h3 h4 h5 h6 h7
 ·rintro c ⟨b,o,L,ho,hf,hp,hL,hc⟩ _
  rw [hg b L hL] at ho
  exact⟨b,o,L,ho,hf,by rw [<-he.1]; exact hp,hL,hc⟩
theorem Ste.late{μ0 μ:Mu}{σ0 σ:Store}{w0 w:World}(h0:Ste μ0 σ0 w0 μ σ w){m:Nat}(hm:μ m=none)(hm0:σ0.objs.length<=m){l:List AV}{es:Nat}(hr:σ.objs[m]?=some (.cells l true es))
  {cs:Array Value} (hv:VL μ l (cs.toList.take l.length)) (hl:l.length<=cs.size) (ty:TypeId) (fz:Nat×Nat) (hz:Thaw fz cs.size):Ste μ0 σ0 w0 (μ.up m ⟨w.heap.size,0,cs.size,es⟩) σ (w.alloc (.cells cs ty fz)):=by
 have h:=h0.rel
 have hml:m<σ.objs.length:=(Qb.1 hr).1
 have hnew:(w.alloc (.cells cs ty fz)).heap[w.heap.size]?=some (.cells cs ty fz):=by
  show (w.heap.push _)[w.heap.size]?=_; simp
 have hold:∀ c,c<w.heap.size->(w.alloc (.cells cs ty fz)).heap[c]?=w.heap[c]?:=fun c hc=>Below.heap_alloc w _ c hc
 have hne:∀ b L,μ b=some L->b≠m:=fun b L hb e=>by rw [e,hm] at hb; cases hb
 have hmono:∀ b L,μ b=some L->(μ.up m ⟨w.heap.size,0,cs.size,es⟩) b=some L:=fun b L hb=>by rw [Mu.up_ne _ _ (hne b L hb)]; exact hb
 have hsz:(w.alloc (.cells cs ty fz)).heap.size=w.heap.size+1:=by show (w.heap.push _).size=_; simp
 refine⟨⟨?_,?_,?_,?_,?_,?_⟩,?_,h0.len,h0.prot,h0.keep,by have:=h0.size; omega,h0.os,h0.tape,h0.output,?_,?_,h0.drawn⟩
 ·intro b L hb
  by_cases e:b=m
  ·omega
  ·rw [Mu.up_ne _ _ e] at hb; exact h.dom b L hb
 ·intro b L hb
  by_cases e:b=m
  ·subst e; rw [Mu.up_self] at hb; injection hb with hb; subst hb; exact .inl ⟨_,_,_,hnew⟩
  ·rw [Mu.up_ne _ _ e] at hb; exact (h.dat b L hb).of (hold _ (h.lt b L hb))
 ·intro b k rw es' L ho hb
  by_cases e:b=m
  ·subst e
   rw [hr] at ho
   injection ho with ho; injection ho with h1 h2 h3; subst h1 h2 h3
   rw [Mu.up_self] at hb; injection hb with hb; subst hb
   refine⟨rfl,hl,fun j v hj=>?_⟩
   have hjl:j<l.length:=(Qb.1 hj).1
   have hjc:j<cs.size:=by omega
   refine⟨cs[j],?_,(hv.2 j v cs[j] hj ?_).mono hmono⟩
   ·simp only [World.cell?,hnew]; simp [hjc]
   ·rw [Qq,if_pos hjl]; simp [hjc]
  ·rw [Mu.up_ne _ _ e] at hb
   obtain⟨h1,h2,h3⟩:=h.cells b k rw es' L ho hb
   exact⟨h1,h2,fun j v hj=>by obtain⟨c,hc,hv'⟩:=h3 j v hj; exact⟨c,(Zy (hold _ (h.lt b L hb))).trans hc,hv'.mono hmono⟩⟩
 ·intro b k es' L ho hb
  by_cases e:b=m
  ·subst e
   rw [Mu.up_self] at hb; injection hb with hb; subst hb
   exact⟨cs,ty,fz,hnew,by simp,hz⟩
  ·rw [Mu.up_ne _ _ e] at hb
   rw [hold _ (h.lt b L hb)]
   exact h.rw b k es' L ho hb
 ·intro b k L ho hx hb
  by_cases e:b=m
  ·subst e; rw [hr] at ho; injection ho with ho; subst ho; cases hx
  ·rw [Mu.up_ne _ _ e] at hb
   rw [hold _ (h.lt b L hb)]
   obtain⟨ob,h1,h2⟩:=h.obj b k L ho hx hb
   exact⟨ob,h1,h2.mono hmono⟩
 ·intro b b' o o' L L' h1 h2 h3 h4 h5 h6 h7
  by_cases e:b=m
  ·have e':b'≠m:=fun x=>h5 (e.trans x.symm)
   rw [Mu.up_ne _ _ e'] at h7
   subst e
   rw [Mu.up_self] at h6; injection h6 with h6; subst h6
   have:=h.lt b' L' h7
   dsimp only; omega
  ·rw [Mu.up_ne _ _ e] at h6
   by_cases e':b'=m
   ·subst e'
    rw [Mu.up_self] at h7; injection h7 with h7; subst h7
    have:=h.lt b L h6
    dsimp only; omega
   ·rw [Mu.up_ne _ _ e'] at h7
    exact h.sep b b' o o' L L' h1 h2 h3 h4 h5 h6 h7
 ·intro b hb; rw [Mu.up_ne _ _ (by omega)]; exact h0.agree b hb
 ·intro c hc hn
  rw [hold c (Qm hc h0.size)]; exact h0.pres c hc hn
 ·rintro c ⟨b,o,L,ho,hf,hp,hL,rfl⟩ hc
  by_cases e:b=m
  ·subst e
   rw [Mu.up_self] at hL; injection hL with hL; subst hL
   have:=h0.size
   simp only at hc; omega
  ·rw [Mu.up_ne _ _ e] at hL
   exact h0.own _ ⟨b,o,L,ho,hf,hp,hL,rfl⟩ hc
theorem Zz2{P:Program}{Γ:Gam}{μ:Mu}{σ:Store}{w:World}{φ:Fr}{a:Act}{nt:Nat}{q:Bool}{ty:TypeId}{R:Type}{K:AV->Store->Option R}{r:R}(hF:FrR nt μ φ a){o:Oper}(hA:isA o.op=true)(h:evOp P Γ q ty φ σ K o.op=some r) :
  ∃ l es mk,K (mk σ.objs.length) (σ.push l es)=some r/\Lays P μ w (execOp a.eval o) l es mk:=by
 cases ho:o.op with
 | alloc t=>rw [ho] at h; exact Zkn h ho
 | box t x=>rw [ho] at h; exact Zqn hF h ho
 | makeSlice t l c=>rw [ho] at h; exact Zfj hF h ho
 | buildSlice t l c=>rw [ho] at h; exact Zes hF h ho
 | convert s d x=>
  rw [ho] at h hA
  simp only [isA,Qf,Qv] at hA
  exact Zhj hF hA.1 hA.2 h ho
 | _=>rw [ho] at hA; simp [isA] at hA
theorem Zti{op:Op}(h:isA op=true):isE op=true:=by
 cases op <;> first | rfl | (simp [isA] at h; done) | skip
 rename_i s d x
 simp only [isA,Qf,Qv] at h
 have:Q0 s d=false:=by
  cases e:Q0 s d with
  | false=>rfl
  | true=>
   have:=Qj e
   subst this
   rw [h.1] at h; exact absurd h.2 (by simp)
 simp [isE,pureOp,isLoad,h.1,h.2,this]
def isN(op:Op):Bool:=isE op&&!isA op
section
variable {P:Program} {Γ:Gam} {nt qs:Nat} {ap:List (Nat×Nat)} {ops:Array Oper} {ro:Option Nat} {n:Nat}
theorem Zwr(hΓ:GS P Γ)(hK:GK Γ)(hdr:drawn ops=some (qs,ap)){X:Nat->Bool}{V:Nat->AV}{S:Nat->Store}{Φ:Nat->Fr}{φ:Fr}(hΦ0:∀ t,(Φ 0).get t=φ.get t)(hap:Apart φ ap)
  (hst:∀ (k:Nat) (o:Oper),ops[k]?=some o->Step P Γ nt ops (bitOn qs k) o (Φ k) (S k) (X k) (V k) (Φ (k+1)) (S (k+1)))
  {μ0:Mu} {w0:World} {a0:Act} (hR0:Rel μ0 (S 0) w0) (hnt:nt<=a0.tmps.size) {Q:Exit->Act->World->Prop}
  (hQ:∀ μ' a' w',FrR nt μ' (Φ ops.size) a'->Ste μ0 (S 0) w0 μ' (S ops.size) w'->a'.defers=a0.defers->Q .normal a' w') (fuel:Nat):∀ (listed:Array Bool) (a:Act) (w:World) (μ:Mu) (e:Nat)
  (_:listed.size=ops.size) (_:((Q5 ops.size).filter fun i=>!listed.getD i true).length<=fuel)
  (_:∀ (i:Nat) (o:Oper),ops[i]?=some o->listed.getD i false=true->∀ e∈o.after.toList,Region.binds .any e=true->listed.getD e.on false=true)
  (_:e<=ops.size) (_:∀ (k:Nat) (o:Oper),k<e->ops[k]?=some o->X k=true->isN o.op=true->listed.getD k false=true)
  (_:∀ (o:Oper),ops[e]?=some o->X e=true/\isN o.op=true/\listed.getD e false=false)
  (_:∀ (k:Nat) (o:Oper),k<e->ops[k]?=some o->X k=true->isA o.op=true->listed.getD k false=false->μ (S k).objs.length=none/\(S e).objs[(S k).objs.length]?=(S (k+1)).objs[(S k).objs.length]?)
  (_:Ste μ0 (S 0) w0 μ (S e) w) (_:nt<=a.tmps.size) (_:a.defers=a0.defers)
  (_:∀ (i:Nat) (o:Oper) (t:Nat),ops[i]?=some o->listed.getD i false=true->o.dst=some t->VR μ (V i) (a.tmps.getD t undef))
  (_:∀ (t:Nat) (v:AV),(∀ (i:Nat) (o:Oper),ops[i]?=some o->listed.getD i false=true->o.dst≠some t)->φ.get t=some v->VR μ v (a.tmps.getD t undef)),
  wpAnyIn (W ro) n P .any ops Q fuel listed a w:=by
 obtain⟨hE,hPair⟩:=Zws hdr
 have hΦ:∀ (i t:Nat),i<=ops.size->(∃ (k:Nat) (o:Oper),k<i/\ops[k]?=some o/\o.dst=some t/\(Φ i).get t=some (V k))\/((∀ (k:Nat) (o:Oper),k<i->ops[k]?=some o->o.dst≠some t)/\(Φ i).get t=φ.get t):=by
  intro i t
  induction i with
  | zero=>intro _; exact .inr ⟨fun k o hk=>by omega,hΦ0 t⟩
  | succ i ih=>
   intro hi
   have ho:ops[i]?=some ops[i]:=by simp [show i<ops.size by omega]
   have hget:=(hst i _ ho).get t
   by_cases c:ops[i].dst=some t
   ·rw [if_pos c] at hget
    exact .inl ⟨i,_,by omega,ho,c,hget⟩
   ·rw [if_neg c] at hget
    rcases ih (by omega) with ⟨k,o,h1,h2,h3,h4⟩ | ⟨h1,h2⟩
    ·exact .inl ⟨k,o,by omega,h2,h3,hget.trans h4⟩
    ·refine .inr ⟨fun k o hk hko=>?_,hget.trans h2⟩
     by_cases e:k=i
     ·subst e; rw [ho] at hko; injection hko with hko; subst hko; exact c
     ·exact h1 k o (by omega) hko
 have hSame:∀ (k:Nat) (o:Oper),ops[k]?=some o->¬ (X k=true/\isE o.op=true)->S (k+1)=S k:=by
  intro k o ho hn
  have st:=hst k o ho
  cases hx:X k with
  | false=>exact (st.skip hx).2
  | true=>
   have hne:isE o.op=false:=by
    cases h:isE o.op with
    | false=>rfl
    | true=>exact absurd ⟨hx,h⟩ hn
   unfold isE at hne
   have hex:=st.exec hx
   by_cases hp:pureOp o.op=true
   ·exact (Zo1 hp hex).1
   ·have hl:isLoad o.op=true:=by simpa [hp] using hne
    exact (Zbi hK hex).2.1 hl
 have hLen:∀ (k:Nat),k<ops.size->(S k).objs.length<=(S (k+1)).objs.length:=by
  intro k hk
  have st:=hst k ops[k] (by simp [hk])
  cases hx:X k with
  | false=>rw [(st.skip hx).2]; exact Qg _
  | true=>exact (Zbi hK (st.exec hx)).1.len
 have hPush:∀ (k:Nat) (o:Oper),ops[k]?=some o->X k=true->isA o.op=true->∃ l es,S (k+1)=(S k).push l es:=by
  intro k o ho hx hA
  obtain⟨l,es,mk,_,h,_⟩:=Zdx hA ((hst k o ho).exec hx)
  exact⟨l,es,h⟩
 have hExt1:∀ (k:Nat) (o:Oper),ops[k]?=some o->¬ (X k=true/\isN o.op=true)->Ext (S k) (S (k+1)):=by
  intro k o ho hn
  by_cases hA:X k=true/\isA o.op=true
  ·obtain⟨l,es,h⟩:=hPush k o ho hA.1 hA.2
   rw [h]; exact Ext.push ..
  ·rw [hSame k o ho (fun h=>by
    cases hAo:isA o.op with
    | true=>exact hA ⟨h.1,hAo⟩
    | false=>exact hn ⟨h.1,by simp [isN,h.2,hAo]⟩)]
   exact Ext.refl _
 have hExt:∀ (d i:Nat),i+d<=ops.size->(∀ (k:Nat) (o:Oper),i<=k->k<i+d->ops[k]?=some o->¬ (X k=true/\isN o.op=true))->Ext (S i) (S (i+d)):=by
  intro d
  induction d with
  | zero=>intro i _ _; exact Ext.refl _
  | succ d ihd=>
   intro i hi hq
   exact (ihd i (by omega) (fun k o h1 h2=>hq k o h1 (by omega))).trans (hExt1 (i+d) ops[i+d] (by simp [show i+d<ops.size by omega]) (hq (i+d) _ (by omega) (by omega) (by simp [show i+d<ops.size by omega])))
 have hLenLe:∀ (d i:Nat),i+d<=ops.size->(S i).objs.length<=(S (i+d)).objs.length:=by
  intro d
  induction d with
  | zero=>intro i _; exact Qg _
  | succ d ihd=>intro i hi; exact QH (ihd i (by omega)) (hLen (i+d) (by omega))
 have hLenA:∀ (k:Nat) (o:Oper),ops[k]?=some o->X k=true->isA o.op=true->∀ j,k<j->j<=ops.size->(S k).objs.length<(S j).objs.length:=by
  intro k o ho hx hA j hj hjs
  obtain⟨l,es,h⟩:=hPush k o ho hx hA
  have h1:=hLenLe (j-(k+1)) (k+1) (by omega)
  rw [show k+1+(j-(k+1))=j by omega,h] at h1
  simp [Store.push] at h1; omega
 have hChain:∀ (b d i:Nat),i+d<=ops.size->(∀ (k:Nat) (o:Oper),i<=k->k<i+d->ops[k]?=some o->X k=true->isE o.op=true->(isCallV o.op=true/\bitOn qs k=true)\/isA o.op=true\/(b<(S i).objs.length->(S (k+1)).objs[b]?=(S k).objs[b]?)) ->
   (S i).objs.length<=(S (i+d)).objs.length/\(b<(S i).objs.length->(S (i+d)).objs[b]?=(S i).objs[b]?):=by
  intro b d
  induction d with
  | zero=>intro i _ _; exact⟨Nat.le_refl _,fun _=>rfl⟩
  | succ d ihd=>
   intro i hi hq
   obtain⟨h1,h2⟩:=ihd i (by omega) (fun k o hk1 hk2=>hq k o hk1 (by omega))
   have ho:ops[i+d]?=some ops[i+d]:=by simp [show i+d<ops.size by omega]
   refine⟨Nat.le_trans h1 (hLen (i+d) (by omega)),fun hb=>?_⟩
   rw [<-h2 hb]
   show (S (i+d+1)).objs[b]?=_
   by_cases hx:X (i+d)=true/\isE ops[i+d].op=true
   ·rcases hq (i+d) _ (by omega) (by omega) ho hx.1 hx.2 with ⟨q1,q2⟩ | q | q
    ·exact (Zbi hK ((hst _ _ ho).exec hx.1)).2.2 q1 q2 b (Qm hb h1)
    ·obtain⟨l,es,h⟩:=hPush _ _ ho hx.1 q
     rw [h]; exact (Ext.push ..).get (Qm hb h1)
    ·exact q hb
   ·rw [hSame _ _ ho hx]
 have hFresh:∀ (k i:Nat) (p:Oper),ops[k]?=some p->X k=true->freshSt ops k i p=true->∀ b,b<(S i).objs.length->(S (k+1)).objs[b]?=(S k).objs[b]?:=by
  intro k i p hkp hxk hf b hb
  obtain⟨ty,t,y,m,al,h1,h2,h3,h4,h5,h6⟩:=Ze5 hf
  have hks:k<ops.size:=(Qd.1 hkp).1
  have hex:=(hst k p hkp).exec hxk
  rw [h1] at hex
  unfold evOpD at hex
  simp only [evOp] at hex
  split at hex
  ·rename_i q v hq hv
   split at hex
   ·obtain⟨σ1,g1,g2⟩:=Qa.1 hex
    injection g2 with g2
    simp only [Prod.mk.injEq] at g2
    rw [<-g2.2]
    refine Zh0 _ g1 fun o' e=>?_
    have hq':(Φ k).get t=some (.ptr q):=hq
    rcases hΦ k t (by omega) with ⟨k2,o2,c1,c2,c3,c4⟩ | ⟨c1,c2⟩
    ·have:k2=m:=by
      by_cases e2:k2=m
      ·exact e2
      ·exact absurd h6 ((Zp (hPair k2 m o2 al c2 h4 e2)).1 t c3).1
     subst this
     rw [h4] at c2; injection c2 with c2; subst c2
     rw [c4] at hq'; injection hq' with hq'
     cases hxm:X k2 with
     | false=>rw [((hst k2 al h4).skip hxm).1] at hq'; cases hq'
     | true=>
      obtain⟨l,es,mk,d1,d2,_,d4⟩:=Zdx h5 ((hst k2 al h4).exec hxm)
      rw [d1] at hq'
      have hle:=hLenLe (k2-i) i (by omega)
      rw [show i+(k2-i)=k2 by omega] at hle
      rcases d4 with rfl | ⟨x1,x2,rfl⟩
      ·injection hq' with hq'
       rw [<-hq'] at e
       injection e with e; injection e with e _
       omega
      ·cases hq'
    ·exact absurd h6 (c1 m al h3 h4)
   ·cases hex
  ·cases hex
 have hApart:∀ (k i:Nat) (p o:Oper) (ty:TypeId) (x:Operand) (b off:Nat),ops[k]?=some p->ops[i]?=some o->X k=true->apSt ops ap p o=true->o.op=.load ty x->(Φ i).ev x=some (.ptr (some (b,off)))->(S (k+1)).objs[b]?=(S k).objs[b]?:=by
  intro k i p o ty x b off hkp hio hxk hs hop hx
  unfold apSt at hs
  split at hs
  case h_2=>cases hs
  rename_i st hst2
  obtain⟨s0,t0⟩:=st
  simp only [Qf,QD] at hs
  obtain⟨hs1,hs2⟩:=hs
  obtain⟨y,hy,hy2⟩:=Qar.1 hs1
  simp only [Qf] at hy2
  obtain⟨y0,y1⟩:=y
  have e0:=Qj hy2.1
  have e1:=Qj hy2.2
  simp only at e0 e1
  subst e0 e1
  have hno:∀ (z:Nat) (oz:Oper),ops[z]?=some oz->oz.dst≠some y0/\oz.dst≠some y1:=fun z oz hz=>by
   have:=hs2 oz (List.mem_of_getElem? (by simpa using hz:ops.toList[z]?=some oz))
   simpa using this
  have frame:∀ (z t:Nat),z<=ops.size->(∀ (q:Nat) (oz:Oper),ops[q]?=some oz->oz.dst≠some t)->(Φ z).get t=φ.get t:=fun z t hz hn=>by
   rcases hΦ z t hz with ⟨k2,o2,c1,c2,c3,c4⟩ | ⟨c1,c2⟩
   ·exact absurd c3 (hn k2 o2 c2)
   ·exact c2
  have hks:k<ops.size:=(Qd.1 hkp).1
  have his:i<ops.size:=(Qd.1 hio).1
  unfold pairSt at hst2
  split at hst2
  case h_2=>cases hst2
  rename_i ty1 s1 v1 ty2 t1 g1 g2
  injection hst2 with hst2
  simp only [Prod.mk.injEq] at hst2
  obtain⟨rfl,rfl⟩:=hst2
  rw [hop] at g2
  injection g2 with _ g2
  subst g2
  obtain⟨P1,Q1,a1,a2,a3⟩:=hap _ hy
  simp only at a1 a2
  have hx':(Φ i).get t1=some (.ptr (some (b,off))):=hx
  rw [frame i t1 (by omega) (fun q oz hq=>(hno q oz hq).2),a2] at hx'
  injection hx' with hx'; injection hx' with hx'
  have hex:=(hst k p hkp).exec hxk
  rw [g1] at hex
  unfold evOpD at hex
  simp only [evOp] at hex
  split at hex
  ·rename_i q v hq hv
   split at hex
   ·obtain⟨σ1,g1,g2⟩:=Qa.1 hex
    injection g2 with g2
    simp only [Prod.mk.injEq] at g2
    rw [<-g2.2]
    refine Zh0 _ g1 fun o' e=>?_
    have hq':(Φ k).get s1=some (.ptr q):=hq
    rw [frame k s1 (by omega) (fun q oz hq=>(hno q oz hq).1),a1] at hq'
    injection hq' with hq'; injection hq' with hq'
    rw [hq',e,hx'] at a3
    simp [Ptr.off] at a3
   ·cases hex
  ·cases hex
 have hNext:∀ (d m:Nat),m+d=ops.size->∃ e',m<=e'/\e'<=ops.size/\(∀ (k:Nat) (o:Oper),m<=k->k<e'->ops[k]?=some o->¬ (X k=true/\isN o.op=true))/\(∀ (o:Oper),ops[e']?=some o->X e'=true/\isN o.op=true):=by
  intro d
  induction d with
  | zero=>intro m hm; exact⟨m,Qg _,by omega,fun k o h1 h2=>by omega,fun o ho=>by have:=(Qd.1 ho).1; omega⟩
  | succ d ihd=>
   intro m hm
   have ho:ops[m]?=some ops[m]:=by simp [show m<ops.size by omega]
   by_cases hx:X m=true/\isN ops[m].op=true
   ·exact⟨m,Qg _,by omega,fun k o h1 h2=>by omega,fun o ho'=>by rw [ho] at ho'; injection ho' with ho'; subst ho'; exact hx⟩
   ·obtain⟨e',h1,h2,h3,h4⟩:=ihd (m+1) (by omega)
    refine⟨e',by omega,h2,fun k o hk1 hk2 hko=>?_,h4⟩
    by_cases e:k=m
    ·subst e; rw [ho] at hko; injection hko with hko; subst hko; exact hx
    ·exact h3 k o (by omega) hk2 hko
 have hAll:∀ (listed:Array Bool),listed.size=ops.size->Region.ready .any ops listed=[]->∀ i,i<ops.size->listed.getD i false=true:=by
  intro listed hsz hr i
  induction i using QY with
  | _ i ih=>
   intro hi
   cases hl:listed.getD i false with
   | true=>rfl
   | false=>
    exfalso
    have ho:ops[i]?=some ops[i]:=by simp [hi]
    have:i∈Region.ready .any ops listed:=by
     unfold Region.ready
     rw [QZ]
     refine⟨List.mem_range.2 hi,?_⟩
     have h1:listed.getD i true=false:=by
      have:i<listed.size:=by omega
      simp [QW,this] at hl ⊢; exact hl
     rw [h1,ho]
     simp only [Bool.not_false,Qay,Qz,QR]
     rw [Qal]
     intro e he
     cases hb:Region.binds .any e with
     | false=>simp
     | true=>
      have hon:=hE i _ ho e (by simpa using he) hb
      simp only [Qaj,QQ]
      exact ih e.on hon (by omega)
    rw [hr] at this; cases this
 have hEnd:∀ (listed:Array Bool) (a:Act) (w:World) (μ:Mu) (e:Nat),(∀ i,i<ops.size->listed.getD i false=true)->e<=ops.size->(∀ (o:Oper),ops[e]?=some o->X e=true/\isN o.op=true/\listed.getD e false=false) ->
   Ste μ0 (S 0) w0 μ (S e) w->nt<=a.tmps.size->a.defers=a0.defers ->
   (∀ (i:Nat) (o:Oper) (t:Nat),ops[i]?=some o->listed.getD i false=true->o.dst=some t->VR μ (V i) (a.tmps.getD t undef)) ->
   (∀ (t:Nat) (v:AV),(∀ (i:Nat) (o:Oper),ops[i]?=some o->listed.getD i false=true->o.dst≠some t)->φ.get t=some v->VR μ v (a.tmps.getD t undef))->Q .normal a w:=by
  intro listed a w μ e hall he1 he3 hS hnta hdf hfr1 hfr2
  have hen:e=ops.size:=by
   rcases Q7 e ops.size with h | h
   ·have:=(he3 ops[e] (by simp [h])).2.2
    rw [hall e h] at this; cases this
   ·omega
  subst hen
  refine hQ μ a w ⟨fun t v ht=>?_,hnta⟩ hS hdf
  rcases hΦ ops.size t (Qg _) with ⟨k,o,h1,h2,h3,h4⟩ | ⟨h1,h2⟩
  ·rw [h4] at ht; injection ht with ht; subst ht
   exact hfr1 k o t h2 (hall k h1) h3
  ·rw [h2] at ht
   exact hfr2 t v (fun i o hi _=>h1 i o (Qd.1 hi).1 hi) ht
 induction fuel with
 | zero=>
  intro listed a w μ e hsz hcnt hcl he1 he2 he3 hAq hS hnta hdf hfr1 hfr2
  have hnil:(Q5 ops.size).filter (fun i=>!listed.getD i true)=[]:=Ql (by omega)
  have hall:∀ i,i<ops.size->listed.getD i false=true:=by
   intro i hi
   have:=QX.1 hnil i (Q6.2 hi)
   have hlt:i<listed.size:=by omega
   simp [QW,hlt] at this ⊢; exact this
  refine⟨?_,hEnd listed a w μ e hall he1 he3 hS hnta hdf hfr1 hfr2⟩
  unfold Region.ready
  rw [QX]
  intro i hi
  have:=hall i (Q6.1 hi)
  have hlt:i<listed.size:=by have:=Q6.1 hi; omega
  simp [QW,hlt] at this ⊢
  intro h; rw [this] at h; cases h
 | succ fuel ih=>
  intro listed a w μ e hsz hcnt hcl he1 he2 he3 hAq hS hnta hdf hfr1 hfr2
  refine⟨fun hr=>hEnd listed a w μ e (hAll listed hsz hr) he1 he3 hS hnta hdf hfr1 hfr2,fun i hi=>?_⟩
  unfold Region.ready at hi
  rw [QZ] at hi
  obtain⟨hin,hi⟩:=hi
  have hin:=Q6.1 hin
  have ho:ops[i]?=some ops[i]:=by simp [hin]
  generalize ops[i]=o at ho
  rw [ho] at hi
  simp only [Qf,Qv,Qz,QR] at hi
  obtain⟨hil,hia⟩:=hi
  have hil':listed.getD i false=false:=by
   have hlt:i<listed.size:=by omega
   simp [QW,hlt] at hil ⊢; exact hil
  have hdir:∀ e∈o.after.toList,Region.binds .any e=true->listed.getD e.on false=true:=by
   intro e he hb
   rw [Qal] at hia
   have:=hia e (by simpa using he)
   simpa [hb] using this
  have hbi:∀ k,bitOn ((befs ops.toList []).getD i 0) k=true->listed.getD k false=true:=Zfs hE hcl i o ho hdir
  have hbl:∀ (j:Nat) (p:Oper),ops[j]?=some p->listed.getD j false=true->∀ k,bitOn ((befs ops.toList []).getD j 0) k=true->listed.getD k false=true:=fun j p hj hl=>Zfs hE hcl j p hj (hcl j p hj hl)
  have hlt:∀ (j:Nat) (p:Oper),ops[j]?=some p->∀ k,bitOn ((befs ops.toList []).getD j 0) k=true->k<j:=fun j p hj=>Zfs (D:=fun k=>k<j) hE (fun i o hi hD e he hb=>Nat.lt_trans (hE i o hi e he hb) hD) j p hj (hE j p hj)
  have st:=hst i o ho
  have hread:∀ t v,t∈readsL ops o->(Φ i).get t=some v->VR μ v (a.tmps.getD t undef):=by
   intro t v ht hv
   by_cases hex:∃ (k:Nat) (p:Oper),ops[k]?=some p/\p.dst=some t/\k≠i
   ·obtain⟨k,p,hk,hpt,hki⟩:=hex
    have hp:=Zp (hPair k i p o hk ho hki)
    rcases ((hp.1 t hpt).2 ht) with ⟨h1,h2⟩ | ⟨h1,h2⟩
    ·rcases hΦ i t (by omega) with ⟨k2,o2,g1,g2,g3,g4⟩ | ⟨g1,g2⟩
     ·have:k2=k:=by
       by_cases e:k2=k
       ·exact e
       ·exact absurd hpt ((Zp (hPair k2 k o2 p g2 hk e)).1 t g3).1
      subst this
      rw [g4] at hv; injection hv with hv; subst hv
      exact hfr1 k2 p t hk (hbi k2 h2) hpt
     ·exact absurd hpt (g1 k p h1 hk)
    ·have hkl:listed.getD k false=false:=by
      cases h:listed.getD k false with
      | false=>rfl
      | true=>have:=hbl k p hk h i h2; rw [hil'] at this; cases this
     have huniq:∀ (k2:Nat) (o2:Oper),ops[k2]?=some o2->o2.dst=some t->k2=k:=by
      intro k2 o2 g2 g3
      by_cases e:k2=k
      ·exact e
      ·exact absurd hpt ((Zp (hPair k2 k o2 p g2 hk e)).1 t g3).1
     rcases hΦ i t (by omega) with ⟨k2,o2,g1,g2,g3,g4⟩ | ⟨g1,g2⟩
     ·have:=huniq k2 o2 g2 g3; omega
     ·rw [g2] at hv
      refine hfr2 t v (fun k2 o2 q1 q2 q3=>?_) hv
      have:=huniq k2 o2 q1 q3
      subst this; rw [hkl] at q2; cases q2
   ·rcases hΦ i t (by omega) with ⟨k2,o2,g1,g2,g3,g4⟩ | ⟨g1,g2⟩
    ·exact absurd ⟨k2,o2,g2,g3,by omega⟩ hex
    ·rw [g2] at hv
     refine hfr2 t v (fun k2 o2 q1 q2 q3=>?_) hv
     by_cases e:k2=i
     ·subst e; rw [hil'] at q2; cases q2
     ·exact hex ⟨k2,o2,q1,q3,e⟩
  have hwant:Region.wanted o (yielded ops a.tmps)=X i:=by
   have hw:=st.wants
   unfold Wants at hw
   unfold Region.wanted
   cases hg:o.guard with
   | none=>rw [hg] at hw; exact hw.symm
   | some jw=>
    obtain⟨j,want⟩:=jw
    rw [hg] at hw
    obtain⟨d,h1,⟨x,h2,h3⟩ | ⟨l,h2,h3⟩⟩:=hw
    ·have:=(hread d _ (by simp [readsL,hg,h1]) h2).bool_inv
     simp only [Zlh h1 this,h3]
     cases x <;> cases want <;> rfl
    ·obtain⟨l',hl'⟩:=(hread d _ (by simp [readsL,hg,h1]) h2).tuple_inv
     simp only [Zh3 h1 hl',h3]
     rfl
  have hset:∀ k,(listed.setIfInBounds i true).getD k false=if k=i then true else listed.getD k false:=by
   intro k
   rw [Qo,Q3,Qo]
   by_cases e:k=i
   ·subst e; rw [if_pos rfl,if_pos rfl,if_pos (by omega)]; rfl
   ·rw [if_neg (Ne.symm e),if_neg e]
  have hcnt':((Q5 ops.size).filter fun k=>!(listed.setIfInBounds i true).getD k true).length<=fuel:=by
   have h1:∀ (l:List Nat),(l.filter fun k=>!(listed.setIfInBounds i true).getD k true)=(l.filter fun k=>!listed.getD k true).filter (fun k=>k != i):=by
    intro l
    rw [List.filter_filter]
    congr 1; funext k
    rw [Qo,Q3,Qo]
    by_cases e:k=i
    ·subst e; rw [if_pos rfl,if_pos (by omega)]; simp
    ·rw [if_neg (Ne.symm e)]; simp [e]
   rw [h1]
   have hmem:i∈(Q5 ops.size).filter fun k=>!listed.getD k true:=by rw [QZ]; exact⟨List.mem_range.2 hin,by rw [hil]; rfl⟩
   have hlt2:∀ (l:List Nat),i∈l->(l.filter (fun k=>k != i)).length<l.length:=by
    intro l hm
    refine Nat.lt_of_le_of_ne (Qaa _ _) fun e=>?_
    have:=List.length_filter_eq_length_iff.1 e i hm
    simp at this
   have:=hlt2 _ hmem
   omega
  have next:∀ (μ':Mu) (w':World) (c:Value) (e':Nat),Ste μ0 (S 0) w0 μ' (S e') w'->(∀ b L,μ b=some L->μ' b=some L)->VR μ' (V i) c->e'<=ops.size ->
    (∀ (k:Nat) (o:Oper),k<e'->ops[k]?=some o->X k=true->isN o.op=true->(listed.setIfInBounds i true).getD k false=true) ->
    (∀ (o:Oper),ops[e']?=some o->X e'=true/\isN o.op=true/\(listed.setIfInBounds i true).getD e' false=false) ->
    (∀ (k:Nat) (o:Oper),k<e'->ops[k]?=some o->X k=true->isA o.op=true->k≠i->listed.getD k false=false->μ' (S k).objs.length=none/\(S e').objs[(S k).objs.length]?=(S (k+1)).objs[(S k).objs.length]?) ->
    wpAnyIn (W ro) n P .any ops Q fuel (listed.setIfInBounds i true) (a.put o.dst c) w':=by
   intro μ' w' c e' hS' hmono hv g1 g2 g3 g4
   have hget:∀ t,o.dst≠some t->(a.put o.dst c).tmps.getD t undef=a.tmps.getD t undef:=by
    intro t ht
    cases hd:o.dst with
    | none=>rfl
    | some d=>
     simp only [Act.put,Qo]
     rw [Q3,if_neg (fun e=>ht (by rw [hd,e]))]
   refine ih (listed.setIfInBounds i true) (a.put o.dst c) w' μ' e' (by simpa using hsz) hcnt' ?_ g1 g2 g3 (fun k p hk hp hx hA hl=>by rw [hset] at hl; by_cases e:k=i; { rw [if_pos e] at hl; cases hl }; { rw [if_neg e] at hl; exact g4 k p hk hp hx hA e hl }) hS' ?_ ((Act.put_defers _ _ _).trans hdf) ?_ ?_
   ·intro k p hk hl e he hb
    rw [hset] at hl ⊢
    by_cases ek:k=i
    ·subst ek; rw [ho] at hk; injection hk with hk; subst hk
     split
     ·rfl
     ·exact hdir e he hb
    ·rw [if_neg ek] at hl
     split
     ·rfl
     ·exact hcl k p hk hl e he hb
   ·cases o.dst <;> simpa [Act.put] using hnta
   ·intro k p t hk hl hpt
    rw [hset] at hl
    by_cases ek:k=i
    ·subst ek; rw [ho] at hk; injection hk with hk; subst hk
     rw [hpt]
     have:t<a.tmps.size:=Qm (st.nt t hpt) hnta
     simp only [Act.put,Qo]
     simp [this,hv]
    ·rw [if_neg ek] at hl
     have hne:o.dst≠some t:=by
      intro e
      exact ((Zp (hPair i k o p ho hk (Ne.symm ek))).1 t e).1 hpt
     rw [hget t hne]
     exact (hfr1 k p t hk hl hpt).mono hmono
   ·intro t v hno hv'
    have hne:o.dst≠some t:=hno i o ho (by rw [hset,if_pos rfl])
    rw [hget t hne]
    refine (hfr2 t v (fun k p hk hl=>hno k p hk ?_) hv').mono hmono
    rw [hset]; split
    ·rfl
    ·exact hl
  unfold wpOpIn
  rw [ho]
  simp only
  rw [hwant]
  have keepE:i≠e->(∀ (k:Nat) (o:Oper),k<e->ops[k]?=some o->X k=true->isN o.op=true->(listed.setIfInBounds i true).getD k false=true) /\
    (∀ (o:Oper),ops[e]?=some o->X e=true/\isN o.op=true/\(listed.setIfInBounds i true).getD e false=false):=by
   intro hne
   refine⟨fun k p hk hp hx hE'=>?_,fun p hp=>?_⟩
   ·rw [hset]; split
    ·rfl
    ·exact he2 k p hk hp hx hE'
   ·obtain⟨q1,q2,q3⟩:=he3 p hp
    exact⟨q1,q2,by rw [hset,if_neg (Ne.symm hne)]; exact q3⟩
  have keepA:∀ (μ':Mu),(∀ b,b<(S e).objs.length->μ' b=μ b)->∀ (k:Nat) (o:Oper),k<e->ops[k]?=some o->X k=true->isA o.op=true->k≠i->listed.getD k false=false->μ' (S k).objs.length=none/\(S e).objs[(S k).objs.length]?=(S (k+1)).objs[(S k).objs.length]?:=by
   intro μ' hag k p hk hp hx hA _ hl
   obtain⟨q1,q2⟩:=hAq k p hk hp hx hA hl
   exact⟨(hag _ (hLenA k p hp hx hA e hk he1)).trans q1,q2⟩
  cases hx:X i with
  | false=>
   rw [if_neg (by simp)]
   obtain⟨hVi,_⟩:=st.skip hx
   have hie:i≠e:=by
    rintro rfl
    have:=(he3 o ho).1; rw [hx] at this; cases this
   obtain⟨k1,k2⟩:=keepE hie
   exact⟨fun _ _=>trivial,next μ w undef e hS (fun _ _ h=>h) (by rw [hVi]; exact VR.skipped _) he1 k1 k2 (keepA μ (fun _ _=>rfl))⟩
  | true=>
   rw [if_pos rfl]
   have hex:=st.exec hx
   have hF:FrR nt μ (onlyT (readsL ops o) (Φ i)) a:=by
    refine⟨fun t v ht=>?_,hnta⟩
    rw [Znr] at ht
    split at ht
    ·exact hread t v ‹_› ht
    ·cases ht
   have hcong:∀ (σ:Store),evOp P Γ (bitOn qs i) o.type (onlyT (readsL ops o) (Φ i)) σ (fun v σ'=>some (v,σ')) o.op=evOpD P Γ (bitOn qs i) o.type (Φ i) σ o.op:=by
    intro σ
    refine Zux _ _ _ _ _ fun x hxo=>?_
    cases x with
    | tmp t=>
     show (onlyT (readsL ops o) (Φ i)).get t=(Φ i).get t
     rw [Znr,if_pos]
     unfold readsL
     refine Qac _ (Qam.2 ⟨_,hxo,rfl⟩)
    | _=>rfl
   have atS:∀ (σ':Store),evOpD P Γ (bitOn qs i) o.type (Φ i) (S e) o.op=some (V i,σ')->(∀ (μ':Mu) (w':World) (c:Value),Ste μ (S e) w μ' σ' w'->VR μ' (V i) c->wpAnyIn (W ro) n P .any ops Q fuel (listed.setIfInBounds i true) (a.put o.dst c) w') ->
     o.wpIn (W ro) n P a w (wpAnyIn (W ro) n P .any ops Q fuel (listed.setIfInBounds i true)) Q:=by
    intro σ' hd hn
    have hc:=(hcong (S e)).trans hd
    refine Zj3 hΓ hF hS.rel o hc ?_
    intro v σ2 μ' w' c hKv hs _ hv
    injection hKv with hKv
    simp only [Prod.mk.injEq] at hKv
    obtain⟨rfl,rfl⟩:=hKv
    exact hn μ' w' c hs hv
   by_cases hEi:isN o.op=true
   ·
    have hEi':isE o.op=true:=by simp [isN] at hEi; exact hEi.1
    have hnA:isA o.op≠true:=by simp [isN] at hEi; simp [hEi.2]
    have hie:i=e:=by
     rcases QN i e with h | h | h
     ·have:=he2 i o h ho hx hEi; rw [hil'] at this; cases this
     ·exact h
     ·have he:e<ops.size:=by omega
      obtain⟨q1,q2,q3⟩:=he3 ops[e] (by simp [he])
      rcases (Zp (hPair e i ops[e] o (by simp [he]) ho (by omega))).2.1 (by simp [isN] at q2; exact q2.1) hEi' (by omega) with this | this
      ·have:=hbi e this; rw [q3] at this; cases this
      ·exact absurd this.2 hnA
    subst hie
    refine atS _ hex ?_
    intro μ' w' c hs hv
    obtain⟨e',g1,g2,g3,g4⟩:=hNext (ops.size-(i+1)) (i+1) (by omega)
    have g5:Ext (S (i+1)) (S e'):=by
     have:=hExt (e'-(i+1)) (i+1) (by omega) (fun k o h1 h2=>g3 k o h1 (by omega))
     rwa [show i+1+(e'-(i+1))=e' by omega] at this
    refine next μ' w' c e' ((hS.trans hs).trans (Ste.grow hs.rel g5)) (hs.mu hS.rel) hv g2 ?_ ?_ ?_
    ·intro k p hk hp hxk hEk
     rw [hset]
     split
     ·rfl
     ·rename_i hki
      rcases Q7 k i with h | h
      ·exact he2 k p h hp hxk hEk
      ·exact absurd ⟨hxk,hEk⟩ (g3 k p (by omega) hk hp)
    ·intro p hp
     obtain⟨q1,q2⟩:=g4 p hp
     refine⟨q1,q2,?_⟩
     rw [hset,if_neg (by omega)]
     cases h:listed.getD e' false with
     | false=>rfl
     | true=>
      rcases (Zp (hPair i e' o p ho hp (by omega))).2.1 hEi' (by simp [isN] at q2; exact q2.1) (by omega) with this | this
      ·have:=hbl e' p hp h i this; rw [hil'] at this; cases this
      ·exact absurd this.1 hnA
    ·intro k p hk hp hxk hA hki hl
     rcases Q7 k i with h | h
     ·exfalso
      rcases (Zp (hPair k i p o hp ho hki)).2.1 (Zti hA) hEi' (by omega) with this | this
      ·have:=hbi k this; rw [hl] at this; cases this
      ·exact hnA this.2
     ·refine⟨?_,?_⟩
      ·cases hm:μ' (S k).objs.length with
       | none=>rfl
       | some L=>
        have h1:=hs.rel.dom _ _ hm
        have h2:=hLenLe (k-(i+1)) (i+1) (by have:=(Qd.1 hp).1; omega)
        rw [show i+1+(k-(i+1))=k by omega] at h2
        omega
      ·have:=hExt (e'-(k+1)) (k+1) (by omega) (fun k' o h1 h2=>g3 k' o (by omega) (by omega))
       rw [show k+1+(e'-(k+1))=e' by omega] at this
       exact this.get (hLenA k p hp hxk hA (k+1) (by omega) (by omega))
   ·by_cases hAi:isA o.op=true
    ·
     have hie:i<e:=by
      rcases QN i e with h | h | h
      ·exact h
      ·subst h; exact absurd (he3 o ho).2.1 hEi
      ·exfalso
       have he:e<ops.size:=by omega
       obtain⟨q1,q2,q3⟩:=he3 ops[e] (by simp [he])
       simp [isN] at q2
       rcases (Zp (hPair e i ops[e] o (by simp [he]) ho (by omega))).2.1 q2.1 (Zti hAi) (by omega) with this | this
       ·have:=hbi e this; rw [q3] at this; cases this
       ·rw [q2.2] at this; cases this.1
     obtain⟨m1,m2⟩:=hAq i o hie ho hx hAi hil'
     obtain⟨l,es,mk,p1,p2,p3,p4⟩:=Zdx hAi hex
     have hc:=(hcong (S e)).trans (p3 (S e))
     obtain⟨l',es',mk',hK',hmk',w1,fz,cs,ty,c,hw1,hfz,hrun,hvl,hll,hcv⟩:=Zz2 (w:=w) hF hAi hc
     injection hK' with hK'
     simp only [Prod.mk.injEq] at hK'
     obtain⟨k1,k2⟩:=hK'
     have hobj:((S e).push l' es').objs=((S e).push l es).objs:=by rw [k2]
     simp only [Store.push] at hobj
     have hobj:=List.append_cancel_left hobj
     simp at hobj
     obtain⟨rfl,rfl⟩:=hobj
     have hmk:mk'=mk:=by
      rcases p4 with rfl | ⟨x,y,rfl⟩ <;> rcases hmk' with rfl | ⟨x',y',rfl⟩
      ·rfl
      ·simp at k1
      ·simp at k1
      ·simp at k1; rw [k1.1,k1.2]
     subst hmk
     have Zf:(S e).objs[(S i).objs.length]?=some (.cells l' true es'):=by rw [m2,p2]; simp [Store.push]
     refine⟨fun _ _=>trivial,?_⟩
     rw [Oper.semAt_eq _ _ _ (by intro d hd; rw [hd] at hAi; cases hAi),hrun]
     obtain⟨k3,k4⟩:=keepE (by omega)
     have hne:∀ b L,μ b=some L->b≠(S i).objs.length:=fun b L hb e=>by rw [e,m1] at hb; cases hb
     have hmin:(S 0).objs.length<=(S i).objs.length:=by
      have:=hLenLe i 0 (by omega)
      rwa [QV] at this
     have hS1:Ste μ0 (S 0) w0 μ (S e) w1:=by
      rcases hw1 with rfl | rfl
      ·exact hS
      ·exact hS.trans (Ste.drew hS.rel)
     have hz1:w1.heap.size=w.heap.size:=by rcases hw1 with rfl | rfl <;> rfl
     refine next _ _ c e (Ste.late hS1 m1 hmin Zf hvl hll ty fz hfz) (fun b L hb=>by rw [Mu.up_ne _ _ (hne b L hb)]; exact hb) (by rw [p1]; exact hcv _ _ (by rw [hz1]; exact Mu.up_self _ _ _)) he1 k3 k4 ?_
     intro k p hk hp hxk hA hki hl
     obtain⟨q1,q2⟩:=hAq k p hk hp hxk hA hl
     refine⟨?_,q2⟩
     rw [Mu.up_ne]
     ·exact q1
     ·rcases Q7 k i with h | h
      ·have:=hLenA k p hp hxk hA i h (by omega); omega
      ·have:=hLenA i o ho hx hAi k (by omega) (by have:=(Qd.1 hp).1; omega); omega
    ·have hEi:¬ isE o.op=true:=fun h=>hEi (by simp [isN,h,hAi])
     have hEi0:isN o.op≠true:=fun h=>by simp [isN] at h; exact hEi h.1
     have hie:i≠e:=by
      rintro rfl
      exact hEi0 (he3 o ho).2.1
     obtain⟨k1,k2⟩:=keepE hie
     refine atS (S e) ?_ fun μ' w' c hs hv=>next μ' w' c e (hS.trans hs) (hs.mu hS.rel) hv he1 k1 k2 (keepA μ' hs.agree)
     by_cases hp:pureOp o.op=true
     ·exact (Zo1 hp hex).2 _
     ·have hl:isLoad o.op=true:=by
       unfold isE at hEi
       simpa [hp] using hEi
      have hSi:=(Zbi hK hex).2.1 hl
      rw [hSi] at hex
      have hsame:∀ b,(∀ (k:Nat) (p:Oper),(i<=k\/e<=k)->ops[k]?=some p->X k=true->(apSt ops ap p o=true\/slR k i p o=true)->(S (k+1)).objs[b]?=(S k).objs[b]?)->b<(S i).objs.length->b<(S e).objs.length->(S i).objs[b]?=(S e).objs[b]?:=by
       intro b hapb hbi' hbe
       rcases Qaz i e with h | h
       ·have hd:i+(e-i)=e:=by omega
        have:=(hChain b (e-i) i (by omega) ?_).2 hbi'
        ·rw [hd] at this; exact this.symm
        ·intro k p hk1 hk2 hkp hxk hEk
         have hki:k≠i:=by rintro rfl; rw [ho] at hkp; injection hkp with hkp; subst hkp; exact hEi hEk
         cases hAk:isA p.op with
         | true=>exact .inr (.inl rfl)
         | false=>
          have hkl:=he2 k p (by omega) hkp hxk (by simp [isN,hEk,hAk])
          rcases (Zp (hPair k i p o hkp ho hki)).2.2 hEk hl with h1 | h1 | h1 | h1 | h1 | h1 | h1
          ·have:=hlt i o ho k h1; omega
          ·have:=hbl k p hkp hkl i h1; rw [hil'] at this; cases this
          ·exact .inl h1
          ·rw [hAk] at h1; cases h1
          ·exact .inr (.inr (hFresh k i p hkp hxk h1 b))
          ·exact .inr (.inr fun _=>hapb k p (.inl hk1) hkp hxk (.inr h1))
          ·exact .inr (.inr fun _=>hapb k p (.inl hk1) hkp hxk (.inl h1))
       ·have hd:e+(i-e)=i:=by omega
        have:=(hChain b (i-e) e (by omega) ?_).2 hbe
        ·rw [hd] at this; exact this
        ·intro k p hk1 hk2 hkp hxk hEk
         have hki:k≠i:=by omega
         cases hAk:isA p.op with
         | true=>exact .inr (.inl rfl)
         | false=>
          have hkl:listed.getD k false=false:=by
           cases hlk:listed.getD k false with
           | false=>rfl
           | true=>
            exfalso
            have he:e<ops.size:=by have:=(Qd.1 hkp).1; omega
            obtain⟨q1,q2,q3⟩:=he3 ops[e] (by simp [he])
            by_cases eke:k=e
            ·subst eke; rw [hlk] at q3; cases q3
            ·rcases (Zp (hPair e k ops[e] p (by simp [he]) hkp (Ne.symm eke))).2.1 (by simp [isN] at q2; exact q2.1) hEk (by omega) with this | this
             ·have:=hbl k p hkp hlk e this; rw [q3] at this; cases this
             ·rw [hAk] at this; cases this.2
          rcases (Zp (hPair k i p o hkp ho hki)).2.2 hEk hl with h1 | h1 | h1 | h1 | h1 | h1 | h1
          ·have:=hbi k h1; rw [hkl] at this; cases this
          ·have:=hlt k p hkp i h1; omega
          ·exact .inl h1
          ·rw [hAk] at h1; cases h1
          ·obtain⟨_,_,_,m,_,_,c1,c2,_⟩:=Ze5 h1; omega
          ·exact .inr (.inr fun _=>hapb k p (.inr hk1) hkp hxk (.inr h1))
          ·exact .inr (.inr fun _=>hapb k p (.inr hk1) hkp hxk (.inl h1))
      have hopv:∀ (x:Operand) (v:AV),x∈o.op.operands.toList->(Φ i).ev x=some v->∃ c,VR μ v c:=by
       intro x v hxo hv
       cases x with
       | tmp t'=>exact⟨_,hread t' _ (Qac _ (Qam.2 ⟨_,hxo,rfl⟩)) hv⟩
       | const c=>exact⟨c,(Zk0 hv μ).1⟩
       | global g=>simp [Fr.ev] at hv
       | func f=>simp only [Fr.ev,Q2.injEq] at hv; subst hv; exact⟨.func (.func f) #[] #[],.func rfl rfl (fun i x y hx=>by simp at hx) (fun i x y hx=>by simp at hx)⟩
      cases hop:o.op with
      | load t x=>
       rw [hop] at hex hl
       unfold evOpD at hex ⊢
       simp only [evOp] at hex ⊢
       split at hex
       ·rename_i p hpx
        cases p with
        | none=>exact (Zib hex).elim
        | some bo=>
         obtain⟨b,off⟩:=bo
         have hbi':=Z48 hex
         have hbe:b<(S e).objs.length:=by
          obtain⟨c,hc⟩:=hopv x _ (by simp [hop,Op.operands]) hpx
          rcases hc.ptr_inv with ⟨e1,_⟩ | ⟨b2,o2,L,e1,e2,_⟩
          ·cases e1
          ·injection e1 with e1; injection e1 with e1 e3; subst e1; exact hS.rel.dom _ _ e2
         rw [Zbo,<-Zxl (hsame b (fun k p _ hkp hxk hs=>hApart k i p o t x b off hkp ho hxk (by rcases hs with hs | hs; exact hs; simp [slR,isSl,hop] at hs) hop hpx) hbi' hbe)]
         rw [Zbo] at hex
         obtain⟨v,hv,hex⟩:=Qa.1 hex
         injection hex with hex
         simp only [Prod.mk.injEq] at hex
         rw [hv]
         simp [hex.1]
       ·exact absurd hex (by simp)
      | slice t x lo hi mx=>
       have hl':=hl
       rw [hop] at hex hl
       unfold evOpD at hex ⊢
       simp only [evOp] at hex ⊢
       split at hex
       ·rename_i h e' hpx hu
        obtain⟨es,h1,hex⟩:=Qa.1 hex
        obtain⟨l,h2,hex⟩:=Qa.1 hex
        obtain⟨u,h3,hex⟩:=Qa.1 hex
        obtain⟨m,h4,hex⟩:=Qa.1 hex
        obtain⟨h',h5,hex⟩:=Qa.1 hex
        have hes:(S e).esOk h es=(S i).esOk h es\/(S i).esOk h es=false:=by
         obtain⟨c,hc⟩:=hopv x _ (by simp [hop,Op.operands]) hpx
         obtain⟨A,len,cap,rfl,_,_,_,hcase⟩:=hc.slice_inv
         rcases hcase with ⟨hha,_⟩ | ⟨b,off,ad,hha,_,h0⟩ | ⟨b,off,L,hha,hb,_⟩
         ·left; simp only [Store.esOk,hha]
         ·left
          have h0:h.len=0:=by omega
          simp only [Store.esOk,hha,h0,show Q0 0 0=true from rfl,cond_true]
         ·by_cases hbi':b<(S i).objs.length
          ·have hbe:=hS.rel.dom _ _ hb
           rcases Qaz i e with hie' | hei
           ·left; simp only [Store.esOk,hha,hsame b (fun k p hk _ _ hs=>by
             rcases hs with hs | hs
             ·simp [apSt,pairSt,hop] at hs
             ·simp only [slR,Qf,QJ] at hs; omega) hbi' hbe]
           ·cases hnz:Q0 h.len 0 with
            | true=>left; simp only [Store.esOk,hha,hnz,cond_true]
            | false=>
             cases hok:(S i).esOk h es with
             | false=>exact .inr rfl
             | true=>
              left
              have hback:∀ d,e+d<=i->∀ l rw_ ez,(S (e+d)).objs[b]?=some (.cells l rw_ ez)->∃ l rw_,(S e).objs[b]?=some (.cells l rw_ ez):=by
               intro d
               induction d with
               | zero=>intro _ l rw_ ez hz; exact⟨l,rw_,hz⟩
               | succ d ihd=>
                intro hd l rw_ ez hz
                have hbk:b<(S (e+d)).objs.length:=Qm hbe (hLenLe d e (by omega))
                by_cases hsl:∃ p,ops[e+d]?=some p/\X (e+d)=true/\slR (e+d) i p o=true
                ·obtain⟨p,hp',hx',hs'⟩:=hsl
                 simp only [slR,Qf] at hs'
                 obtain⟨l',rw',hz'⟩:=Zzu hs'.1.1 ((hst (e+d) p hp').exec hx') hbk hz
                 exact ihd (by omega) l' rw' ez hz'
                ·have hsm:=(hChain b 1 (e+d) (by omega) (fun k p hk1 hk2 hkp hxk hEk=>by
                  have hkd:k=e+d:=by omega
                  subst hkd
                  have hki:e+d≠i:=by omega
                  cases hAk:isA p.op with
                  | true=>exact .inr (.inl rfl)
                  | false=>
                   have hkl:listed.getD (e+d) false=false:=by
                    cases hlk:listed.getD (e+d) false with
                    | false=>rfl
                    | true=>
                     exfalso
                     have he:e<ops.size:=by have:=(Qd.1 hkp).1; omega
                     obtain⟨q1,q2,q3⟩:=he3 ops[e] (by simp [he])
                     by_cases eke:e+d=e
                     ·rw [eke] at hlk; rw [hlk] at q3; cases q3
                     ·rcases (Zp (hPair e (e+d) ops[e] p (by simp [he]) hkp (Ne.symm eke))).2.1 (by simp [isN] at q2; exact q2.1) hEk (by omega) with this | this
                      ·have:=hbl (e+d) p hkp hlk e this; rw [q3] at this; cases this
                      ·rw [hAk] at this; cases this.2
                   rcases (Zp (hPair (e+d) i p o hkp ho hki)).2.2 hEk hl' with h1 | h1 | h1 | h1 | h1 | h1 | h1
                   ·have:=hbi (e+d) h1; rw [hkl] at this; cases this
                   ·have:=hlt (e+d) p hkp i h1; omega
                   ·exact .inl h1
                   ·rw [hAk] at h1; cases h1
                   ·obtain⟨_,_,_,m,_,_,c1,c2,_⟩:=Ze5 h1; omega
                   ·exact absurd ⟨p,hkp,hxk,h1⟩ hsl
                   ·simp [apSt,pairSt,hop] at h1)).2 hbk
                 rw [show e+d+1=e+(d+1) by omega] at hsm
                 rw [hsm] at hz
                 exact ihd (by omega) l rw_ ez hz
              simp only [Store.esOk,hha,hnz,cond_false] at hok ⊢
              cases Zf:(S i).objs[b]? with
              | none=>rw [Zf] at hok; cases hok
              | some ob=>
               cases ob with
               | cells l rw_ ez=>
                obtain⟨l',rw',hz'⟩:=hback (i-e) (by omega) l rw_ ez (by rw [show e+(i-e)=i by omega]; exact Zf)
                rw [Zf] at hok
                rw [hz']
                simpa using hok
               | _=>rw [Zf] at hok; cases hok
          ·by_cases h0:Q0 h.len 0=true
           ·left; simp only [Store.esOk,hha,h0,cond_true]
           ·right
            rw [Bool.not_eq_true] at h0
            simp only [Store.esOk,hha,h0,cond_false]
            rw [Qu (by omega)]
        rcases hes with hes | hes
        ·rw [h1,Qi,h2,Qi,h3,Qi,h4,Qi]
         have:(S e).sub h es l u m=(S i).sub h es l u m:=by simp only [Store.sub,hes]
         rw [this,h5,Qi]
         split at hex
         ·exact absurd hex (by simp)
         ·rename_i hn
          rw [if_neg hn]
          injection hex with hex
          simp only [Prod.mk.injEq] at hex
          rw [hex.1]
        ·simp [Store.sub,hes] at h5
       ·rename_i p n e' hpx hu
        split at hex
        case h_2=>exact absurd hex (by simp)
        obtain⟨es,h1,hex⟩:=Qa.1 hex
        obtain⟨h',h5,hex⟩:=Qa.1 hex
        have hw:(S e).whole p n es=(S i).whole p n es:=by
         cases p with
         | none=>rfl
         | some bo=>
          obtain⟨b,off⟩:=bo
          simp only [Store.whole] at h5 ⊢
          have hbi':b<(S i).objs.length:=by
           cases hx:(S i).objs[b]? with
           | none=>rw [hx] at h5; cases h5
           | some _=>exact (Qb.1 hx).1
          have hbe:b<(S e).objs.length:=by
           obtain⟨c,hc⟩:=hopv x _ (by simp [hop,Op.operands]) hpx
           rcases hc.ptr_inv with ⟨e1,_⟩ | ⟨b2,o2,L,e1,e2,_⟩
           ·cases e1
           ·injection e1 with e1; injection e1 with e1 e3; subst e1; exact hS.rel.dom _ _ e2
          rw [hsame b (fun k p _ _ _ hs=>by
           rcases hs with hs | hs
           ·simp [apSt,pairSt,hop] at hs
           ·simp [slR,isSl,hop] at hs) hbi' hbe]
        rw [h1,Qi,hw,h5,Qi]
        injection hex with hex
        simp only [Prod.mk.injEq] at hex
        rw [hex.1]
       ·exact absurd hex (by simp)
      | convert s d x=>
       rw [hop] at hex hl
       simp only [isLoad,Qy] at hl
       unfold evOpD at hex ⊢
       simp only [evOp] at hex ⊢
       have Zf:∀ (h:Hdl),(Φ i).ev x=some (.slice h)->h.len≠0->∀ b off,h.a=some (b,off)->b<(S i).objs.length->(S i).objs[b]?=(S e).objs[b]?:=by
        intro h hpx h0 b off hha hbi2
        obtain⟨c,hc⟩:=hopv x _ (by simp [hop,Op.operands]) hpx
        obtain⟨A,len,cap,rfl,_,_,_,hcase⟩:=hc.slice_inv
        rcases hcase with ⟨e1,_⟩ | ⟨b2,off2,ad,e1,_,hz⟩ | ⟨b2,off2,L,e1,hb,_⟩
        ·rw [hha] at e1; cases e1
        ·omega
        ·rw [hha] at e1; injection e1 with e1; injection e1 with e1 e2; subst e1
         exact hsame b (fun k p _ _ _ hs=>by
          rcases hs with hs | hs
          ·simp [apSt,pairSt,hop] at hs
          ·simp [slR,isSl,hop] at hs) hbi2 (hS.rel.dom _ _ hb)
       split at hex
       ·split at hex
        ·split at hex
         ·injection hex with hex
          simp only [Prod.mk.injEq] at hex
          rw [hex.1,if_pos (by assumption)]
         ·exact absurd hex (by simp)
        ·exact absurd hex (by simp)
       ·rename_i h hpx
        by_cases hd9:Q0 d strT=true
        ·simp only [hd9,if_true] at hex ⊢
         split at hex
         ·split at hex
          ·rename_i e' h1 h2 _ h3
           obtain⟨l,h4,hex⟩:=Qa.1 hex
           obtain⟨b,h5,hex⟩:=Qa.1 hex
           injection hex with hex
           simp only [Prod.mk.injEq] at hex
           have hrd:(S e).readSl h 1=some l:=by
            unfold Store.readSl at h4 ⊢
            by_cases h0:h.len=0
            ·rw [if_pos h0] at h4 ⊢; exact h4
            ·rw [if_neg h0] at h4 ⊢
             cases hha:h.a with
             | none=>simp only [hha] at h4; exact absurd h4 (by simp)
             | some bo=>
              obtain⟨b,off⟩:=bo
              simp only [hha] at h4 ⊢
              have hbi2:b<(S i).objs.length:=by
               rcases Q7 b (S i).objs.length with hlt' | hge
               ·exact hlt'
               ·rw [Qu hge] at h4; exact absurd h4 (by simp)
              rw [<-Zf h hpx h0 b off hha hbi2]
              exact h4
           rw [hrd,Qi,h5,Qi,hex.1]
          ·exact absurd hex (by simp)
         ·exact absurd hex (by simp)
        ·rw [if_neg hd9] at hex ⊢
         by_cases hsd:Q0 s d=true
         ·simp only [hsd,if_true] at hex ⊢
          split at hex
          ·split at hex
           ·split at hex
            ·rename_i hmk
             injection hex with hex
             simp only [Prod.mk.injEq] at hex
             have hpr:∀ k,k<=ops.size->(S k).prot=(S 0).prot:=by
              intro k
              induction k with
              | zero=>intro _; rfl
              | succ k ihk=>
               intro hk
               have st:=hst k ops[k] (by simp [show k<ops.size by omega])
               cases hxk:X k with
               | false=>rw [(st.skip hxk).2]; exact ihk (by omega)
               | true=>rw [(Zbi hK (st.exec hxk)).1.prot]; exact ihk (by omega)
             have hmk2:(S e).markOk h=true:=by
              unfold Store.markOk at hmk ⊢
              cases hha:h.a with
              | none=>rw [hha] at hmk; cases hmk
              | some bo=>
               obtain⟨b,off⟩:=bo
               rw [hha] at hmk
               simp only at hmk ⊢
               cases h0:Q0 h.len 0 with
               | true=>rw [h0] at hmk; cases hmk
               | false=>
                rw [h0,cond_false] at hmk
                have hne:h.len≠0:=fun e=>by rw [e] at h0; cases h0
                have hbi2:b<(S i).objs.length:=by
                 rcases Q7 b (S i).objs.length with hlt' | hge
                 ·exact hlt'
                 ·rw [Qu hge] at hmk; cases hmk
                rw [cond_false,<-Zf h hpx hne b off hha hbi2,hpr e he1,<-hpr i (by have:=(Qd.1 ho).1; omega)]
                exact hmk
             rw [hmk2,if_pos rfl,hex.1]
            ·exact absurd hex (by simp)
           ·exact absurd hex (by simp)
          ·exact absurd hex (by simp)
         ·rw [if_neg hsd] at hex; exact absurd hex (by simp)
       ·exfalso
        split at hex
        ·rename_i hc
         rcases hl with h9 | h9
         ·rw [hc.1] at h9; cases h9
         ·have:=Qj h9
          subst this
          rw [hc.1] at hc; exact absurd hc.2 (by simp)
        ·exact absurd hex (by simp)
       ·exact absurd hex (by simp)
      | _=>rw [hop] at hl; simp [isLoad] at hl
end
theorem Zr4{P:Program}(hm:P.follows .mixedOrders=true){Γ:Gam}(hΓ:GS P Γ)(hK:GK Γ):DrS P Γ drawn:=by
 intro ops qs ap hdr ro n nt R φ σ K r h hap μ w a hF hR Q hQ t
 simp only [Region.schedule,hm,Bool.true_or,if_true]
 obtain⟨X,V,S,Φ,h1,h2,h3,h4⟩:=Zpp ops.toList 0 h
 refine wpAnyIn_sound ops.size t _ a w ?_
 subst h2
 have hstep:∀ (k:Nat) (o:Oper),ops[k]?=some o->Step P Γ nt ops (bitOn qs k) o (Φ k) (S k) (X k) (V k) (Φ (k+1)) (S (k+1)):=fun k o hk=>by
  have:=h4 k o (by simpa using hk)
  rw [QV] at this; exact this
 have hrep:∀ k,(Qat ops.size false).getD k false=false:=by
  intro k; simp [QW]
 have hfirst:∃ e,e<=ops.size/\(∀ (k:Nat) (o:Oper),k<e->ops[k]?=some o->¬ (X k=true/\isN o.op=true))/\(∀ (o:Oper),ops[e]?=some o->X e=true/\isN o.op=true)/\∀ k,k<=e->Ext (S k) (S e)/\Ext (S 0) (S k):=by
  have hExt1:∀ (k:Nat) (o:Oper),ops[k]?=some o->¬ (X k=true/\isN o.op=true)->Ext (S k) (S (k+1)):=by
   intro k o ho hn
   have st:=hstep k o ho
   cases hx:X k with
   | false=>rw [(st.skip hx).2]; exact Ext.refl _
   | true=>
    by_cases hA:isA o.op=true
    ·obtain⟨l,es,mk,_,h,_⟩:=Zdx hA (st.exec hx)
     rw [h]; exact Ext.push ..
    ·have hne:isE o.op=false:=by
      cases h:isE o.op with
      | false=>rfl
      | true=>exact absurd ⟨hx,by simp [isN,h,hA]⟩ hn
     unfold isE at hne
     by_cases hp:pureOp o.op=true
     ·rw [(Zo1 hp (st.exec hx)).1]; exact Ext.refl _
     ·rw [(Zbi hK (st.exec hx)).2.1 (by simpa [hp] using hne)]; exact Ext.refl _
  have:∀ d m,m+d=ops.size->(∀ k,k<=m->Ext (S k) (S m)/\Ext (S 0) (S k))->(∀ (k:Nat) (o:Oper),k<m->ops[k]?=some o->¬ (X k=true/\isN o.op=true)) ->
    ∃ e',m<=e'/\e'<=ops.size/\(∀ (k:Nat) (o:Oper),k<e'->ops[k]?=some o->¬ (X k=true/\isN o.op=true))/\(∀ (o:Oper),ops[e']?=some o->X e'=true/\isN o.op=true)/\∀ k,k<=e'->Ext (S k) (S e')/\Ext (S 0) (S k):=by
   intro d
   induction d with
   | zero=>intro m hm hx hN; exact⟨m,Qg _,by omega,hN,fun o ho=>by have:=(Qd.1 ho).1; omega,hx⟩
   | succ d ihd=>
    intro m hm hx hN
    have ho:ops[m]?=some ops[m]:=by simp [show m<ops.size by omega]
    by_cases hc:X m=true/\isN ops[m].op=true
    ·exact⟨m,Qg _,by omega,hN,fun o ho'=>by rw [ho] at ho'; injection ho' with ho'; subst ho'; exact hc,hx⟩
    ·have h1:=hExt1 m _ ho hc
     obtain⟨e',h1,h2⟩:=ihd (m+1) (by omega) (fun k hk=>by
      rcases Q7 k (m+1) with h | h
      ·exact⟨(hx k (by omega)).1.trans h1,(hx k (by omega)).2⟩
      ·have:k=m+1:=by omega
       subst this; exact⟨Ext.refl _,(hx m (Qg _)).2.trans h1⟩) (fun k o hk hko=>by
      by_cases e:k=m
      ·subst e; rw [ho] at hko; injection hko with hko; subst hko; exact hc
      ·exact hN k o (by omega) hko)
     exact⟨e',by omega,h2⟩
  obtain⟨e',_,g2,g3,g4,g5⟩:=this ops.size 0 (by omega) (fun k hk=>(by omega:k=0) ▸ ⟨Ext.refl _,Ext.refl _⟩) (fun k o hk=>by omega)
  exact⟨e',g2,g3,g4,g5⟩
 obtain⟨e,g1,g2,g3,g4⟩:=hfirst
 have g0:=(g4 0 (by omega)).1
 refine Zwr hΓ hK hdr h1 hap hstep (μ0:=μ) (w0:=w) (a0:=a) hR hF.2 (fun μ' a' w' f1 f2 f3=>hQ _ _ μ' a' w' (by rw [Array.length_toList] at h3; exact h3) f1 f2 f3) ops.size (Qat ops.size false) a w μ e (by simp) ?_ ?_ g1 ?_ ?_ ?_ (Ste.grow hR g0) hF.2 rfl ?_ ?_
 ·exact QH (Qaa _ _) (by simp)
 ·intro i o _ hl; rw [hrep] at hl; cases hl
 ·intro k o hk ho hx hE; exact absurd ⟨hx,hE⟩ (g2 k o hk ho)
 ·intro o ho; exact⟨(g3 o ho).1,(g3 o ho).2,hrep e⟩
 ·intro k o hk ho hx hA _
  obtain⟨l,es,mk,_,h,_⟩:=Zdx hA ((hstep k o ho).exec hx)
  refine⟨?_,?_⟩
  ·cases hm:μ (S k).objs.length with
   | none=>rfl
   | some L=>
    have k1:=hR.dom _ _ hm
    have k2:=(g4 k (by omega)).2.len
    omega
  ·exact (g4 (k+1) (by omega)).1.get (by rw [h]; simp [Store.push])
 ·intro i o t _ hl; rw [hrep] at hl; cases hl
 ·intro t v _ hv; exact hF.1 t v hv
theorem Zgb{P:Program}(hm:P.follows .mixedOrders=true){sp:FuncId->Option (List AV->Store->Option (AV×Store))}(hsp:SpS P sp)(hsk:SpK sp)(k:Nat):GS P (gam P drawn sp k):=
 Zw9 hsp (fun j hΓ=>Zr4 hm hΓ (Z28 hsk j)) k
end Go.Ab

namespace Go.Ab
open Go
def codeAt:Code->List Nat->Code
 | .seq a _,0::p=>codeAt a p
 | .seq _ b,1::p=>codeAt b p
 | .cond _ a _,0::p=>codeAt a p
 | .cond _ _ b,1::p=>codeAt b p
 | .block _ c,0::p=>codeAt c p
 | .loop c,0::p=>codeAt c p
 | .rangeFunc _ _ a _,0::p=>codeAt a p
 | .rangeFunc _ _ _ b,1::p=>codeAt b p
 | c,_=>c
def maskAt:Code->Live->List Nat->Live
 | .seq a b,N,0::p=>maskAt a { N with n:=liveC b N } p
 | .seq _ b,N,1::p=>maskAt b N p
 | .cond _ a _,N,0::p=>maskAt a N p
 | .cond _ _ b,N,1::p=>maskAt b N p
 | .block id c,N,0::p=>maskAt c { N with ex:=(id,N.n)::N.ex } p
 | .loop c,N,0::p=>maskAt c { N with n:=liveC c { N with n:=0 } } p
 | _,N,_=>N
section
variable (P:Program) (Γ:Gam) (dr:DrawOk) (k nt:Nat) (rf:Bool)
def contAt{R:Type}:Code->List Nat->Live->(AX->Fr->Store->Option R)->AX->Fr->Store->Option R
 | .seq a b,0::p,N,K=>contAt a p { N with n:=liveC b N } fun e φ' σ'=>match e with
  | .normal=>evCode P Γ dr k nt rf b N (bif Code.plain a then φ' else φ'.sel (liveC b N) nt) σ' K
  | .exit i=>K (.exit i) φ' σ'
  | .ret=>K .ret φ' σ'
 | .seq _ b,1::p,N,K=>contAt b p N K
 | .cond _ a _,0::p,N,K=>contAt a p N K
 | .cond _ _ b,1::p,N,K=>contAt b p N K
 | .block id c,0::p,N,K=>contAt c p { N with ex:=(id,N.n)::N.ex } fun e φ' σ'=>match e with
  | .normal=>K .normal φ' σ'
  | .exit i=>bif Q0 i id then K .normal φ' σ' else K (.exit i) φ' σ'
  | .ret=>K .ret φ' σ'
 | _,_,_,K=>K
def loopC(c:Code)(N0:Live)(p L:List Nat)(s:List AV×Store):Option LX:=
 iter k (loopK nt (evCode P Γ dr k nt rf (codeAt c (p++[0]))) L (maskAt c N0 p) (liveC (codeAt c (p++[0])) { maskAt c N0 p with n:=0 })) s
def stepC(c:Code)(N0:Live)(p L:List Nat)(s:List AV×Store):Option ((List AV×Store) ⊕ LX):=
 loopK nt (evCode P Γ dr k nt rf (codeAt c (p++[0]))) L (maskAt c N0 p) (liveC (codeAt c (p++[0])) { maskAt c N0 p with n:=0 }) s
def contC{R:Type}(c:Code)(N0:Live)(K:AX->Fr->Store->Option R)(p:List Nat)(r:LX):Option R:=contAt P Γ dr k nt rf c p N0 K r.1 r.2.1 r.2.2
def contL(c:Code)(N0:Live)(lp L p:List Nat)(r:LX):Option ((List AV×Store) ⊕ LX):=
 contAt P Γ dr k nt rf (codeAt c (lp++[0])) p { maskAt c N0 lp with n:=liveC (codeAt c (lp++[0])) { maskAt c N0 lp with n:=0 } } (loopE nt L (maskAt c N0 lp)) r.1 r.2.1 r.2.2
end
def fnCode(fn:Func):Code:=fn.body.getD .skip
def fnMask(fn:Func):Live:=⟨resMask fn.results.toList,resMask fn.results.toList,[]⟩
def finK(P:Program)(fn:Func)(e:AX)(φ:Fr)(σ:Store):Option (AV×Store):=
 match e with
 | .normal=>resK P fn φ σ
 | .ret=>resK P fn φ σ
 | .exit _=>none
def loopF(P:Program)(Γ:Gam)(dr:DrawOk)(k:Nat)(fn:Func)(p L:List Nat)(s:List AV×Store):Option LX:=loopC P Γ dr k fn.ntmps true (fnCode fn) (fnMask fn) p L s
def stepF(P:Program)(Γ:Gam)(dr:DrawOk)(k:Nat)(fn:Func)(p L:List Nat)(s:List AV×Store):Option ((List AV×Store) ⊕ LX):=stepC P Γ dr k fn.ntmps true (fnCode fn) (fnMask fn) p L s
def contF(P:Program)(Γ:Gam)(dr:DrawOk)(k:Nat)(fn:Func)(p:List Nat)(r:LX):Option (AV×Store):=contC P Γ dr k fn.ntmps true (fnCode fn) (fnMask fn) (finK P fn) p r
def contFL(P:Program)(Γ:Gam)(dr:DrawOk)(k:Nat)(fn:Func)(lp L p:List Nat)(r:LX):Option ((List AV×Store) ⊕ LX):=contL P Γ dr k fn.ntmps true (fnCode fn) (fnMask fn) lp L p r
def roundX(P:Program)(Γ:Gam)(dr:DrawOk)(k:Nat)(fn:Func)(p:List Nat)(φ:Fr)(σ:Store):Option LX:=
 evCode P Γ dr k fn.ntmps false (codeAt (fnCode fn) (p++[0])) ⟨liveC (codeAt (fnCode fn) (p++[1])) ⟨0,0,[]⟩,0,[]⟩ φ σ fun e φ1 σ1=>some (e,φ1,σ1)
def roundY(P:Program)(Γ:Gam)(dr:DrawOk)(k:Nat)(fn:Func)(p:List Nat)(φ:Fr)(σ:Store):Option (AX×Store):=
 evCode P Γ dr k fn.ntmps false (codeAt (fnCode fn) (p++[1])) ⟨0,0,[]⟩ φ σ fun e _ σ1=>some (e,σ1)
end Go.Ab

namespace Go.Ab
open Go
def Ev{α:Type}(f:Nat->Option α)(x:α):Prop:=∃ k0,∀ k,k0<=k->f k=some x
theorem Ev.of{α:Type}{f:Nat->Option α}{x:α}(h:∀ k,f k=some x):Ev f x:=⟨0,fun k _=>h k⟩
theorem Ev.congr{α:Type}{f g:Nat->Option α}{x:α}(h:Ev f x)(e:∀ k,g k=f k):Ev g x:=by
 obtain⟨k0,h⟩:=h; exact⟨k0,fun k hk=>(e k).trans (h k hk)⟩
theorem Ev.use{α β:Type}{f:Nat->Option α}{x:α}{g:Nat->Option β}{y:β}(h:Ev f x)(e:∃ k0,∀ k,k0<=k->f k=some x->g k=some y):Ev g y:=by
 obtain⟨k0,h⟩:=h
 obtain⟨k1,e⟩:=e
 exact⟨max k0 k1,fun k hk=>e k (by omega) (h k (by omega))⟩
theorem Ev.bind{α β:Type}{f:Nat->Option α}{g:Nat->α->Option β}{x:α}{y:β}(h:Ev f x)(k:Ev (fun n=>g n x) y):Ev (fun n=>(f n).bind (g n)) y:=by
 obtain⟨a,h⟩:=h
 obtain⟨b,k⟩:=k
 refine⟨max a b,fun n hn=>?_⟩
 simp only [h n (by omega),Qi,k n (by omega)]
def EvI{S R:Type}(f:Nat->S->Option (S ⊕ R))(s:S)(r:R):Prop:=∃ k0,∀ k,k0<=k->∀ j,k0<=j->iter j (f k) s=some r
theorem EvI.done{S R:Type}{f:Nat->S->Option (S ⊕ R)}{s:S}{r:R}(h:Ev (fun k=>f k s) (.inr r)):EvI f s r:=by
 obtain⟨k0,h⟩:=h
 refine⟨k0+1,fun k hk j hj=>?_⟩
 obtain⟨j,rfl⟩:∃ i,j=i+1:=⟨j-1,by omega⟩
 simp only [iter,h k (by omega)]
theorem EvI.step{S R:Type}{f:Nat->S->Option (S ⊕ R)}{s s':S}{r:R}(h:Ev (fun k=>f k s) (.inl s'))(ih:EvI f s' r):EvI f s r:=by
 obtain⟨k0,h⟩:=h
 obtain⟨k1,ih⟩:=ih
 refine⟨max k0 k1+1,fun k hk j hj=>?_⟩
 obtain⟨j,rfl⟩:∃ i,j=i+1:=⟨j-1,by omega⟩
 simp only [iter,h k (by omega)]
 exact ih k (by omega) j (by omega)
theorem EvI.ev{S R:Type}{f:Nat->S->Option (S ⊕ R)}{s:S}{r:R}(h:EvI f s r):Ev (fun k=>iter k (f k) s) r:=by
 obtain⟨k0,h⟩:=h
 exact⟨k0,fun k hk=>h k hk k hk⟩
class Told (P:Program) where
 sp:FuncId->Option (List AV->Store->Option (AV×Store))
def tell(fs:List Nat)(g:FuncId):Option (List AV->Store->Option (AV×Store)):=
 match fs.any (fun f=>Q0 f g) with
 | true=>some fun args σ=>match args with
  | []=>some (.bool true,σ)
  | _=>none
 | false=>none
section
variable {P:Program} [Told P]
abbrev gm (P:Program) [Told P] (k:Nat):Gam:=gam P drawn (Told.sp P) k
def Runs(P:Program)[Told P](g:FuncId)(args:List AV)(σ:Store)(v:AV)(σ':Store):Prop:=Ev (fun k=>gm P k (.fn g) args σ) (v,σ')
theorem Runs.intro{g:FuncId}{fn:Func}{args:List AV}{σ σ':Store}{v:AV}(hf:P.funcs[g]?=some fn)(hn:(fn.name == "runtime.NumGoroutine")=false)
  (h:Ev (fun k=>evBody P (gm P k) drawn k fn args σ) (v,σ')) (hs:Told.sp P g=none:=by kernel_rfl):Runs P g args σ v σ':=by
 obtain⟨k0,h⟩:=h
 refine⟨k0+1,fun k hk=>?_⟩
 obtain⟨k,rfl⟩:∃ i,k=i+1:=⟨k-1,by omega⟩
 simp only [gm,gam,hs,hf,hn,cond_false]
 exact h k (by omega)
theorem Runs.told{g:FuncId}{f:List AV->Store->Option (AV×Store)}(hs:Told.sp P g=some f){args:List AV}{σ σ':Store}{v:AV}(h:f args σ=some (v,σ')):Runs P g args σ v σ':=by
 refine⟨1,fun k hk=>?_⟩
 obtain⟨k,rfl⟩:∃ i,k=i+1:=⟨k-1,by omega⟩
 simp only [gm,gam,hs,h]
theorem Zc{fn:Func}{p L:List Nat}{s:List AV×Store}{r:LX}(h:EvI (fun k s=>stepF P (gm P k) drawn k fn p L s) s r):Ev (fun k=>loopF P (gm P k) drawn k fn p L s) r:=h.ev
end
structure Kp (n:Nat) (σ σ':Store):Prop where
 prot:σ'.prot=σ.prot
 len:σ.objs.length<=σ'.objs.length
 keep:∀ b,b<n->σ'.objs[b]?=σ.objs[b]?
theorem Kp.refl(n:Nat)(σ:Store):Kp n σ σ:=⟨rfl,Qg _,fun _ _=>rfl⟩
theorem Kp.trans{n:Nat}{σ σ1 σ2:Store}(h:Kp n σ σ1)(k:Kp n σ1 σ2):Kp n σ σ2:=⟨k.prot.trans h.prot,QH h.len k.len,fun b hb=>(k.keep b hb).trans (h.keep b hb)⟩
theorem Kp.mono{n m:Nat}{σ σ':Store}(h:Kp n σ σ')(hm:m<=n):Kp m σ σ':=⟨h.prot,h.len,fun b hb=>h.keep b (by omega)⟩
theorem Kp.push{n:Nat}{σ:Store}(l:List AV)(es:Nat)(hn:n<=σ.objs.length):Kp n σ (σ.push l es):=⟨rfl,by simp [Store.push],fun b hb=>by simp only [Store.push]; rw [Qc (by omega)]⟩
structure Store.Sl (σ:Store) (h:Hdl) (es:Nat) (l:List AV):Prop where
 len:h.len*es=l.length
 row:h.len=0\/∃ b o cs rw,h.a=some (b,o)/\σ.objs[b]?=some (.cells cs rw es)/\o+l.length<=cs.length/\(cs.drop o).take l.length=l
def intsL(l:List Int):List AV:=l.map (AV.int .i64)
abbrev Store.Ints (σ:Store) (h:Hdl) (l:List Int):Prop:=σ.Sl h 1 (intsL l)
def boolsL(l:List Bool):List AV:=l.map AV.bool
abbrev Store.Bools (σ:Store) (h:Hdl) (l:List Bool):Prop:=σ.Sl h 1 (boolsL l)
@[simp] theorem intsL_length (l:List Int):(intsL l).length=l.length:=by simp [intsL]
@[simp] theorem boolsL_length (l:List Bool):(boolsL l).length=l.length:=by simp [boolsL]
theorem Store.Sl.at{σ:Store}{h:Hdl}{l:List AV}(s:σ.Sl h 1 l){i:Int}(h0:0<=i){v:AV}(hv:l[i.toNat]?=some v):σ.cell (h.idx i 1)=some v:=by
 have hlt:i.toNat<l.length:=(Qb.1 hv).1
 have hl:=s.len
 rcases s.row with h1 | ⟨b,o,cs,rw,h1,h2,h3,h4⟩
 ·rw [h1] at hl; omega
 ·simp only [Hdl.idx,Ptr.add,h1,Qz,Store.cell,h2,Qad]
  rw [<-h4,Qq,if_pos hlt,QK] at hv
  exact hv
theorem Store.Ints.ilen{σ:Store}{h:Hdl}{l:List Int}(s:σ.Ints h l):h.len=l.length:=by have:=Store.Sl.len s; simpa using this
theorem Store.Bools.blen{σ:Store}{h:Hdl}{l:List Bool}(s:σ.Bools h l):h.len=l.length:=by have:=Store.Sl.len s; simpa using this
theorem Store.Ints.ld{σ:Store}{h:Hdl}{l:List Int}(s:σ.Ints h l){i:Int}(h0:0<=i)(h1:i<l.length):σ.ldInt .i64 (h.idx i 1)=some (l.getD i.toNat 0):=by
 have hlt:i.toNat<l.length:=by omega
 have:σ.cell (h.idx i 1)=some (.int .i64 l[i.toNat]):=Store.Sl.at s h0 (by simp [intsL,hlt])
 simp [Store.ldInt,this,hlt]
theorem Store.Bools.ld{σ:Store}{h:Hdl}{l:List Bool}(s:σ.Bools h l){i:Int}(h0:0<=i)(h1:i<l.length):σ.ldBool (h.idx i 1)=some (l.getD i.toNat false):=by
 have hlt:i.toNat<l.length:=by omega
 have:σ.cell (h.idx i 1)=some (.bool l[i.toNat]):=Store.Sl.at s h0 (by simp [boolsL,hlt])
 simp [Store.ldBool,this,hlt]
theorem Store.Sl.keep{σ σ':Store}{h:Hdl}{es:Nat}{l:List AV}(s:σ.Sl h es l)(k:∀ b o,h.a=some (b,o)->σ'.objs[b]?=σ.objs[b]?):σ'.Sl h es l:=by
 refine⟨s.len,?_⟩
 rcases s.row with h1 | ⟨b,o,cs,rw,h1,h2,h3,h4⟩
 ·exact .inl h1
 ·exact .inr ⟨b,o,cs,rw,h1,(k b o h1).trans h2,h3,h4⟩
theorem Store.Sl.lt{σ:Store}{h:Hdl}{es:Nat}{l:List AV}(s:σ.Sl h es l):h.len=0\/∃ b o,h.a=some (b,o)/\b<σ.objs.length:=by
 rcases s.row with h1 | ⟨b,o,cs,rw,h1,h2,_⟩
 ·exact .inl h1
 ·exact .inr ⟨b,o,h1,(Qb.1 h2).1⟩
theorem Store.Sl.kp{σ σ':Store}{h:Hdl}{es:Nat}{l:List AV}(s:σ.Sl h es l)(k:Kp σ.objs.length σ σ'):σ'.Sl h es l:=by
 refine⟨s.len,?_⟩
 rcases s.row with h1 | ⟨b,o,cs,rw,h1,h2,h3,h4⟩
 ·exact .inl h1
 ·exact .inr ⟨b,o,cs,rw,h1,(k.keep b (Qb.1 h2).1).trans h2,h3,h4⟩
theorem Store.Sl.read{σ:Store}{h:Hdl}{es:Nat}{l:List AV}(s:σ.Sl h es l):σ.readSl h es=some l:=by
 have hl:=s.len
 unfold Store.readSl
 rcases s.row with h1 | ⟨b,o,cs,rw,h1,h2,h3,h4⟩
 ·rw [h1] at hl; rw [if_pos h1]
  have:l=[]:=Ql (by omega)
  rw [this]
 ·by_cases h0:h.len=0
  ·rw [h0] at hl; rw [if_pos h0]
   have:l=[]:=Ql (by omega)
   rw [this]
  ·rw [if_neg h0]
   simp only [h1,h2]
   rw [hl,if_pos h3,h4]
theorem Za{x:Int}(h0:-9223372036854775808<=x)(h1:x<9223372036854775808):IntKind.i64.wrap x=x:=by
 unfold IntKind.wrap
 have e1:(2:Int)^(IntKind.i64.bits-1)=9223372036854775808:=by decide
 have e2:(2:Int)^IntKind.i64.bits=18446744073709551616:=by decide
 simp only [e1,e2,IntKind.signed,Qay,decide_eq_true_eq]
 split <;> omega
structure Store.Own (σ:Store) (n:Nat) (h:Hdl) (es:Nat):Prop where
 own:∀ b o,h.a=some (b,o)->n<=b/\∃ cs,σ.objs[b]?=some (.cells cs true es)/\o+h.len*es<=cs.length/\∀ c,h.cap=some c->o+c*es<=cs.length
 nil:h.a=none->h.len=0
theorem Zbg{σ:Store}{n:Nat}{h:Hdl}{es by_ m:Nat}{l xs:List AV}(s:σ.Sl h es l)(ow:σ.Own n h es)(hp:σ.prot<=n)(hn:n<=σ.objs.length)(h0:0<es)(hx:xs.length=m*es)(ho:xs.all AV.one=true)
  (hb:0<by_) (hc:(h.len+m)*by_<=140737488355328):∃ h' σ',σ.app h es by_ xs m=some (h',σ')/\Kp n σ σ'/\σ'.Sl h' es (l++xs)/\σ'.Own n h' es/\h'.len=h.len+m /\
   (∀ b,(∀ c o,h.a=some (c,o)->b≠c)->b<σ.objs.length->σ'.objs[b]?=σ.objs[b]?):=by
 have hsl:=s.len
 have hl:h.len=0->l=[]:=fun e=>Ql (by rw [e] at hsl; omega)
 unfold Store.app
 by_cases hm:m=0
 ·subst hm
  have hx0:xs=[]:=Ql (by omega)
  subst hx0
  rw [if_pos rfl]
  exact⟨h,σ,rfl,Kp.refl _ _,by simpa using s,ow,by omega,fun _ _ _=>rfl⟩
 ·rw [if_neg hm,if_pos ⟨hc,hb,hx,ho⟩]
  cases ha:h.a with
  | none=>
   have h0':=ow.nil ha
   have hl0:=hl h0'
   subst hl0
   refine⟨_,_,rfl,Kp.push _ _ hn,⟨by simpa using hx.symm,.inr ⟨σ.objs.length,0,xs,true,rfl,by simp [Store.push],by simp,by simp⟩⟩,⟨?_,by simp⟩,by simp [h0'],fun b _ hb=>by simp only [Store.push]; rw [Qc hb]⟩
   intro b o e
   simp only [Q2.injEq,Prod.mk.injEq] at e
   obtain⟨rfl,rfl⟩:=e
   exact⟨hn,xs,by simp [Store.push],by simp [hx],by simp⟩
  | some bo=>
   obtain⟨b,o⟩:=bo
   obtain⟨hnb,cs,hob,hlen,hcap⟩:=ow.own b o ha
   have hbl:b<σ.objs.length:=(Qb.1 hob).1
   have Zf:(cs.drop o).take (h.len*es)=l:=by
    rcases s.row with h1 | ⟨b',o',cs',rw',h1,h2,h3,h4⟩
    ·rw [hl h1,h1]; simp
    ·rw [ha] at h1; injection h1 with h1; injection h1 with h1 h1'; subst h1 h1'
     rw [hob] at h2; injection h2 with h2; injection h2 with h2 _ _; subst h2
     rw [hsl]; exact h4
   have hpush:∀ (σ1:Store),σ1.objs.length=σ.objs.length->σ1.prot=σ.prot->(∀ i,i≠b->σ1.objs[i]?=σ.objs[i]?) ->
     Kp n σ { σ1 with objs:=σ1.objs++[.cells ((cs.drop o).take (h.len*es)++xs) true es] } /\
     Store.Sl { σ1 with objs:=σ1.objs++[.cells ((cs.drop o).take (h.len*es)++xs) true es] } ⟨some (σ.objs.length,0),h.len+m,none⟩ es (l++xs) /\
     Store.Own { σ1 with objs:=σ1.objs++[.cells ((cs.drop o).take (h.len*es)++xs) true es] } n ⟨some (σ.objs.length,0),h.len+m,none⟩ es /\
     ∀ i,(∀ c o',some (b,o)=some (c,o')->i≠c)->i<σ.objs.length->(σ1.objs++[.cells ((cs.drop o).take (h.len*es)++xs) true es])[i]?=σ.objs[i]?:=by
    intro σ1 e1 e2 e3
    rw [Zf]
    have hnew:(σ1.objs++[AObj.cells (l++xs) true es])[σ.objs.length]?=some (.cells (l++xs) true es):=by rw [<-e1]; simp
    refine⟨⟨e2,by simp [e1],fun i hi=>?_⟩,⟨?_,.inr ⟨σ.objs.length,0,l++xs,true,rfl,hnew,by simp,by rw [Qae,QB (Qg _)]⟩⟩,⟨?_,by simp⟩,fun i hi hlt=>?_⟩
    ·show (σ1.objs++_)[i]?=_
     rw [Qc (by omega)]; exact e3 i (by omega)
    ·simp [QO,hsl,hx]
    ·intro c o' e
     simp only [Q2.injEq,Prod.mk.injEq] at e
     obtain⟨rfl,rfl⟩:=e
     exact⟨hn,_,hnew,by simp [QO,hsl,hx],by simp⟩
    ·rw [Qc (by omega)]; exact e3 i (hi b o rfl)
   simp only [hob]
   rw [if_pos ⟨hlen,trivial⟩]
   cases hcp:h.cap with
   | none=>
    simp only
    rw [if_pos ⟨trivial,by omega⟩]
    obtain⟨k1,k2,k3,k4⟩:=hpush { σ with objs:=σ.objs.set b .dead } (by simp) rfl (fun i hi=>by show (σ.objs.set b _)[i]?=_; rw [Qe,if_neg (Ne.symm hi)])
    exact⟨_,_,rfl,k1,k2,k3,rfl,k4⟩
   | some c=>
    simp only
    by_cases hcm:h.len+m<=c
    ·have hce:=hcap c hcp
     have hle:o+(h.len+m)*es<=cs.length:=QH (Nat.add_le_add_left (Qaf es hcm) o) hce
     rw [if_pos hcm,if_pos ⟨trivial,by omega,hle⟩]
     have hlen2:(cs.take (o+h.len*es)++xs++cs.drop (o+(h.len+m)*es)).length=cs.length:=by
      simp only [Qan,Qx,Qs,hx,QO] at *
      omega
     have hsame:∀ i,i≠b->(σ.objs.set b (.cells (cs.take (o+h.len*es)++xs++cs.drop (o+(h.len+m)*es)) true es))[i]?=σ.objs[i]?:=fun i hi=>by rw [Qe,if_neg (Ne.symm hi)]
     have hnew:(σ.objs.set b (.cells (cs.take (o+h.len*es)++xs++cs.drop (o+(h.len+m)*es)) true es))[b]?=some (.cells (cs.take (o+h.len*es)++xs++cs.drop (o+(h.len+m)*es)) true es):=by rw [Qe,if_pos rfl,if_pos hbl]
     refine⟨_,_,rfl,⟨rfl,by simp,fun i hi=>hsame i (by omega)⟩,⟨?_,.inr ⟨b,o,_,true,rfl,hnew,?_,?_⟩⟩,⟨?_,by simp⟩,rfl,fun i hi _=>hsame i (hi b o rfl)⟩
     ·simp [QO,hsl,hx]
     ·rw [hlen2,Qan,<-hsl,hx,<-QO]; exact hle
     ·have ht:(cs.take (o+h.len*es)).length=o+h.len*es:=by rw [Qx]; omega
      rw [QM,List.drop_append_of_le_length (by omega),Qax,show o+h.len*es-o=h.len*es by omega,Zf,<-QM,
       List.take_append_of_le_length (by simp),QB (by simp)]
     ·intro b' o' e
      simp only [Q2.injEq,Prod.mk.injEq] at e
      obtain⟨rfl,rfl⟩:=e
      refine⟨hnb,_,hnew,by rw [hlen2]; exact hle,fun c' hc'=>?_⟩
      injection hc' with hc'; subst hc'
      rw [hlen2]; exact hce
    ·rw [if_neg hcm]
     obtain⟨k1,k2,k3,k4⟩:=hpush σ rfl rfl (fun _ _=>rfl)
     exact⟨_,_,rfl,k1,k2,k3,rfl,k4⟩
end Go.Ab

namespace Go.Ab
open Go
def Hdl.row(h:Hdl):Option Nat:=h.a.map (·.1)
def Ptr.row(p:Ptr):Option Nat:=p.map (·.1)
structure Off (b:Nat) (σ σ':Store):Prop where
 prot:σ'.prot=σ.prot
 len:σ'.objs.length=σ.objs.length
 off:∀ c,c≠b->σ'.objs[c]?=σ.objs[c]?
theorem Off.refl(b:Nat)(σ:Store):Off b σ σ:=⟨rfl,rfl,fun _ _=>rfl⟩
theorem Off.trans{b:Nat}{σ σ1 σ2:Store}(h:Off b σ σ1)(k:Off b σ1 σ2):Off b σ σ2:=⟨k.prot.trans h.prot,k.len.trans h.len,fun c hc=>(k.off c hc).trans (h.off c hc)⟩
theorem Off.kp{b n:Nat}{σ σ':Store}(h:Off b σ σ')(hn:n<=b):Kp n σ σ':=⟨h.prot,by rw [h.len]; exact Qg _,fun c hc=>h.off c (by omega)⟩
theorem Store.Sl.off{σ σ':Store}{h:Hdl}{es:Nat}{l:List AV}(s:σ.Sl h es l){b:Nat}(k:Off b σ σ')(hr:h.row≠some b):σ'.Sl h es l:=
 s.keep fun c o e=>k.off c fun e'=>hr (by simp [Hdl.row,e,e'])
theorem Z6{σ σ':Store}{b:Nat}(k:Off b σ σ'){p:Ptr}(hr:p.row≠some b):σ'.cell p=σ.cell p:=by
 cases p with
 | none=>rfl
 | some x=>obtain⟨c,o⟩:=x; simp only [Store.cell]; rw [k.off c (fun e=>hr (by simp [Ptr.row,e]))]
@[simp] theorem Ptr.row_add (p:Ptr) (n:Nat):(Ptr.add p n).row=p.row:=by cases p <;> rfl
theorem Zdr{σ σ':Store}{n:Nat}(k:Kp n σ σ'){p:Ptr}(hr:∀ b,p.row=some b->b<n):σ'.cell p=σ.cell p:=by
 cases p with
 | none=>rfl
 | some x=>obtain⟨c,o⟩:=x; simp only [Store.cell]; rw [k.keep c (hr c rfl)]
theorem Zz{σ σ':Store}{p:Ptr}(h:σ'.cell p=σ.cell p):σ'.ldSl p=σ.ldSl p:=by simp only [Store.ldSl,h]
theorem Zkp{σ σ':Store}{k:IntKind}{p:Ptr}(h:σ'.cell p=σ.cell p):σ'.ldInt k p=σ.ldInt k p:=by simp only [Store.ldInt,h]
theorem Zao{σ σ':Store}{p:Ptr}(h:σ'.cell p=σ.cell p):σ'.ldPtr p=σ.ldPtr p:=by simp only [Store.ldPtr,h]
def Store.Wr(σ:Store)(h:Hdl):Prop:=∃ b o cs,h.a=some (b,o)/\σ.objs[b]?=some (.cells cs true 1)/\σ.prot<=b
theorem Zfo(σ:Store)(p:Ptr)(v:AV):σ.stL p [v] 0=σ.st p v:=by
 have hp:Ptr.add p 0=p:=by cases p <;> rfl
 simp only [Store.stL,hp]
 cases σ.st p v <;> rfl
theorem Z31{σ:Store}{h:Hdl}{l:List AV}(s:σ.Sl h 1 l)(w:σ.Wr h){i:Int}(h0:0<=i)(h1:i<l.length){v:AV}(hv:v.one=true){b:Nat}(hb:h.row=some b) :
  ∃ σ',σ.stL (h.idx i 1) [v] 0=some σ'/\Off b σ σ'/\σ'.Sl h 1 (l.set i.toNat v)/\σ'.Wr h:=by
 obtain⟨b',o,cs,ha,ho,hp⟩:=w
 have hbb:b'=b:=by simpa [Hdl.row,ha] using hb
 subst hbb
 have hl:=s.len
 have hlt:i.toNat<l.length:=by omega
 rcases s.row with h2 | ⟨b2,o2,cs2,rw2,k1,k2,k3,k4⟩
 ·rw [h2] at hl; omega
 rw [ha] at k1; injection k1 with k1; injection k1 with k1 k1'; subst k1 k1'
 rw [ho] at k2; injection k2 with k2; injection k2 with k2 k2' k2''; subst k2
 have hbl:b'<σ.objs.length:=(Qb.1 ho).1
 have hnew:(σ.objs.set b' (.cells (cs.set (o+i.toNat) v) true 1))[b']?=some (.cells (cs.set (o+i.toNat) v) true 1):=by rw [Qe,if_pos rfl,if_pos hbl]
 refine⟨{ σ with objs:=σ.objs.set b' (.cells (cs.set (o+i.toNat) v) true 1) },?_,⟨rfl,by simp,fun c hc=>by show (σ.objs.set b' _)[c]?=_; rw [Qe,if_neg (Ne.symm hc)]⟩,⟨by simpa using hl,.inr ⟨b',o,_,true,ha,hnew,by simpa using k3,?_⟩⟩,⟨b',o,_,ha,hnew,hp⟩⟩
 ·rw [Zfo]
  simp only [Hdl.idx,Ptr.add,ha,Qz,Qad,Store.st,ho]
  rw [if_pos ⟨⟨hp,by omega⟩,hv⟩]
 ·apply List.ext_getElem?
  intro j
  have hj:l[j]?=((cs.drop o).take l.length)[j]?:=by rw [k4]
  rw [Qau,Qq,Qe]
  rw [Qq] at hj
  by_cases c:j<l.length
  ·rw [if_pos c] at hj ⊢
   rw [QK] at hj ⊢
   rw [Qe]
   by_cases e:i.toNat=j
   ·subst e
    rw [if_pos rfl,if_pos rfl,if_pos (by omega),if_pos hlt]
   ·rw [if_neg (by omega),if_neg e]; exact hj.symm
  ·rw [if_neg c,if_neg (by omega)]
   rw [Qu (by omega)]
end Go.Ab

namespace Go.Ab
open Go
theorem Zcy(σ:Store)(l:Nat)(o:AObj)(h:l<σ.objs.length)(b:Nat):(σ.setO l o).objs[b]?=if b=l then some o else σ.objs[b]?:=by
 show (σ.objs.set l o)[b]?=_
 rw [Qe]
 by_cases e:l=b
 ·rw [if_pos e,if_pos e.symm,if_pos (e ▸ h)]
 ·rw [if_neg e,if_neg (Ne.symm e)]
theorem Zeh(σ:Store)(l:Nat)(o:AObj)(h:l<σ.objs.length):Off l σ (σ.setO l o):=
 ⟨rfl,by simp [Store.setO],fun c hc=>by rw [Zcy σ l o h,if_neg hc]⟩
section
variable {P:Program} [Told P]
def RunsY(P:Program)[Told P](l:Nat)(args:List AV)(σ:Store)(v:AV)(σ':Store):Prop:=Ev (fun k=>gm P k (.yl l) args σ) (v,σ')
theorem RunsY.intro{l:Nat}{φ:Fr}{ps:List Tmp}{x y:Code}{nt:Nat}{args:List AV}{σ:Store}(hl:σ.objs[l]?=some (.loop φ ps x y nt .ready))(hp:σ.prot<=l)(ha:ps.length=args.length)(hall:(ps.all fun t=>Nat.blt t nt)=true)
  {φ1:Fr} (hx:∀ k,evCode P (gm P k) drawn k nt false x ⟨liveC y ⟨0,0,[]⟩,0,[]⟩ (roundFr ps args φ) σ (fun e φ1 σ1=>some ((e,φ1,σ1):LX))=some (.normal,φ1,σ))
  {σ2:Store} (hy:Ev (fun k=>evCode P (gm P k) drawn k nt false y ⟨0,0,[]⟩ (φ1.sel (liveC y ⟨0,0,[]⟩) nt) (σ.setO l (.loop φ ps x y nt .busy)) (fun e _ σ2=>some (e,σ2))) (.normal,σ2)) (h2:σ2.objs[l]?=some (.loop φ ps x y nt .busy)) :
  RunsY P l args σ (.bool true) (σ2.setO l (.loop φ ps x y nt .ready)):=by
 obtain⟨k0,hy⟩:=hy
 refine⟨k0+1,fun k hk=>?_⟩
 obtain⟨k,rfl⟩:∃ i,k=i+1:=⟨k-1,by omega⟩
 simp only [gm,gam,evRound,hl]
 rw [if_pos ⟨hp,ha,hall⟩]
 have hx':=hx k
 have hy':=hy k (by omega)
 simp only [gm] at hx' hy'
 rw [hx']
 simp only [Qi,hl]
 rw [hy']
 simp only [Qi,h2]
theorem Zre{g:FuncId}{a b:List AV}{φ:Fr}{ps:List Tmp}{x y:Code}{nt:Nat}{σ σ':Store}{v:AV}{φ':Fr}{ps':List Tmp}{x' y':Code}{nt':Nat}
  (h:Runs P g (a++[.yld σ.objs.length]++b) { σ with objs:=σ.objs++[.loop φ ps x y nt .ready] } v σ') (hl:σ'.objs[σ.objs.length]?=some (.loop φ' ps' x' y' nt' .ready)) :
  Ev (fun k=>rangeV (gm P k) g a b (.loop φ ps x y nt .ready) σ) (.normal,σ'.setO σ.objs.length .dead):=by
 obtain⟨k0,h⟩:=h
 refine⟨k0,fun k hk=>?_⟩
 simp only [rangeV,h k hk,Qi,hl]
end
end Go.Ab

namespace Go.Ab
open Go
@[congr] theorem bindC {α β:Type} {x x':Option α} {f:α->Option β} (h:x=x'):Qa0 x f=Qa0 x' f:=by rw [h]
@[congr] theorem iteC {α:Type} {c c':Prop} [Decidable c] [Decidable c'] {a b:α} (h:c=c'):(if c then a else b)=(if c' then a else b):=by
 subst h; congr
theorem EvI.while{S R:Type}{f:Nat->S->Option (S ⊕ R)}(I:Nat->S->Prop)(Q:R->Prop)
  (step:∀ m s,I m s->(∃ m' s',m'<m/\Ev (fun k=>f k s) (.inl s')/\I m' s')\/∃ r,Ev (fun k=>f k s) (.inr r)/\Q r) (m:Nat):∀ s,I m s->∃ r,EvI f s r/\Q r:=by
 induction m using QY with
 | ind m ih=>
  intro s hs
  rcases step m s hs with ⟨m',s',h1,h2,h3⟩ | ⟨r,h1,h2⟩
  ·obtain⟨r,g1,g2⟩:=ih m' h1 s' h3
   exact⟨r,EvI.step h2 g1,g2⟩
  ·exact⟨r,EvI.done h1,h2⟩
theorem EvI.upX{S R:Type}{f:Nat->S->Option (S ⊕ R)}(n:Nat)(I:Nat->S->Prop)(Q:R->Prop)
  (step:∀ i s,i<n->I i s->(∃ s',Ev (fun k=>f k s) (.inl s')/\I (i+1) s')\/∃ r,Ev (fun k=>f k s) (.inr r)/\Q r)
  (last:∀ s,I n s->∃ r,Ev (fun k=>f k s) (.inr r)/\Q r) {i:Nat} (hi:i<=n) {s:S} (h:I i s):∃ r,EvI f s r/\Q r:=by
 refine EvI.while (fun m s=>∃ i,m=n-i/\i<=n/\I i s) Q ?_ (n-i) s ⟨i,rfl,hi,h⟩
 rintro m s ⟨i,rfl,hi,h⟩
 by_cases c:i<n
 ·rcases step i s c h with ⟨s',h1,h2⟩ | r
  ·exact .inl ⟨n-(i+1),s',by omega,h1,i+1,rfl,by omega,h2⟩
  ·exact .inr r
 ·have:i=n:=by omega
  subst this
  exact .inr (last s h)
theorem EvI.up{S R:Type}{f:Nat->S->Option (S ⊕ R)}(n:Nat)(I:Nat->S->Prop)(Q:R->Prop)
  (step:∀ i s,i<n->I i s->∃ s',Ev (fun k=>f k s) (.inl s')/\I (i+1) s')
  (last:∀ s,I n s->∃ r,Ev (fun k=>f k s) (.inr r)/\Q r) {s:S} (h:I 0 s):∃ r,EvI f s r/\Q r:=
 EvI.upX n I Q (fun i s hi h=>.inl (step i s hi h)) last (QP _) h
theorem EvI.downX{S R:Type}{f:Nat->S->Option (S ⊕ R)}(I:Nat->S->Prop)(Q:R->Prop)
  (step:∀ i s,I (i+1) s->(∃ s',Ev (fun k=>f k s) (.inl s')/\I i s')\/∃ r,Ev (fun k=>f k s) (.inr r)/\Q r)
  (last:∀ s,I 0 s->∃ r,Ev (fun k=>f k s) (.inr r)/\Q r) (n:Nat) {s:S} (h:I n s):∃ r,EvI f s r/\Q r:=by
 refine EvI.while I Q ?_ n s h
 intro m s h
 cases m with
 | zero=>exact .inr (last s h)
 | succ m=>
       rcases step m s h with ⟨s',h1,h2⟩ | r
       ·exact .inl ⟨m,s',by omega,h1,h2⟩
       ·exact .inr r
def Store.Row(σ:Store)(b es:Nat)(l:List AV):Prop:=σ.objs[b]?=some (.cells l true es)
section
variable {σ σ' σ0:Store} {b c es es' n m:Nat} {l l':List AV}
theorem Store.Row.lt(r:σ.Row b es l):b<σ.objs.length:=(Qb.1 r).1
theorem Store.Row.sl(r:σ.Row b es l){len:Nat}{cp:Option Nat}(hn:len*es=l.length):σ.Sl ⟨some (b,0),len,cp⟩ es l:=
 ⟨hn,.inr ⟨b,0,l,true,rfl,r,by simp,by rw [Qae,QB (Qg _)]⟩⟩
theorem Store.Row.cell(r:σ.Row b es l)(o:Nat):σ.cell (some (b,o))=l[o]?:=by simp only [Store.cell]; rw [r]
theorem Store.Row.setO_eq(h:b<σ.objs.length):(σ.setO b (.cells l true es)).Row b es l:=by unfold Store.Row; rw [Zcy σ b _ h,if_pos rfl]
theorem Store.Row.setO_ne(r:σ.Row b es l)(h:c≠b){o:AObj}:(σ.setO c o).Row b es l:=by
 unfold Store.Row; show (σ.objs.set c o)[b]?=_; rw [Qe,if_neg h]; exact r
theorem Store.Row.push(r:σ.Row b es l):(σ.push l' es').Row b es l:=by
 unfold Store.Row Store.push; simp only []; rw [Qc r.lt]; exact r
theorem Store.Row.new:(σ.push l es).Row σ.objs.length es l:=by simp [Store.Row,Store.push]
theorem Store.Row.kp(r:σ.Row b es l)(k:Kp n σ σ')(h:b<n):σ'.Row b es l:=(k.keep b h).trans r
@[simp] theorem push_len:(σ.push l es).objs.length=σ.objs.length+1:=by simp [Store.push]
@[simp] theorem push_prot:(σ.push l es).prot=σ.prot:=rfl
@[simp] theorem setO_len {o:AObj}:(σ.setO b o).objs.length=σ.objs.length:=by simp [Store.setO]
@[simp] theorem setO_prot {o:AObj}:(σ.setO b o).prot=σ.prot:=rfl
theorem Kp.setO(k:Kp n σ0 σ)(h:n<=b){o:AObj}:Kp n σ0 (σ.setO b o):=
 ⟨k.prot,by rw [setO_len]; exact k.len,fun c hc=>by show (σ.objs.set b o)[c]?=_; rw [Qe,if_neg (by omega)]; exact k.keep c hc⟩
theorem Kp.push'(k:Kp n σ0 σ)(h:n<=σ.objs.length):Kp n σ0 (σ.push l es):=k.trans (Kp.push l es h)
theorem Kp.then(k:Kp n σ0 σ)(k':Kp m σ σ')(h:n<=m):Kp n σ0 σ':=k.trans (k'.mono h)
theorem Kp.all(k:Kp σ0.objs.length σ0 σ)(k':Kp σ.objs.length σ σ'):Kp σ0.objs.length σ0 σ':=k.then k' k.len
theorem Zfq(r:σ.Row b 1 l)(hp:σ.prot<=b){i:Int}(h0:0<=i)(h1:i<l.length){v:AV}(hv:v.one=true){len:Nat}{cp:Option Nat} :
  σ.stL (Hdl.idx ⟨some (b,0),len,cp⟩ i 1) [v] 0=some (σ.setO b (.cells (l.set i.toNat v) true 1)):=by
 have:σ.objs[b]?=some (.cells l true 1):=r
 rw [Zfo]
 simp only [Hdl.idx,Ptr.add,Qz,Qad,QV,Store.st,this]
 rw [if_pos ⟨⟨hp,by omega⟩,hv⟩]
 rfl
theorem Zt7(r:σ.Row b es l)(hp:σ.prot<=b){o:Nat}(h1:o<l.length){v:AV}(hv:v.one=true) :
  σ.stL (some (b,o)) [v] 0=some (σ.setO b (.cells (l.set o v) true es)):=by
 have:σ.objs[b]?=some (.cells l true es):=r
 rw [Zfo]
 simp only [Store.st,this]
 rw [if_pos ⟨⟨hp,h1⟩,hv⟩]
 rfl
theorem Zuh(l:List Bool)(n:Nat)(x:Bool):(boolsL l).set n (.bool x)=boolsL (l.set n x):=by simp [boolsL,Qap]
theorem Zdn(l:List Int)(n:Nat)(x:Int):(intsL l).set n (.int .i64 x)=intsL (l.set n x):=by simp [intsL,Qap]
theorem Zd5(l m:List Int):intsL (l++m)=intsL l++intsL m:=by simp [intsL]
theorem Zbv(n:Nat):mkCells [.int .i64 0] n=intsL (Qp n 0):=by simp [mkCells,intsL]
theorem Zqt(n:Nat):mkCells [.bool false] n=boolsL (Qp n false):=by simp [mkCells,boolsL]
theorem Zcz{l:List Int}(r:σ.Row b 1 (intsL l))(hp:σ.prot<=b){i:Int}(h0:0<=i)(h1:i<l.length){x:Int}{len:Nat}{cp:Option Nat} :
  σ.stL (Hdl.idx ⟨some (b,0),len,cp⟩ i 1) [.int .i64 x] 0=some (σ.setO b (.cells (intsL (l.set i.toNat x)) true 1)):=by
 rw [Zfq r hp h0 (by simpa using h1) rfl,Zdn]
theorem Z00{l:List Bool}(r:σ.Row b 1 (boolsL l))(hp:σ.prot<=b){i:Int}(h0:0<=i)(h1:i<l.length){x:Bool}{len:Nat}{cp:Option Nat} :
  σ.stL (Hdl.idx ⟨some (b,0),len,cp⟩ i 1) [.bool x] 0=some (σ.setO b (.cells (boolsL (l.set i.toNat x)) true 1)):=by
 rw [Zfq r hp h0 (by simpa using h1) rfl,Zuh]
structure Grow (σ:Store) (n:Nat) (h:Hdl) (es:Nat) (l:List AV):Prop where
 sl:σ.Sl h es l
 own:σ.Own n h es
theorem Grow.nil(σ:Store)(n es:Nat):Grow σ n Hdl.nil es []:=⟨⟨by simp [Hdl.nil],.inl rfl⟩,⟨fun b o e=>by simp [Hdl.nil] at e,fun _=>rfl⟩⟩
theorem Grow.rowLt{h:Hdl}(g:Grow σ n h es l):∀ b o,h.a=some (b,o)->n<=b/\b<σ.objs.length:=fun b o e=>by
 obtain⟨h1,cs,h2,_⟩:=g.own.own b o e
 exact⟨h1,(Qb.1 h2).1⟩
theorem Grow.keep{h:Hdl}(g:Grow σ n h es l)(k:∀ b o,h.a=some (b,o)->σ'.objs[b]?=σ.objs[b]?):Grow σ' n h es l:=
 ⟨g.sl.keep k,⟨fun b o e=>by
  obtain⟨h1,cs,h2,h3,h4⟩:=g.own.own b o e
  exact⟨h1,cs,(k b o e).trans h2,h3,h4⟩,g.own.nil⟩⟩
theorem Grow.kp{h:Hdl}(g:Grow σ n h es l)(k:Kp σ.objs.length σ σ'):Grow σ' n h es l:=g.keep fun b o e=>k.keep b (g.rowLt b o e).2
theorem Grow.setO{h:Hdl}(g:Grow σ n h es l)(hc:c<n){o:AObj}:Grow (σ.setO c o) n h es l:=g.keep fun b o' e=>by
 have:=(g.rowLt b o' e).1
 show (σ.objs.set c o)[b]?=_
 rw [Qe,if_neg (by omega)]
theorem Grow.mono{h:Hdl}(g:Grow σ n h es l)(hm:m<=n):Grow σ m h es l:=
 ⟨g.sl,⟨fun b o e=>by obtain⟨h1,h2⟩:=g.own.own b o e; exact⟨by omega,h2⟩,g.own.nil⟩⟩
theorem Grow.len{h:Hdl}(g:Grow σ n h 1 l):h.len=l.length:=by have:=g.sl.len; simpa using this
theorem Zbf(σ:Store)(v:AV)(cp:Option Nat):Store.readSl (σ.push [v] 1) ⟨some (σ.objs.length,0),1,cp⟩ 1=some [v]:=
 (Store.Row.new.sl (by rfl)).read
theorem Grow.app1{h:Hdl}(g:Grow σ n h 1 l)(hp:σ.prot<=n)(hn:n<=σ.objs.length){v:AV}(hv:v.one=true){bs:Nat}(hb:0<bs)(hc:(l.length+1)*bs<=140737488355328) :
  ∃ h' σ',Store.app (σ.push [v] 1) h 1 bs [v] 1=some (h',σ')/\Kp n σ σ'/\Grow σ' n h' 1 (l++[v]):=by
 have k:=Kp.push [v] 1 (σ:=σ) (Qg _)
 have g':=g.kp k
 have hl:=g.len
 obtain⟨h',σ',e,k',s',o',_⟩:=Zbg (xs:=[v]) (by_:=bs) (m:=1) g'.sl g'.own (by simpa using hp) (by simp; omega) (by omega) (by simp) (by simp [hv]) hb (by rw [hl]; exact hc)
 exact⟨h',σ',e,(Kp.push [v] 1 hn).trans k',⟨s',o'⟩⟩
end
theorem Zh5{σ σ':Store}{h h':Hdl}{es bs m:Nat}{xs:List AV}(e:σ.app h es bs xs m=some (h',σ')):h'.row=h.row\/h'.row=some σ.objs.length:=by
 unfold Store.app at e
 split at e
 ·injection e with e; injection e with e1 e2; subst e1; exact .inl rfl
 ·split at e
  ·split at e
   ·injection e with e; injection e with e1 e2; subst e1; exact .inr rfl
   ·rename_i b o ha
    split at e
    ·split at e
     ·split at e
      ·split at e
       ·split at e
        ·injection e with e; injection e with e1 e2; subst e1; exact .inl (by simp [Hdl.row,ha])
        ·cases e
       ·injection e with e; injection e with e1 e2; subst e1; exact .inr rfl
      ·split at e
       ·injection e with e; injection e with e1 e2; subst e1; exact .inr rfl
       ·cases e
     ·cases e
    ·cases e
  ·cases e
theorem Grow.app1X{σ:Store}{n:Nat}{h:Hdl}{l:List AV}(g:Grow σ n h 1 l)(hp:σ.prot<=n)(hn:n<=σ.objs.length){v:AV}(hv:v.one=true){bs:Nat}(hb:0<bs)(hc:(l.length+1)*bs<=140737488355328) :
  ∃ h' σ',Store.app (σ.push [v] 1) h 1 bs [v] 1=some (h',σ')/\Kp n σ σ'/\Grow σ' n h' 1 (l++[v])/\(∀ b,b<σ.objs.length->h.row≠some b->σ'.objs[b]?=σ.objs[b]?)/\(h'.row=h.row\/∀ b,h'.row=some b->σ.objs.length<=b):=by
 have k:=Kp.push [v] 1 (σ:=σ) (Qg _)
 have g':=g.kp k
 have hl:=g.len
 obtain⟨h',σ',e,k',s',o',_,fr⟩:=Zbg (xs:=[v]) (by_:=bs) (m:=1) g'.sl g'.own (by simpa using hp) (by simp; omega) (by omega) (by simp) (by simp [hv]) hb (by rw [hl]; exact hc)
 refine⟨h',σ',e,(Kp.push [v] 1 hn).trans k',⟨s',o'⟩,fun b hb hr=>?_,?_⟩
 ·rw [fr b (fun c o e' e2=>hr (by simp [Hdl.row,e',e2])) (by simp; omega)]
  simp only [Store.push]; rw [Qc hb]
 ·rcases Zh5 e with r | r
  ·exact .inl r
  ·refine .inr fun b hb=>?_
   rw [r] at hb; injection hb with hb; subst hb; simp
theorem Grow.keepX{σ σ':Store}{n:Nat}{h:Hdl}{es:Nat}{l:List AV}(g:Grow σ n h es l)(k:∀ b,h.row=some b->σ'.objs[b]?=σ.objs[b]?):Grow σ' n h es l:=g.keep fun b o e=>k b (by simp [Hdl.row,e])
abbrev GrowI (σ:Store) (n:Nat) (h:Hdl) (l:List Int):Prop:=Grow σ n h 1 (intsL l)
theorem GrowI.app{σ:Store}{n:Nat}{h:Hdl}{l:List Int}(g:GrowI σ n h l)(hp:σ.prot<=n)(hn:n<=σ.objs.length)(x:Int)(hc:l.length<2^42) :
  ∃ h' σ',Store.app (σ.push [.int .i64 x] 1) h 1 8 [.int .i64 x] 1=some (h',σ')/\Kp n σ σ'/\GrowI σ' n h' (l++[x]):=by
 obtain⟨h',σ',e,k,g'⟩:=Grow.app1 g hp hn (v:=.int .i64 x) rfl (bs:=8) (by omega) (by simp; omega)
 exact⟨h',σ',e,k,by rw [GrowI,Zd5]; exact g'⟩
theorem Grow.ints{σ:Store}{n:Nat}{h:Hdl}{l:List Int}(g:Grow σ n h 1 (intsL l)):σ.Ints h l:=g.sl
theorem GrowI.ints{σ:Store}{n:Nat}{h:Hdl}{l:List Int}(g:GrowI σ n h l):σ.Ints h l:=g.sl
end Go.Ab

namespace Go.Ab
open Go
structure Inp (w:World) (μ:Mu) (σ:Store) (args:List AV) (cargs:List Value):Prop where
 rel:Rel μ σ w
 vl:VL μ args cargs
 pr:σ.prot=σ.objs.length
 no:∀ (b:Nat) (o:AObj),σ.objs[b]?=some o->o.free=false/\o.other=false
theorem Inp.nil(w:World):Inp w (fun _=>none) ⟨[],0⟩ [] []:=
 ⟨⟨by simp,by simp,by simp,by simp,by simp,by simp⟩,VL.nil _,rfl,by simp⟩
theorem VL.snoc{μ:Mu}{v:AV}{c:Value}{l:List AV}{l':List Value}(hl:VL μ l l')(h:VR μ v c):VL μ (l++[v]) (l'++[c]):=hl.append (VL.cons h (VL.nil _))
theorem Inp.val{w:World}{μ:Mu}{σ:Store}{args:List AV}{cargs:List Value}(I:Inp w μ σ args cargs){v:AV}{c:Value}(h:VR μ v c):Inp w μ σ (args++[v]) (cargs++[c]):=
 ⟨I.rel,I.vl.snoc h,I.pr,I.no⟩
def Mu.add(μ:Mu)(n:Nat)(L:Option Loc):Mu:=fun b=>if b=n then L else μ b
def Store.lay(σ:Store)(o:AObj):Store:=⟨σ.objs++[o],σ.objs.length+1⟩
theorem Zb9{σ:Store}{o:AObj}{b:Nat}(h:b<σ.objs.length):(σ.lay o).objs[b]?=σ.objs[b]?:=by simp only [Store.lay]; rw [Qc h]
theorem Zma{σ:Store}{o:AObj}:(σ.lay o).objs[σ.objs.length]?=some o:=by simp [Store.lay]
theorem Ztj{σ:Store}{o:AObj}{b:Nat}{x:AObj}(h:(σ.lay o).objs[b]?=some x):σ.objs[b]?=some x\/(b=σ.objs.length/\x=o):=by
 by_cases c:b<σ.objs.length
 ·rw [Zb9 c] at h; exact .inl h
 ·have:b<(σ.lay o).objs.length:=(Qb.1 h).1
  simp [Store.lay] at this
  have e:b=σ.objs.length:=by omega
  subst e
  rw [Zma] at h; injection h with h; exact .inr ⟨rfl,h.symm⟩
@[simp] theorem lay_len {σ:Store} {o:AObj}:(σ.lay o).objs.length=σ.objs.length+1:=by simp [Store.lay]
theorem Mu.add_mono{μ:Mu}{σ:Store}{w:World}(h:Rel μ σ w)(L:Option Loc):∀ b M,μ b=some M->Mu.add μ σ.objs.length L b=some M:=fun b M hb=>by
 have:=h.dom b M hb
 unfold Mu.add; rw [if_neg (by omega)]; exact hb
theorem Inp.dead{w:World}{μ:Mu}{σ:Store}{args:List AV}{cargs:List Value}(I:Inp w μ σ args cargs):Inp w μ (σ.lay .dead) args cargs:=by
 refine⟨⟨fun b L h=>by have:=I.rel.dom b L h; simp; omega,I.rel.dat,?_,?_,?_,?_⟩,I.vl,by simp [Store.lay],fun b o h=>?_⟩
 ·intro b l rw es L h hb
  rw [Zb9 (I.rel.dom b L hb)] at h; exact I.rel.cells b l rw es L h hb
 ·intro b l es L h hb
  rw [Zb9 (I.rel.dom b L hb)] at h; exact I.rel.rw b l es L h hb
 ·intro b o L h ho hb
  rw [Zb9 (I.rel.dom b L hb)] at h; exact I.rel.obj b o L h ho hb
 ·intro b b' o o' L L' h hf h' ha hne hb hb'
  rw [Zb9 (I.rel.dom b L hb)] at h; rw [Zb9 (I.rel.dom b' L' hb')] at h'; exact I.rel.sep b b' o o' L L' h hf h' ha hne hb hb'
 ·rcases Ztj h with h | ⟨_,rfl⟩
  ·exact I.no b o h
  ·exact⟨rfl,rfl⟩
theorem Inp.row{w:World}{μ:Mu}{σ:Store}{args:List AV}{cargs:List Value}(I:Inp w μ σ args cargs){l:List AV}{es:Nat}{L:Loc}(hes:L.es=es)(hN:l.length=L.N)(hd:Dat w L.blk)
  (hc:∀ (j:Nat) v,l[j]?=some v->∃ c,w.cell? ⟨L.blk,L.off+j,none⟩=some c/\VR μ v c):Inp w (Mu.add μ σ.objs.length (some L)) (σ.lay (.cells l false es)) args cargs:=by
 have hm:=Mu.add_mono I.rel (some L)
 have hnew:Mu.add μ σ.objs.length (some L) σ.objs.length=some L:=by simp [Mu.add]
 have hold:∀ b M,Mu.add μ σ.objs.length (some L) b=some M->(b<σ.objs.length/\μ b=some M)\/(b=σ.objs.length/\M=L):=by
  intro b M h
  by_cases e:b=σ.objs.length
  ·rw [e,hnew] at h; injection h with h; exact .inr ⟨e,h.symm⟩
  ·unfold Mu.add at h; rw [if_neg e] at h; exact .inl ⟨I.rel.dom b M h,h⟩
 have hno:∀ (b:Nat) (o:AObj),(σ.lay (.cells l false es)).objs[b]?=some o->o.free=false/\o.other=false:=fun b o h=>by
  rcases Ztj h with h | ⟨_,rfl⟩
  ·exact I.no b o h
  ·exact⟨rfl,rfl⟩
 refine⟨⟨fun b M h=>?_,fun b M h=>?_,?_,?_,?_,?_⟩,I.vl.mono hm,by simp [Store.lay],hno⟩
 ·rcases hold b M h with ⟨h1,_⟩ | ⟨h1,_⟩ <;> simp <;> omega
 ·rcases hold b M h with ⟨_,h1⟩ | ⟨_,rfl⟩
  ·exact I.rel.dat b M h1
  ·exact hd
 ·intro b l' rw es' M h hb
  rcases hold b M hb with ⟨h1,h2⟩ | ⟨rfl,rfl⟩
  ·rw [Zb9 h1] at h
   obtain⟨a1,a2,a3⟩:=I.rel.cells b l' rw es' M h h2
   exact⟨a1,a2,fun j v hj=>by obtain⟨c,c1,c2⟩:=a3 j v hj; exact⟨c,c1,c2.mono hm⟩⟩
  ·rw [Zma] at h; injection h with h; injection h with e1 e2 e3; subst e1 e2 e3
   exact⟨hes,by omega,fun j v hj=>by obtain⟨c,c1,c2⟩:=hc j v hj; exact⟨c,c1,c2.mono hm⟩⟩
 ·intro b l' es' M h hb
  have:=(hno b _ h).1
  cases this
 ·intro b o M h ho hb
  rw [(hno b o h).2] at ho; cases ho
 ·intro b b' o o' M M' h hf h' ha hne hb hb'
  rw [(hno b o h).1] at hf; cases hf
def okTrue:Option (AV×Store)->Bool
 | some (.bool true,_)=>true
 | _=>false
theorem Rel.empty(w:World):Rel (fun _=>none) ⟨[],0⟩ w:=⟨by simp,by simp,by simp,by simp,by simp,by simp⟩
theorem Ste.same{μ:Mu}{σ:Store}{w w':World}(h:Rel μ σ w)(h1:w'.os=w.os)(h2:w'.tape=w.tape)(h3:w'.output=w.output)(hs:w.heap.size<=w'.heap.size)(hb:∀ c,c<w.heap.size->w'.heap[c]?=w.heap[c]?)(hd:w.drawn<=w'.drawn:=by exact Nat.le_refl _):Ste μ σ w μ σ w':=
 ⟨h.same hs fun b L hL=>hb _ (h.lt b L hL),fun _ _=>rfl,Qg _,rfl,fun _ _ _=>rfl,hs,h1,h2,h3,fun c hc _=>hb c hc,fun _ h _=>h,hd⟩
theorem law_calls{P:Program}[Told P](hm:P.follows .mixedOrders=true)(ht:SpS P (Told.sp P)/\SpK (Told.sp P)){f:FuncId}{w:World}{μ:Mu}{σ σ':Store}{args:List AV}{cargs:Array Value}(I:Inp w μ σ args cargs.toList)(h:Runs P f args σ (.bool true) σ') :
  Calls P f cargs w fun e w'=>e=.returned (.bool true)/\Go.RowKit.Below w.heap.size w w':=by
 obtain⟨k,h⟩:=h
 have hs:=Zgb (P:=P) hm ht.1 ht.2 k
 refine ((hs _ _ _ _ _ (h k (Qg _))) μ w cargs I.rel I.vl).2.mono fun e w' ⟨μ',c,e1,e2,e3⟩=>?_
 subst e1
 cases e2
 refine⟨rfl,e3.os,e3.tape,e3.output,e3.size,fun k hk=>e3.pres k hk ?_⟩
 rintro⟨b,o,L,h1,h2,_⟩
 rw [(I.no b o h1).1] at h2; cases h2
def numsL(k:IntKind)(l:List Int):List AV:=l.map (AV.int k)
@[simp] theorem numsL_length (k:IntKind) (l:List Int):(numsL k l).length=l.length:=by simp [numsL]
def IsRow(k:IntKind)(w:World)(a:Option Addr)(len cap:Nat)(zs:List Int):Prop:=
 (a=none/\len=0/\cap=0/\zs=[]) \/
 ∃ x,a=some x/\len<=cap/\cap<=maxLen/\zs.length=cap/\(∀ i,i<zs.length->w.cell? (x.add i)=some (.int k (zs.getD i 0)))/\∀ n∈zs,(Lit.int k n).wf=true
def Store.More(σ σ':Store):Prop:=σ.objs.length<=σ'.objs.length/\∀ b,b<σ.objs.length->σ'.objs[b]?=σ.objs[b]?
theorem Store.More.refl(σ:Store):σ.More σ:=⟨Nat.le_refl _,fun _ _=>rfl⟩
theorem Store.More.trans{σ σ1 σ2:Store}(h:σ.More σ1)(k:σ1.More σ2):σ.More σ2:=⟨Nat.le_trans h.1 k.1,fun b hb=>(k.2 b (Qm hb h.1)).trans (h.2 b hb)⟩
theorem Store.More.lay(σ:Store)(o:AObj):σ.More (σ.lay o):=⟨by simp,fun b hb=>Zb9 hb⟩
theorem Store.Sl.more{σ σ':Store}{h:Hdl}{es:Nat}{l:List AV}(s:σ.Sl h es l)(m:σ.More σ'):σ'.Sl h es l:=by
 refine⟨s.len,?_⟩
 rcases s.row with h1 | ⟨b,o,cs,rw,h1,h2,h3,h4⟩
 ·exact .inl h1
 ·exact .inr ⟨b,o,cs,rw,h1,(m.2 b (Qb.1 h2).1).trans h2,h3,h4⟩
def Store.Has(σ:Store)(h:Hdl):Prop:=∀ b,h.row=some b->b<σ.objs.length
theorem Store.Has.more{σ σ':Store}{h:Hdl}(s:σ.Has h)(m:σ.More σ'):σ'.Has h:=fun b hb=>Qm (s b hb) m.1
theorem Zze{w:World}{a:Addr}{c:Value}(h:w.cell? a=some c):Dat w a.block/\a.spot=none:=by
 unfold World.cell? at h
 split at h
 ·rename_i x ty fz e
  split at h
  ·cases h
  ·rename_i hs
   exact⟨.inl ⟨_,_,_,e⟩,by simpa using hs⟩
 ·cases h
theorem Inp.slice{w:World}{μ:Mu}{σ:Store}{args:List AV}{cargs:List Value}(I:Inp w μ σ args cargs){a:Option Addr}{len cap:Nat}{l:List AV}
  (h:(a=none/\len=0/\cap=0/\l=[])\/∃ x,a=some x/\len<=cap/\l.length=cap/\∀ (j:Nat) v,l[j]?=some v->∃ c,w.cell? (x.add j)=some c/\VR μ v c) :
  ∃ h' μ' σ',Inp w μ' σ' (args++[.slice h']) (cargs++[.slice a len cap])/\σ.More σ'/\σ'.Sl h' 1 (l.take len)/\σ'.Has h'/\(∀ b L,μ b=some L->μ' b=some L)/\VR μ' (.slice h') (.slice a len cap):=by
 rcases h with ⟨rfl,rfl,rfl,rfl⟩ | ⟨x,rfl,hl,hc,hx⟩
 ·have hv:VR μ (.slice ⟨none,0,some 0⟩) (.slice none 0 0):=.slN (by simp)
  exact⟨⟨none,0,some 0⟩,μ,σ,I.val hv,.refl _,⟨by simp,.inl rfl⟩,fun b hb=>by simp [Hdl.row] at hb,fun _ _ h=>h,hv⟩
 ·by_cases c0:cap=0
  ·subst c0
   have:len=0:=by omega
   subst this
   have hv:VR μ (.slice ⟨some (σ.objs.length,0),0,some 0⟩) (.slice (some x) 0 0):=.sl0 (by simp)
   exact⟨⟨some (σ.objs.length,0),0,some 0⟩,μ,_,I.dead.val hv,.lay _ _,⟨by simp,.inl rfl⟩,fun b hb=>by simp [Hdl.row] at hb; simp; omega,fun _ _ h=>h,hv⟩
  ·obtain⟨v0,hv0⟩:∃ v,l[0]?=some v:=⟨_,Qn (by omega)⟩
   obtain⟨c0',hc0,_⟩:=hx 0 v0 hv0
   obtain⟨hd,hs⟩:=Zze (by simpa [Addr.add] using hc0:w.cell? x=some c0')
   have Zf:=I.row (l:=l) (es:=1) (L:=⟨x.block,x.off,cap,1⟩) rfl hc hd fun j v hj=>by
    obtain⟨c,h1,h2⟩:=hx j v hj
    refine⟨c,?_,h2⟩
    rw [<-h1]
    cases j with
    | zero=>cases x; simp at hs; subst hs; simp [Addr.add]
    | succ j=>simp [Addr.add]
   have hnew:Mu.add μ σ.objs.length (some ⟨x.block,x.off,cap,1⟩) σ.objs.length=some ⟨x.block,x.off,cap,1⟩:=by simp [Mu.add]
   have hv:VR (Mu.add μ σ.objs.length (some ⟨x.block,x.off,cap,1⟩)) (.slice ⟨some (σ.objs.length,0),len,some cap⟩) (.slice (some x) len cap):=by
    have:=VR.sl (len:=len) (cap:=cap) (c:=some cap) (o:=0) hnew (by simp) hl (by simp)
    have e:(⟨x.block,x.off+0,none⟩:Addr)=x:=by cases x; simp at hs; subst hs; rfl
    rwa [e] at this
   refine⟨⟨some (σ.objs.length,0),len,some cap⟩,_,_,Zf.val hv,.lay _ _,⟨by simp; omega,.inr ⟨σ.objs.length,0,l,false,rfl,Zma,by simp; omega,?_⟩⟩,fun b hb=>by simp [Hdl.row] at hb; simp; omega,Mu.add_mono I.rel _,hv⟩
   rw [Qae,Qx,QA (by omega)]
theorem Inp.nums{w:World}{μ:Mu}{σ:Store}{args:List AV}{cargs:List Value}(I:Inp w μ σ args cargs){k:IntKind}{a:Option Addr}{len cap:Nat}{zs:List Int}(h:IsRow k w a len cap zs) :
  ∃ h' μ' σ' l,Inp w μ' σ' (args++[.slice h']) (cargs++[.slice a len cap])/\σ.More σ'/\σ'.Sl h' 1 (numsL k l)/\σ'.Has h'/\l.length=len/\(∀ n∈l,(Lit.int k n).wf=true)/\(∀ b L,μ b=some L->μ' b=some L)/\VR μ' (.slice h') (.slice a len cap):=by
 obtain⟨h',μ',σ',h1,h2,h3,h4,h5,h6⟩:=I.slice (a:=a) (len:=len) (cap:=cap) (l:=numsL k zs) (by
  rcases h with ⟨rfl,rfl,rfl,rfl⟩ | ⟨x,rfl,hl,hm,hz,hcell,hw⟩
  ·exact .inl ⟨rfl,rfl,rfl,rfl⟩
  ·refine .inr ⟨x,rfl,hl,by simpa using hz,fun j v hj=>?_⟩
   simp only [numsL,QC,Qw] at hj
   obtain⟨n,hn,rfl⟩:=hj
   obtain⟨hlt,e⟩:=Qb.1 hn
   refine⟨_,hcell j hlt,?_⟩
   rw [Qh,hn]; exact .int ..)
 refine⟨h',μ',σ',zs.take len,h1,h2,by simpa [numsL,Qak] using h3,h4,?_,fun n hn=>?_,h5,h6⟩
 ·rcases h with ⟨rfl,rfl,rfl,rfl⟩ | ⟨x,rfl,hl,hm,hz,_⟩
  ·rfl
  ·simp; omega
 ·rcases h with ⟨rfl,rfl,rfl,rfl⟩ | ⟨x,rfl,hl,hm,hz,_,hw⟩
  ·cases (QE hn)
  ·exact hw n (QE hn)
end Go.Ab

namespace Go.Ab.Wd
def rd(xs:List Int)(i:Int):Int:=xs.getD i.toNat 0
def rdOf{α:Type}(d:α)(xs:List α)(i:Int):α:=xs.getD i.toNat d
end Go.Ab.Wd

namespace Go.Ab.Bs
open Go.Ab.Wd
def llt:List Int->List Int->Prop
 | [],[]=>False
 | [],_::_=>True
 | _::_,[]=>False
 | x::xs,y::ys=>x<y\/(x=y/\llt xs ys)
theorem Zch:∀ a:List Int,¬ llt a a
 | []=>by simp [llt]
 | x::xs=>by simp [llt,Zch xs]
theorem Zeu:∀ {a b c:List Int},llt a b->llt b c->llt a c
 | [],[],_,h,_=>by simp [llt] at h
 | [],_::_,[],_,h=>by simp [llt] at h
 | [],_::_,_::_,_,_=>by simp [llt]
 | _::_,[],_,h,_=>by simp [llt] at h
 | _::_,_::_,[],_,h=>by simp [llt] at h
 | x::xs,y::ys,z::zs,h,k=>by
  simp only [llt] at h k ⊢
  rcases h with h | ⟨rfl,h⟩
  ·rcases k with k | ⟨rfl,k⟩
   ·exact .inl (by omega)
   ·exact .inl h
  ·rcases k with k | ⟨rfl,k⟩
   ·exact .inl k
   ·exact .inr ⟨rfl,Zeu h k⟩
theorem Zds:∀ a b:List Int,llt a b\/a=b\/llt b a
 | [],[]=>.inr (.inl rfl)
 | [],_::_=>.inl (by simp [llt])
 | _::_,[]=>.inr (.inr (by simp [llt]))
 | x::xs,y::ys=>by
  simp only [llt]
  rcases Int.lt_trichotomy x y with h | rfl | h
  ·exact .inl (.inl h)
  ·rcases Zds xs ys with h | rfl | h
   ·exact .inl (.inr ⟨rfl,h⟩)
   ·exact .inr (.inl rfl)
   ·exact .inr (.inr (.inr ⟨rfl,h⟩))
  ·exact .inr (.inr (.inl h))
theorem Zhl{a b:List Int}(h:llt a b):¬ llt b a:=fun k=>Zch _ (Zeu h k)
def lcp:List Int->List Int->Nat
 | x::xs,y::ys=>if x=y then lcp xs ys+1 else 0
 | _,_=>0
theorem Zav(b:List Int):lcp [] b=0:=by cases b <;> simp [lcp]
theorem Zb1(a:List Int):lcp a []=0:=by cases a <;> simp [lcp]
theorem Zb6:∀ a b:List Int,lcp a b=lcp b a
 | [],b=>by rw [Zav,Zb1]
 | _::_,[]=>by rw [Zav,Zb1]
 | x::xs,y::ys=>by
  simp only [lcp]
  by_cases h:x=y
  ·rw [if_pos h,if_pos h.symm,Zb6 xs ys]
  ·rw [if_neg h,if_neg (Ne.symm h)]
theorem Ze7:∀ a b:List Int,lcp a b<=a.length
 | [],b=>by rw [Zav]; exact QP _
 | _::_,[]=>by rw [Zb1]; exact QP _
 | x::xs,y::ys=>by
  simp only [lcp]
  have:=Ze7 xs ys
  split <;> simp <;> omega
theorem Zqo(a b:List Int):lcp a b<=b.length:=by rw [Zb6]; exact Ze7 b a
theorem Znf:∀ (a b:List Int) (i:Nat),i<lcp a b->a.getD i 0=b.getD i 0
 | [],b,i,h=>by rw [Zav] at h; omega
 | _::_,[],i,h=>by rw [Zb1] at h; omega
 | x::xs,y::ys,i,h=>by
  simp only [lcp] at h
  split at h
  ·rename_i e
   cases i with
   | zero=>simpa using e
   | succ i=>simpa using Znf xs ys i (by omega)
  ·omega
theorem Zqp:∀ (a b:List Int),lcp a b<a.length->lcp a b<b.length->a.getD (lcp a b) 0≠b.getD (lcp a b) 0
 | [],b,h,_=>by simp at h
 | _::_,[],_,h=>by simp at h
 | x::xs,y::ys,h,k=>by
  simp only [lcp] at h k ⊢
  split
  ·rename_i e
   rw [if_pos e] at h k
   simpa using Zqp xs ys (by simpa using h) (by simpa using k)
  ·rename_i e
   simpa using e
theorem Zng:∀ {a b c:List Int},llt a b->llt b c->lcp a c=min (lcp a b) (lcp b c)
 | [],b,c,_,_=>by rw [Zav,Zav]; omega
 | _::_,[],_,h,_=>by simp [llt] at h
 | _::_,_::_,[],_,h=>by simp [llt] at h
 | x::xs,y::ys,z::zs,h,k=>by
  simp only [llt] at h k
  simp only [lcp]
  rcases h with h | ⟨rfl,h⟩
  ·have e1:¬ x=y:=by omega
   rcases k with k | ⟨rfl,k⟩
   ·have e2:¬ x=z:=by omega
    simp only [if_neg e1,if_neg e2]; omega
   ·simp only [if_neg e1]; omega
  ·rcases k with k | ⟨rfl,k⟩
   ·have e2:¬ x=z:=by omega
    simp only [if_neg e2]; omega
   ·rw [if_pos rfl,if_pos rfl,if_pos rfl,Zng h k]; omega
theorem Zu:∀ {l m:List Int},l.Nodup->(∀ x∈l,x∈m)->l.length<=m.length
 | [],_,_,_=>by simp
 | a::l,m,hn,hs=>by
  rw [QF] at hn
  have hm:a∈m:=hs a (List.mem_cons_self ..)
  have:=Zu (m:=m.erase a) hn.2 (fun x hx=>by
   have hne:x≠a:=fun e=>hn.1 (e ▸ hx)
   rw [List.mem_erase_of_ne hne]
   exact hs x (List.mem_cons_of_mem _ hx))
  rw [List.length_erase_of_mem hm] at this
  have:0<m.length:=List.length_pos_of_mem hm
  simp only [QS]
  omega
def places(n:Nat):List Int:=(Q5 n).map Int.ofNat
theorem Zv(n:Nat):(places n).length=n:=by simp [places]
theorem Zo{n:Nat}{p:Int}:p∈places n ↔ 0<=p/\p<n:=by
 simp only [places,Qaq,Q6]
 constructor
 ·rintro⟨a,ha,rfl⟩; simp; omega
 ·rintro⟨h0,h1⟩; exact⟨p.toNat,by omega,by simp; omega⟩
theorem Zb2{α β:Type}{f:α->β}(hf:∀ a b,f a=f b->a=b):∀ {l:List α},l.Nodup->(l.map f).Nodup
 | [],_=>by simp
 | a::l,h=>by
  rw [QF] at h
  rw [List.map_cons,QF]
  refine⟨fun hm=>?_,Zb2 hf h.2⟩
  obtain⟨b,hb,e⟩:=Qaq.1 hm
  exact h.1 (hf _ _ e ▸ hb)
theorem Zaw(n:Nat):(places n).Nodup:=Zb2 (fun a b h=>by injection h) List.nodup_range
structure IsPerm (n:Nat) (sa:List Int):Prop where
 len:sa.length=n
 rng:∀ p∈sa,0<=p/\p<n
 nd:sa.Nodup
theorem IsPerm.mem{n:Nat}{sa:List Int}(h:IsPerm n sa){p:Int}(h0:0<=p)(h1:p<n):p∈sa:=by
 apply Q8
 intro hp
 have:=Zu (l:=p::sa) (m:=places n) (QF.2 ⟨hp,h.nd⟩) (fun x hx=>by
  rw [Zo]
  rcases Q4.1 hx with rfl | hx
  ·exact⟨h0,h1⟩
  ·exact h.rng x hx)
 rw [Zv,QS,h.len] at this
 omega
theorem IsPerm.mem_iff{n:Nat}{sa:List Int}(h:IsPerm n sa){p:Int}:p∈sa ↔ 0<=p/\p<n:=⟨h.rng p,fun ⟨a,b⟩=>h.mem a b⟩
theorem IsPerm.perm{n:Nat}{sa:List Int}(h:IsPerm n sa):sa.Perm (places n):=
 (List.perm_ext_iff_of_nodup h.nd (Zaw n)).2 fun p=>by rw [h.mem_iff,Zo]
theorem Ze{l:List Int}{i:Int}(h0:0<=i)(h1:i<l.length):rd l i∈l:=by
 unfold rd
 rw [Qh,Qn (by omega)]
 simp
theorem Zb{l:List Int}{i:Nat}(h:i<l.length):rd l (i:Int)=l[i]:=by
 unfold rd
 simp [Qh,Qn h]
theorem Zju(l:List Int)(i:Nat):rd l (i:Int)=l.getD i 0:=by simp [rd]
theorem Zov{l:List Int}(h:l.Nodup){i j:Nat}(hi:i<l.length)(hj:j<l.length)(e:l[i]=l[j]):i=j:=by
 unfold Qa1 at h
 rw [Q9] at h
 rcases QN i j with hl | rfl | hl
 ·exact absurd e (h i j hi hj hl)
 ·rfl
 ·exact absurd e.symm (h j i hj hi hl)
theorem Zcu{l:List Int}(h:l.Nodup){i j:Int}(hi0:0<=i)(hi:i<l.length)(hj0:0<=j)(hj:j<l.length)(e:rd l i=rd l j):i=j:=by
 obtain⟨i,rfl⟩:=Qk hi0
 obtain⟨j,rfl⟩:=Qk hj0
 rw [Zb (by omega),Zb (by omega)] at e
 rw [Zov h _ _ e]
theorem Zbl{l:List Int}{p:Int}(h:p∈l):∃ i:Int,0<=i/\i<l.length/\rd l i=p:=by
 obtain⟨i,hi,e⟩:=QG h
 exact⟨i,by omega,by omega,by rw [Zb hi,e]⟩
theorem ext_rd{a b:List Int}(hl:a.length=b.length)(h:∀ i:Int,0<=i->i<a.length->rd a i=rd b i):a=b:=by
 refine Qas hl fun i h1 h2=>?_
 have:=h i (by omega) (by omega)
 rwa [Zb h1,Zb h2] at this
theorem Zs{l:List Int}{i j v:Int}(hi0:0<=i)(hi:i<l.length)(hj0:0<=j):rd (l.set i.toNat v) j=if i=j then v else rd l j:=by
 unfold rd
 simp only [Qh,Qe]
 by_cases e:i=j
 ·subst e
  rw [if_pos rfl,if_pos rfl,if_pos (by omega)]
  rfl
 ·rw [if_neg (by omega),if_neg e]
theorem Zcw{a b:List Int}{j:Int}(h0:0<=j)(h1:j<a.length):rd (a++b) j=rd a j:=by
 obtain⟨j,rfl⟩:=Qk h0
 rw [Zb (by simp; omega),Zb (by omega),List.getElem_append_left (by omega)]
theorem Zbe{a b:List Int}{j:Int}(h0:a.length<=j)(h1:j<a.length+b.length):rd (a++b) j=rd b (j-a.length):=by
 obtain⟨j,rfl⟩:=Qk (show 0<=j by omega)
 rw [show (j:Int)-a.length=((j-a.length:Nat):Int) by omega,Zb (by simp; omega),Zb (by omega),List.getElem_append_right (by omega)]
theorem rd_snoc{a:List Int}{v j:Int}(h0:0<=j)(h1:j<=a.length):rd (a++[v]) j=if j=a.length then v else rd a j:=by
 by_cases e:j=a.length
 ·rw [if_pos e,Zbe (by omega) (by simp; omega),e,Int.sub_self]
  rfl
 ·rw [if_neg e,Zcw h0 (by omega)]
def inv(sa:List Int):List Int:=(Q5 sa.length).map fun p=>((sa.idxOf (Int.ofNat p):Nat):Int)
theorem Za3(sa:List Int):(inv sa).length=sa.length:=by simp [inv]
theorem Zrf{sa:List Int}{p:Int}(h0:0<=p)(h1:p<sa.length):rd (inv sa) p=(sa.idxOf p:Int):=by
 obtain⟨p,rfl⟩:=Qk h0
 rw [Zb (by rw [Za3]; omega)]
 simp [inv]
theorem Zkm{n:Nat}{sa:List Int}(h:IsPerm n sa){i:Int}(h0:0<=i)(h1:i<n):rd (inv sa) (rd sa i)=i:=by
 have hm:=Ze (l:=sa) h0 (by rw [h.len]; exact h1)
 have hr:=h.rng _ hm
 rw [Zrf hr.1 (by rw [h.len]; exact hr.2)]
 have hi:=QI hm
 have e:sa[sa.idxOf (rd sa i)]=rd sa i:=Qao hi
 refine Zcu h.nd (by omega) (by omega) h0 (by rw [h.len]; exact h1) ?_
 rw [Zb hi]
 exact e
theorem Zcg{n:Nat}{sa:List Int}(h:IsPerm n sa){p:Int}(h0:0<=p)(h1:p<n):0<=rd (inv sa) p/\rd (inv sa) p<n/\rd sa (rd (inv sa) p)=p:=by
 have hm:=h.mem h0 h1
 have hi:=QI hm
 rw [Zrf h0 (by rw [h.len]; exact h1)]
 refine⟨by omega,by rw [h.len] at hi; omega,?_⟩
 rw [Zb hi]
 exact Qao hi
def sl(t:List Int)(p q:Int):Prop:=llt (t.drop p.toNat) (t.drop q.toNat)
theorem Zej{t:List Int}{p q r:Int}(h:sl t p q)(k:sl t q r):sl t p r:=Zeu h k
theorem Zaz(t:List Int)(p:Int):¬ sl t p p:=Zch _
theorem Zym{t:List Int}{p q:Int}(p0:0<=p)(p1:p<t.length)(q0:0<=q)(q1:q<t.length)(hne:p≠q):sl t p q\/sl t q p:=by
 rcases Zds (t.drop p.toNat) (t.drop q.toNat) with h | h | h
 ·exact .inl h
 ·have:=congrArg List.length h
  simp only [Qs] at this
  omega
 ·exact .inr h
theorem Zbh{t:List Int}{p:Int}(p0:0<=p)(p1:p<t.length):t.drop p.toNat=rd t p::t.drop (p+1).toNat:=by
 obtain⟨p,rfl⟩:=Qk p0
 rw [Zb (by omega)]
 have e:((p:Int)+1).toNat=p+1:=by omega
 rw [e]
 exact List.drop_eq_getElem_cons (by omega)
theorem Zm3{t:List Int}{p:Int}(h:t.length<=p):t.drop p.toNat=[]:=List.drop_eq_nil_of_le (by omega)
theorem Zcc{t:List Int}{p q:Int}(p0:0<=p)(p1:p<t.length)(q0:0<=q)(q1:q<t.length) :
  sl t p q ↔ rd t p<rd t q\/(rd t p=rd t q/\sl t (p+1) (q+1)):=by
 unfold sl
 rw [Zbh p0 p1,Zbh q0 q1]
 simp [llt]
theorem Zyl{t:List Int}{p q:Int}(hp:t.length<=p)(q0:0<=q)(q1:q<t.length):sl t p q:=by
 unfold sl
 rw [Zm3 hp,Zbh q0 q1]
 simp [llt]
theorem Zvi{t:List Int}{p q:Int}(hq:t.length<=q):¬ sl t p q:=by
 unfold sl
 rw [Zm3 hq]
 cases t.drop p.toNat <;> simp [llt]
structure IsSA (t sa:List Int):Prop where
 perm:IsPerm t.length sa
 ord:sa.Pairwise (sl t)
theorem IsSA.lt{t sa:List Int}(h:IsSA t sa){i j:Int}(h0:0<=i)(hij:i<j)(hj:j<t.length):sl t (rd sa i) (rd sa j):=by
 obtain⟨i,rfl⟩:=Qk h0
 obtain⟨j,rfl⟩:=Qk (show 0<=j by omega)
 have hl:=h.perm.len
 rw [Zb (by omega),Zb (by omega)]
 exact Q9.1 h.ord i j (by omega) (by omega) (by omega)
theorem IsSA.uniq{t a b:List Int}(ha:IsSA t a)(hb:IsSA t b):a=b:=by
 refine List.Perm.eq_of_pairwise (le:=fun p q=>sl t p q\/p=q) ?_ ?_ ?_ (ha.perm.perm.trans hb.perm.perm.symm)
 ·intro p q _ _ h k
  rcases h with h | h
  ·rcases k with k | k
   ·exact absurd k (Zhl h)
   ·exact k.symm
  ·exact h
 ·exact ha.ord.imp fun h=>.inl h
 ·exact hb.ord.imp fun h=>.inl h
theorem IsSA.mk'{t sa:List Int}(hp:IsPerm t.length sa)(ho:∀ i:Int,1<=i->i<t.length->sl t (rd sa (i-1)) (rd sa i)):IsSA t sa:=by
 refine⟨hp,Q9.2 fun i j hi hj hij=>?_⟩
 have hl:=hp.len
 obtain⟨d,rfl⟩:∃ d,j=i+1+d:=⟨j-(i+1),by omega⟩
 induction d with
 | zero=>
  have:=ho ((i+1:Nat):Int) (by omega) (by omega)
  rw [show ((i+1:Nat):Int)-1=(i:Int) by omega,Zb hi,Zb hj] at this
  exact this
 | succ d ih=>
  refine Zej (ih (by omega) (by omega)) ?_
  have:=ho ((i+1+(d+1):Nat):Int) (by omega) (by omega)
  rw [show ((i+1+(d+1):Nat):Int)-1=((i+1+d:Nat):Int) by omega,Zb (by omega),Zb (by omega)] at this
  exact this
end Go.Ab.Bs

namespace Go.Ab
open Go Go.Ab.Wd Go.Ab.Bs
abbrev Store.Nums (k:IntKind) (σ:Store) (h:Hdl) (l:List Int):Prop:=σ.Sl h 1 (numsL k l)
theorem Zak{k:IntKind}{σ:Store}{h:Hdl}{l:List Int}(s:Store.Nums k σ h l):h.len=l.length:=by have:=Store.Sl.len s; simpa using this
theorem Zdt{k:IntKind}{σ:Store}{h:Hdl}{l:List Int}(s:Store.Nums k σ h l){i:Int}(h0:0<=i)(h1:i<l.length):σ.ldInt k (h.idx i 1)=some (rd l i):=by
 have hlt:i.toNat<l.length:=by omega
 have:σ.cell (h.idx i 1)=some (.int k l[i.toNat]):=Store.Sl.at s h0 (by simp [numsL,hlt])
 simp [Store.ldInt,this,hlt,rd]
theorem Zxz(k:IntKind)(l:List Int)(n:Nat)(x:Int):(numsL k l).set n (.int k x)=numsL k (l.set n x):=by simp [numsL,Qap]
theorem Zhq(k:IntKind)(l m:List Int):numsL k (l++m)=numsL k l++numsL k m:=by simp [numsL]
theorem Zi4(k:IntKind)(n:Nat):mkCells [.int k 0] n=numsL k (Qp n 0):=by simp [mkCells,numsL]
section
variable {k:IntKind} {σ σ':Store} {b n:Nat} {l:List Int}
theorem Zrj(r:σ.Row b 1 (numsL k l)){len:Nat}{cp:Option Nat}(hl:len=l.length):Store.Nums k σ ⟨some (b,0),len,cp⟩ l:=r.sl (by simp [hl])
theorem Zeg(r:σ.Row b 1 (numsL k l)){i:Int}(h0:0<=i)(h1:i<l.length){len:Nat}{cp:Option Nat}:σ.ldInt k (Hdl.idx ⟨some (b,0),len,cp⟩ i 1)=some (rd l i):=by
 have:=Zdt (Zrj r (cp:=cp) rfl) h0 h1
 simpa [Hdl.idx] using this
theorem Zms(r:σ.Row b 1 (numsL k l))(hp:σ.prot<=b){i:Int}(h0:0<=i)(h1:i<l.length){x:Int}{len:Nat}{cp:Option Nat} :
  σ.stL (Hdl.idx ⟨some (b,0),len,cp⟩ i 1) [.int k x] 0=some (σ.setO b (.cells (numsL k (l.set i.toNat x)) true 1)):=by
 rw [Zfq r hp h0 (by simpa using h1) rfl,Zxz]
end
abbrev GrowN (k:IntKind) (σ:Store) (n:Nat) (h:Hdl) (l:List Int):Prop:=Grow σ n h 1 (numsL k l)
theorem Z6b{k:IntKind}{σ:Store}{n:Nat}{h:Hdl}{l:List Int}(g:GrowN k σ n h l)(hp:σ.prot<=n)(hn:n<=σ.objs.length)(x:Int){bs:Nat}(hb:0<bs)(hb8:bs<=8)(hc:l.length<2^42) :
  ∃ h' σ',Store.app (σ.push [.int k x] 1) h 1 bs [.int k x] 1=some (h',σ')/\Kp n σ σ'/\GrowN k σ' n h' (l++[x]):=by
 obtain⟨h',σ',e,kp,g'⟩:=Grow.app1 g hp hn (v:=.int k x) rfl (bs:=bs) hb (by
  have:(l.length+1)*bs<=(l.length+1)*8:=Qah _ hb8
  simp only [numsL_length]; omega)
 exact⟨h',σ',e,kp,by rw [GrowN,Zhq]; exact g'⟩
theorem Zkj{k:IntKind}{σ:Store}{n:Nat}{h:Hdl}{l:List Int}(g:GrowN k σ n h l)(hp:σ.prot<=n)(hn:n<=σ.objs.length)(x:Int){bs:Nat}(hb:0<bs)(hb8:bs<=8)(hc:l.length<2^42) :
  ∃ h' σ',Store.app (σ.push [.int k x] 1) h 1 bs [.int k x] 1=some (h',σ')/\Kp n σ σ'/\GrowN k σ' n h' (l++[x])/\(∀ b,b<σ.objs.length->h.row≠some b->σ'.objs[b]?=σ.objs[b]?)/\(h'.row=h.row\/∀ b,h'.row=some b->σ.objs.length<=b):=by
 obtain⟨h',σ',e,kp,g',f,r⟩:=Grow.app1X g hp hn (v:=.int k x) rfl (bs:=bs) hb (by
  have:(l.length+1)*bs<=(l.length+1)*8:=Qah _ hb8
  simp only [numsL_length]; omega)
 exact⟨h',σ',e,kp,by rw [GrowN,Zhq]; exact g',f,r⟩
theorem Grow.nums{k:IntKind}{σ:Store}{n:Nat}{h:Hdl}{l:List Int}(g:Grow σ n h 1 (numsL k l)):Store.Nums k σ h l:=g.sl
theorem Grow.has{σ:Store}{n:Nat}{h:Hdl}{es:Nat}{l:List AV}(g:Grow σ n h es l):σ.Has h:=fun b hb=>by
 cases ha:h.a with
 | none=>simp [Hdl.row,ha] at hb
 | some bo=>obtain⟨c,o⟩:=bo; simp [Hdl.row,ha] at hb; subst hb; exact (g.rowLt c o ha).2
theorem Store.Has.kp{σ σ':Store}{h:Hdl}(s:σ.Has h){n:Nat}(k:Kp n σ σ'):σ'.Has h:=fun b hb=>Qm (s b hb) k.len
theorem Zzh{σ:Store}{h:Hdl}{l:List AV}{bs:Nat}(s:σ.Sl h 1 l)(hp:σ.prot<=σ.objs.length)(ho:l.all AV.one=true)(hb:0<bs)(hc:l.length*bs<=140737488355328) :
  ∃ h' σ',Store.readSl (σ.push [] 1) h 1=some l/\Store.app (σ.push [] 1) ⟨some (σ.objs.length,0),0,some 0⟩ 1 bs l h.len=some (h',σ')/\Kp σ.objs.length σ σ'/\Grow σ' σ.objs.length h' 1 l:=by
 have k:=Kp.push [] 1 (σ:=σ) (Qg _)
 have hl:=s.len
 have g0:Grow (σ.push [] 1) σ.objs.length ⟨some (σ.objs.length,0),0,some 0⟩ 1 []:=
  ⟨⟨by simp,.inl rfl⟩,⟨fun b o e=>by
   simp only [Q2.injEq,Prod.mk.injEq] at e
   obtain⟨rfl,rfl⟩:=e
   exact⟨Nat.le_refl _,[],Store.Row.new,by simp,by simp⟩,by simp⟩⟩
 obtain⟨h',σ',e,k',s',o',_⟩:=Zbg (xs:=l) (by_:=bs) (m:=h.len) g0.sl g0.own (by simpa using hp) (by simp) (by omega) (by omega) ho hb (by simp only []; rw [show 0+h.len=l.length by omega]; exact hc)
 exact⟨h',σ',(s.kp k).read,e,k.trans k',⟨by simpa using s',o'⟩⟩
theorem Znp(k:IntKind)(l:List Int):(numsL k l).all AV.one=true:=by simp [numsL,AV.one]
theorem Zhi(l:List Int):(intsL l).all AV.one=true:=by simp [intsL,AV.one]
theorem Store.Has.nil(σ:Store):σ.Has Hdl.nil:=fun b hb=>by simp [Hdl.row,Hdl.nil] at hb
theorem Z0d(k:IntKind)(σ:Store):Store.Nums k σ Hdl.nil []:=⟨by simp [Hdl.nil],.inl rfl⟩
theorem Zd6(σ:Store):σ.Ints Hdl.nil []:=⟨by simp [Hdl.nil],.inl rfl⟩
theorem Zrs{σ:Store}{h:Hdl}{l:List AV}(s:σ.Sl h 1 l)(hh:σ.Has h){lo hi:Option Int}(h0:0<=lo.getD 0)(h1:lo.getD 0<=hi.getD h.len)(h2:hi.getD h.len<=h.len) :
  ∃ h',σ.sub h 1 lo hi none=some h'/\σ.Sl h' 1 ((l.take (hi.getD h.len).toNat).drop (lo.getD 0).toNat)/\σ.Has h'/\h'.row=h.row:=by
 have hl:=s.len
 have hes:σ.esOk h 1=true:=by
  unfold Store.esOk
  cases ha:h.a with
  | none=>rfl
  | some bo=>
   obtain⟨b,o⟩:=bo
   rcases s.row with h1 | ⟨b',o',cs,rw,k1,k2,_⟩
   ·simp [h1]
   ·rw [ha] at k1; injection k1 with k1; injection k1 with k1 k1'; subst k1 k1'
    simp only [k2]
    cases Q0 h.len 0 <;> rfl
 have lhi:(hi.getD h.len).toNat<=l.length:=by omega
 refine⟨⟨h.a.map fun x=>(x.1,x.2+(lo.getD 0).toNat*1),(hi.getD h.len).toNat-(lo.getD 0).toNat,h.cap.map (·-(lo.getD 0).toNat)⟩,?_,⟨?_,?_⟩,fun b hb=>hh b ?_,?_⟩
 ·unfold Store.sub
  rw [if_pos ⟨⟨hes,by simp,by simp⟩,⟨by omega,by simpa using h2⟩,h0,h1⟩]
 ·rw [Qs,Qx,QA lhi]; simp
 ·by_cases c:(hi.getD h.len).toNat-(lo.getD 0).toNat=0
  ·exact .inl c
  ·rcases s.row with k0 | ⟨b,o,cs,rw,k1,k2,k3,k4⟩
   ·omega
   ·refine .inr ⟨b,o+(lo.getD 0).toNat*1,cs,rw,by simp [k1],k2,?_,?_⟩
    ·rw [Qs,Qx,QA lhi]; omega
    ·rw [Qs,Qx,QA lhi,<-k4]
     rw [List.take_take,QA lhi,Qax,List.drop_drop]
     simp
 ·cases ha:h.a with
  | none=>simp [Hdl.row,ha] at hb
  | some bo=>simpa [Hdl.row,ha] using hb
 ·cases ha:h.a with
  | none=>simp [Hdl.row,ha]
  | some bo=>simp [Hdl.row,ha]
end Go.Ab

namespace Go.Ab
open Go Go.ChangeShapes Go.WideShapes
theorem open_nums{H:Type}{enc:TypeId×Value->H}{P:Program}{W:World}{base:Nat}{held:Bool}{t e:TypeId}{k:IntKind}{a:Option Addr}{len cap:Nat}{d:DataW H}{ps:List MemPlace}{ts:List TypeId}{ds:List (DataW H)}{j:Nat}
  (hsz:(DataW.weightsEach P ts ds).all (·<=reachBytes)=true) (ht:ts[j]?=some t) (hd:ds[j]?=some d) (hu:P.underlying t=some (.slice e)) (he:P.underlying e=some (.int k)) (hc:P.cellsOf e=1) {B:Nat} (hB:P.bytesOf e=B)
  (h:DataW.Trod enc P W base (fun _=>true) held t (.slice a len cap) d ps):(∃ zs,IsRow k W a len cap zs)/\len*B<=140737488351232:=by
 obtain⟨fuel,hf⟩:=h
 rcases open_ints hu he hc hf with ⟨hcs,_⟩ | ⟨x,l,c,zs,hcs,_,hl,hm,hz,hx,hcell,hwz⟩
 ·simp [Qag] at hcs
  obtain⟨rfl,rfl,rfl⟩:=hcs
  exact⟨⟨[],.inl ⟨rfl,rfl,rfl,rfl⟩⟩,by simp⟩
 ·simp [Qag] at hcs
  obtain⟨rfl,rfl,rfl⟩:=hcs
  refine⟨⟨zs,.inr ⟨_,rfl,hl,hm,by simpa using hz,hcell,hwz⟩⟩,?_⟩
  obtain⟨hx,_⟩:=Prod.mk.inj hx
  subst hx
  have z:=sized_slice hsz ht hd hu
  rw [hB] at z
  have hz':zs.length=cap:=by simpa using hz
  have h1:(lits (H:=H) k (zs.take len)).length+(lits (H:=H) k (zs.drop len)).length=zs.length:=by
   simp [lits]
   omega
  rw [h1] at z
  exact QH (Qaf _ (by omega)) z
theorem wf_int{k:IntKind}{n:Int}(h:(Lit.int k n).wf=true):k.min<=n/\n<=k.max:=by
 simpa [Lit.wf] using h
def len8list:List UInt8:=[0,1]++Qp 2 2++Qp 4 3++Qp 8 4++Qp 16 5++Qp 32 6++Qp 64 7++Qp 128 8
def len8tab:ByteArray:=⟨len8list.toArray⟩
end Go.Ab

namespace Go.Ab
open Go Go.ChangeShapes Go.WideShapes
theorem Inp.laid{w:World}{μ:Mu}{σ:Store}{args:List AV}{cargs:List Value}(I:Inp w μ σ args cargs){k:IntKind}{a:Option Addr}{len cap:Nat}{zs:List Int}(h:IsRow k w a len cap zs) :
  ∃ h' μ' σ' l,Inp w μ' σ' args cargs/\σ.More σ'/\σ'.Sl h' 1 (numsL k l)/\σ'.Has h'/\l.length=len/\l=zs.take len/\(∀ n∈l,(Lit.int k n).wf=true)/\(∀ b L,μ b=some L->μ' b=some L)/\VR μ' (.slice h') (.slice a len cap):=by
 obtain⟨h',μ',σ',h1,h2,h3,h4,h5,h6⟩:=I.slice (a:=a) (len:=len) (cap:=cap) (l:=numsL k zs) (by
  rcases h with ⟨rfl,rfl,rfl,rfl⟩ | ⟨x,rfl,hl,hm,hz,hcell,hw⟩
  ·exact .inl ⟨rfl,rfl,rfl,rfl⟩
  ·refine .inr ⟨x,rfl,hl,by simpa using hz,fun j v hj=>?_⟩
   simp only [numsL,QC,Qw] at hj
   obtain⟨n,hn,rfl⟩:=hj
   obtain⟨hlt,e⟩:=Qb.1 hn
   refine⟨_,hcell j hlt,?_⟩
   rw [show zs.getD j 0=n by simp [hn]]
   exact .int ..)
 refine⟨h',μ',σ',zs.take len,⟨h1.rel,I.vl.mono h5,h1.pr,h1.no⟩,h2,by rw [numsL,Qak]; exact h3,h4,?_,rfl,fun n hn=>?_,h5,h6⟩
 ·rcases h with ⟨_,rfl,_,rfl⟩ | ⟨x,_,hl,_,hz,_⟩
  ·rfl
  ·simp; omega
 ·rcases h with ⟨_,rfl,_,rfl⟩ | ⟨x,_,hl,_,hz,_,hw⟩
  ·cases hn
  ·exact hw n (QE hn)
theorem Inp.rows{w:World}{args:List AV}{cargs:List Value}{k:IntKind}:∀ (zss:List (Option Addr×Nat×Nat×List Int)) {μ:Mu} {σ:Store} (_:Inp w μ σ args cargs) (_:∀ r∈zss,IsRow k w r.1 r.2.1 r.2.2.1 r.2.2.2),
  ∃ (hs:List Hdl) (μ':Mu) (σ':Store),Inp w μ' σ' args cargs/\σ.More σ'/\(∀ b L,μ b=some L->μ' b=some L)/\hs.length=zss.length /\
   ∀ (i:Nat) (r:Option Addr×Nat×Nat×List Int),zss[i]?=some r->∃ h,hs[i]?=some h/\Store.Nums k σ' h (r.2.2.2.take r.2.1)/\σ'.Has h/\(r.2.2.2.take r.2.1).length=r.2.1/\(∀ n∈r.2.2.2.take r.2.1,(Lit.int k n).wf=true)/\VR μ' (.slice h) (.slice r.1 r.2.1 r.2.2.1)
 | [],μ,σ,I,_=>⟨[],μ,σ,I,.refl _,fun _ _ h=>h,rfl,fun i r h=>by simp at h⟩
 | r::zss,μ,σ,I,hz=>by
  obtain⟨h,μ1,σ1,l,I1,M1,S1,H1,L1,rfl,W1,X1,V1⟩:=I.laid (hz r (by simp))
  obtain⟨hs,μ2,σ2,I2,M2,X2,L2,A2⟩:=Inp.rows zss I1 fun r' hr=>hz r' (by simp [hr])
  refine⟨h::hs,μ2,σ2,I2,M1.trans M2,fun b L e=>X2 b L (X1 b L e),by simp [L2],fun i r' hi=>?_⟩
  cases i with
  | zero=>
   simp at hi; subst hi
   exact⟨h,rfl,S1.more M2,H1.more M2,L1,W1,V1.mono X2⟩
  | succ i=>
   obtain⟨h',q⟩:=A2 i r' (by simpa using hi)
   exact⟨h',by simpa using q.1,q.2⟩
def IsRows(k:IntKind)(w:World)(a:Option Addr)(len cap:Nat)(zss:List (Option Addr×Nat×Nat×List Int)):Prop:=
 (a=none/\len=0/\cap=0/\zss=[]) \/
 ∃ x,a=some x/\len<=cap/\zss.length=cap/\∀ (i:Nat) (r:Option Addr×Nat×Nat×List Int),zss[i]?=some r->w.cell? (x.add i)=some (.slice r.1 r.2.1 r.2.2.1)/\IsRow k w r.1 r.2.1 r.2.2.1 r.2.2.2
theorem Inp.numss{w:World}{μ:Mu}{σ:Store}{args:List AV}{cargs:List Value}(I:Inp w μ σ args cargs){k:IntKind}{a:Option Addr}{len cap:Nat}{zss:List (Option Addr×Nat×Nat×List Int)}(h:IsRows k w a len cap zss) :
  ∃ h' μ' σ' hs,Inp w μ' σ' (args++[.slice h']) (cargs++[.slice a len cap])/\σ.More σ'/\σ'.Sl h' 1 ((hs:List Hdl).map AV.slice)/\σ'.Has h'/\(∀ b L,μ b=some L->μ' b=some L)/\hs.length=len /\
   (∀ (i:Nat) (r:Option Addr×Nat×Nat×List Int),i<len->zss[i]?=some r->∃ g,hs[i]?=some g/\Store.Nums k σ' g (r.2.2.2.take r.2.1)/\σ'.Has g/\(r.2.2.2.take r.2.1).length=r.2.1/\∀ n∈r.2.2.2.take r.2.1,(Lit.int k n).wf=true)/\VR μ' (.slice h') (.slice a len cap):=by
 have hr:∀ r∈zss,IsRow k w r.1 r.2.1 r.2.2.1 r.2.2.2:=fun r hr=>by
  rcases h with ⟨_,_,_,rfl⟩ | ⟨x,_,_,_,hx⟩
  ·cases hr
  ·obtain⟨i,hi⟩:=Qab.1 hr
   exact (hx i r hi).2
 obtain⟨hs,μ1,σ1,I1,M1,X1,L1,A1⟩:=Inp.rows zss I hr
 obtain⟨h',μ2,σ2,I2,M2,S2,H2,X2,V2⟩:=I1.slice (a:=a) (len:=len) (cap:=cap) (l:=hs.map AV.slice) (by
  rcases h with ⟨rfl,rfl,rfl,rfl⟩ | ⟨x,rfl,hl,hz,hx⟩
  ·refine .inl ⟨rfl,rfl,rfl,?_⟩
   rw [Ql (l:=hs) (by simpa using L1)]; rfl
  ·refine .inr ⟨x,rfl,hl,by simp [L1,hz],fun j v hj=>?_⟩
   rw [QC,Qw] at hj
   obtain⟨g,hg,rfl⟩:=hj
   have jl:j<zss.length:=by have:=(Qb.1 hg).1; omega
   obtain⟨g',q1,_,_,_,_,q2⟩:=A1 j zss[j] (Qn jl)
   rw [hg] at q1; injection q1 with q1; subst q1
   exact⟨_,(hx j _ (Qn jl)).1,q2⟩)
 have hl:len<=zss.length:=by
  rcases h with ⟨_,rfl,_,_⟩ | ⟨x,_,hl,hz,_⟩
  ·exact QP _
  ·omega
 refine⟨h',μ2,σ2,hs.take len,I2,M1.trans M2,by rw [Qak]; exact S2,H2,fun b L e=>X2 b L (X1 b L e),by simp; omega,fun i r hi hr=>?_,V2⟩
 obtain⟨g,q1,q2,q3,q4,q5,_⟩:=A1 i r hr
 exact⟨g,by rw [Qq,if_pos hi]; exact q1,q2.more M2,q3.more M2,q4,q5⟩
theorem Ztn{α:Type}{Q:Nat->α->Prop}:∀ (n:Nat),(∀ i,i<n->∃ r,Q i r)->∃ l:List α,l.length=n/\∀ i r,l[i]?=some r->Q i r
 | 0,_=>⟨[],rfl,fun i r h=>by simp at h⟩
 | n+1,h=>by
  obtain⟨l,hl,hq⟩:=Ztn n fun i hi=>h i (by omega)
  obtain⟨r,hr⟩:=h n (by omega)
  refine⟨l++[r],by simp [hl],fun i x hx=>?_⟩
  by_cases c:i<l.length
  ·rw [Qc c] at hx; exact hq i x hx
  ·rw [List.getElem?_append_right (by omega)] at hx
   have:i-l.length=0:=by
    have:=(Qb.1 hx).1
    simpa using this
   rw [this] at hx
   simp at hx
   have e:i=n:=by omega
   rw [e,<-hx]; exact hr
theorem open_numss{H:Type}{enc:TypeId×Value->H}{P:Program}{W:World}{base:Nat}{held:Bool}{t e e2:TypeId}{k:IntKind}{a:Option Addr}{len cap:Nat}{d:DataW H}{ps:List MemPlace}
  (hu:P.underlying t=some (.slice e)) (he:P.underlying e=some (.slice e2)) (he2:P.underlying e2=some (.int k)) (hc:P.cellsOf e=1) (hc2:P.cellsOf e2=1)
  (h:DataW.Trod enc P W base (fun _=>true) held t (.slice a len cap) d ps):∃ zss,IsRows k W a len cap zss:=by
 obtain⟨fuel,hf⟩:=h
 rcases DataW.trod_slice hu hf with ⟨hcs,_⟩ | ⟨x,l,c,elems,rest,n,_,hcs,_,hb,hl,hm,hlen,hel,hsp,_⟩
 ·simp [Qag] at hcs
  obtain⟨rfl,rfl,rfl⟩:=hcs
  exact⟨[],.inl ⟨rfl,rfl,rfl,rfl⟩⟩
 ·simp [Qag] at hcs
  obtain⟨rfl,rfl,rfl⟩:=hcs
  obtain⟨hrl,hr⟩:=hsp rfl
  have each:∀ i,i<cap->∃ r:Option Addr×Nat×Nat×List Int,W.cell? (x.add i)=some (.slice r.1 r.2.1 r.2.2.1)/\IsRow k W r.1 r.2.1 r.2.2.1 r.2.2.2:=by
   intro i hi
   have hb':∃ y,(W.cells? base (x.add (i*P.cellsOf e)) (P.cellsOf e)).bind (DataW.trod enc P W base (fun _=>true) held n e)=some y:=by
    by_cases c:i<len
    ·exact⟨elems[i],by rw [hel i c,Qn (by omega)]⟩
    ·have:=hr (i-len) (by omega)
     rw [show len+(i-len)=i by omega] at this
     exact⟨rest[i-len],by rw [this,Qn (by omega)]⟩
   obtain⟨y,hy⟩:=hb'
   rw [hc,Qad,Qa] at hy
   obtain⟨cs',hcs',hy'⟩:=hy
   rcases open_ints he he2 hc2 hy' with ⟨rfl,_⟩ | ⟨x',l',c',zs,rfl,_,hl',hm',hz',_,hcell,hwz⟩
   ·exact⟨(none,0,0,[]),cell_of_cells?_one hcs',.inl ⟨rfl,rfl,rfl,rfl⟩⟩
   ·exact⟨(some x',l',c',zs),cell_of_cells?_one hcs',.inr ⟨x',rfl,hl',hm',by simpa using hz',hcell,hwz⟩⟩
  obtain⟨zss,h1,h2⟩:=Ztn cap each
  exact⟨zss,.inr ⟨x,rfl,hl,h1,h2⟩⟩
structure Rws (k:IntKind) (σ:Store) (h:Hdl) (L:List (List Int)):Prop where
 ex:∃ hs:List Hdl,σ.Sl h 1 (hs.map AV.slice)/\hs.length=L.length/\∀ (i:Nat) (x:List Int),L[i]?=some x->∃ g,hs[i]?=some g/\Store.Nums k σ g x/\σ.Has g
 has:σ.Has h
 wf:∀ x∈L,∀ n∈x,k.min<=n/\n<=k.max
theorem Rws.more{k:IntKind}{σ σ':Store}{h:Hdl}{L:List (List Int)}(r:Rws k σ h L)(m:σ.More σ'):Rws k σ' h L:=by
 obtain⟨hs,s,l,g⟩:=r.ex
 refine⟨⟨hs,s.more m,l,fun i x hx=>?_⟩,r.has.more m,r.wf⟩
 obtain⟨g1,q1,q2,q3⟩:=g i x hx
 exact⟨g1,q1,q2.more m,q3.more m⟩
theorem Inp.rws{w:World}{μ:Mu}{σ:Store}{args:List AV}{cargs:List Value}(I:Inp w μ σ args cargs){k:IntKind}{a:Option Addr}{len cap:Nat}{zss:List (Option Addr×Nat×Nat×List Int)}(h:IsRows k w a len cap zss) :
  ∃ h' μ' σ' L,Inp w μ' σ' (args++[.slice h']) (cargs++[.slice a len cap])/\σ.More σ'/\Rws k σ' h' L/\(L:List (List Int)).length=len/\(∀ b l,μ b=some l->μ' b=some l)/\VR μ' (.slice h') (.slice a len cap):=by
 have hl:len<=zss.length:=by
  rcases h with ⟨_,rfl,_,_⟩ | ⟨x,_,hl,hz,_⟩
  ·exact QP _
  ·omega
 obtain⟨h',μ',σ',hs,I',M,S,H,X,l,A,V⟩:=I.numss h
 refine⟨h',μ',σ',(zss.take len).map fun r=>r.2.2.2.take r.2.1,I',M,⟨⟨hs,S,by simp; omega,fun i x hx=>?_⟩,H,fun x hx n hn=>?_⟩,by simp; omega,X,V⟩
 ·rw [QC,Qw] at hx
  obtain⟨r,hr,rfl⟩:=hx
  rw [Qq] at hr
  split at hr
  ·rename_i c
   obtain⟨g,q1,q2,q3,_⟩:=A i r c hr
   exact⟨g,q1,q2,q3⟩
  ·cases hr
 ·obtain⟨r,hr,rfl⟩:=Qaq.1 hx
  obtain⟨i,hi⟩:=Qab.1 hr
  rw [Qq] at hi
  split at hi
  ·rename_i c
   obtain⟨g,_,_,_,_,q⟩:=A i r c hi
   exact wf_int (q n hn)
  ·cases hi
end Go.Ab

namespace Go.Ab.Bs
open Go.Ab.Wd
instance decLlt:∀ a b:List Int,Decidable (llt a b)
 | [],[]=>.isFalse (by simp [llt])
 | [],_::_=>.isTrue (by simp [llt])
 | _::_,[]=>.isFalse (by simp [llt])
 | x::xs,y::ys=>
  if h:x<y then .isTrue (.inl h) else if h':x=y then
   match decLlt xs ys with
   | .isTrue k=>.isTrue (.inr ⟨h',k⟩)
   | .isFalse k=>.isFalse fun e=>e.elim h (fun e=>k e.2)
  else .isFalse fun e=>e.elim h (fun e=>h' e.1)
instance decSl (t:List Int) (p q:Int):Decidable (sl t p q):=decLlt _ _
structure Srt (t l:List Int) (n:Int):Prop where
 rng:∀ p∈l,0<=p/\p<n
 ord:l.Pairwise (sl t)
 all:∀ p:Int,0<=p->p<n->p∈l
theorem Srt.nd{t l:List Int}{n:Int}(h:Srt t l n):l.Nodup:=by
 unfold Qa1
 refine h.ord.imp ?_
 intro a b hs e
 rw [e] at hs
 exact Zaz t b hs
theorem Srt.len{t l:List Int}{n:Int}(h:Srt t l n)(hn:0<=n):(l.length:Int)=n:=by
 have h1:=Zu h.nd (m:=places n.toNat) (fun p hp=>Zo.2 (by have:=h.rng p hp; omega))
 have h2:=Zu (Zaw n.toNat) (m:=l) (fun p hp=>by have:=Zo.1 hp; exact h.all p this.1 (by omega))
 rw [Zv] at h1 h2
 omega
theorem Srt.isSA{t l:List Int}(h:Srt t l t.length):IsSA t l:=⟨⟨by have:=h.len (by omega); omega,h.rng,h.nd⟩,h.ord⟩
theorem Srt.ins{t l:List Int}{p:Int}(h:Srt t l p)(p0:0<=p)(p1:p<t.length)(i:Nat)(hi:i<=l.length)(h1:∀ j:Int,0<=j->j<i->sl t (rd l j) p)(h2:∀ j:Int,i<=j->j<l.length->¬ sl t (rd l j) p) :
  Srt t (l.take i++p::l.drop i) (p+1):=by
 have hm:∀ q,q∈l.take i++p::l.drop i ↔ q∈l\/q=p:=by
  intro q
  rw [Qav,Q4]
  have:q∈l ↔ q∈l.take i\/q∈l.drop i:=by rw [<-Qav,List.take_append_drop]
  rw [this]
  constructor
  ·rintro (h | h | h)
   ·exact .inl (.inl h)
   ·exact .inr h
   ·exact .inl (.inr h)
  ·rintro ((h | h) | h)
   ·exact .inl h
   ·exact .inr (.inr h)
   ·exact .inr (.inl h)
 refine⟨fun q hq=>?_,?_,fun q q0 q1=>?_⟩
 ·rcases (hm q).1 hq with hq | rfl
  ·have:=h.rng q hq; omega
  ·omega
 ·have hlt:∀ a∈l.take i,sl t a p:=by
   intro a ha
   obtain⟨j,hj,rfl⟩:=QG ha
   simp only [Qx] at hj
   have:=h1 j (by omega) (by omega)
   rw [Zb (by omega)] at this
   rw [List.getElem_take]
   exact this
  have hgt:∀ a∈l.drop i,sl t p a:=by
   intro a ha
   obtain⟨j,hj,rfl⟩:=QG ha
   simp only [Qs] at hj
   have hn:=h2 ((i+j:Nat):Int) (by omega) (by omega)
   rw [Zb (by omega)] at hn
   rw [List.getElem_drop]
   have hr:=h.rng _ (List.getElem_mem (show i+j<l.length by omega))
   rcases Zym (t:=t) (p:=l[i+j]) (q:=p) hr.1 (by omega) p0 p1 (by omega) with hs | hs
   ·exact absurd hs hn
   ·exact hs
  rw [List.pairwise_append]
  refine⟨h.ord.sublist (List.take_sublist _ _),Qr.2 ⟨hgt,h.ord.sublist (List.drop_sublist _ _)⟩,fun a ha b hb=>?_⟩
  rcases Q4.1 hb with rfl | hb
  ·exact hlt a ha
  ·exact Zej (hlt a ha) (hgt b hb)
 ·rw [hm]
  by_cases e:q=p
  ·exact .inr e
  ·exact .inl (h.all q q0 (by omega))
def lessN(t:List Int)(p:Int):List Int->Nat
 | []=>0
 | a::l=>if sl t a p then lessN t p l+1 else 0
theorem Zkq(t:List Int)(p:Int):∀ l:List Int,l.Pairwise (sl t)->lessN t p l<=l.length/\(∀ j:Int,0<=j->j<lessN t p l->sl t (rd l j) p)/\∀ j:Int,lessN t p l<=j->j<l.length->¬ sl t (rd l j) p
 | [],_=>⟨by simp [lessN],fun j _ h=>by simp [lessN] at h; omega,fun j _ h=>by simp at h; omega⟩
 | a::l,hm=>by
  obtain⟨hi,h1,h2⟩:=Zkq t p l (Qr.1 hm).2
  have hs:∀ j:Int,1<=j->rd (a::l) j=rd l (j-1):=by
   intro j hj
   unfold rd
   rw [show j.toNat=(j-1).toNat+1 by omega]
   simp
  simp only [lessN]
  by_cases c:sl t a p
  ·rw [if_pos c]
   refine⟨by simp; omega,fun j j0 j1=>?_,fun j j0 j1=>?_⟩
   ·by_cases e:j=0
    ·rw [e]; exact c
    ·rw [hs j (by omega)]; exact h1 (j-1) (by omega) (by omega)
   ·rw [hs j (by omega)]; exact h2 (j-1) (by omega) (by simp at j1; omega)
  ·rw [if_neg c]
   refine⟨by simp,fun j _ _=>by omega,fun j j0 j1 hx=>?_⟩
   by_cases e:j=0
   ·rw [e] at hx; exact c hx
   ·have hmem:rd (a::l) j∈l:=by rw [hs j (by omega)]; exact Ze (by omega) (by simp at j1; omega)
    exact c (Zej ((Qr.1 hm).1 _ hmem) hx)
def saUpto(t:List Int):Nat->List Int
 | 0=>[]
 | n+1=>let l:=saUpto t n; let i:=lessN t n l; l.take i++(n:Int)::l.drop i
theorem Zrq(t:List Int):∀ n:Nat,n<=t.length->Srt t (saUpto t n) n
 | 0,_=>⟨fun p hp=>by simp [saUpto] at hp,.nil,fun p _ _=>by omega⟩
 | n+1,hn=>by
  have h:=Zrq t n (by omega)
  obtain⟨hi,h1,h2⟩:=Zkq t n _ h.ord
  exact h.ins (by omega) (by omega) _ hi h1 h2
def saOf(t:List Int):List Int:=saUpto t t.length
theorem Zi(t:List Int):IsSA t (saOf t):=(Zrq t t.length (Qg _)).isSA
theorem Z3w{t sa:List Int}(h:IsSA t sa):saOf t=sa:=IsSA.uniq (Zi t) h
end Go.Ab.Bs

namespace Go.Ab.Bs
open Go.Ab.Wd
theorem Zfm(t:List Int)(a:Int)(m:Nat)(h:0<=a):rd t (a+m)=(t.drop a.toNat).getD m 0:=by
 unfold rd
 rw [show (a+m).toNat=a.toNat+m by omega]
 simp [Qh,QK]
theorem Ze6(t:List Int)(a b:Int):lcp (t.drop a.toNat) (t.drop b.toNat)<=t.length-a.toNat/\lcp (t.drop a.toNat) (t.drop b.toNat)<=t.length-b.toNat:=by
 have h1:=Ze7 (t.drop a.toNat) (t.drop b.toNat)
 have h2:=Zqo (t.drop a.toNat) (t.drop b.toNat)
 simp only [Qs] at h1 h2
 exact⟨h1,h2⟩
theorem Z4e(t:List Int)(a b:Int)(a0:0<=a)(b0:0<=b)(m:Nat)(hm:m<lcp (t.drop a.toNat) (t.drop b.toNat)):a+m<t.length/\b+m<t.length/\rd t (a+m)=rd t (b+m):=by
 have h:=Ze6 t a b
 refine⟨by omega,by omega,?_⟩
 rw [Zfm t a m a0,Zfm t b m b0]
 exact Znf _ _ m hm
theorem Zzg(t:List Int)(a b:Int)(a0:0<=a)(b0:0<=b)(h1:a+lcp (t.drop a.toNat) (t.drop b.toNat)<t.length)(h2:b+lcp (t.drop a.toNat) (t.drop b.toNat)<t.length) :
  rd t (a+lcp (t.drop a.toNat) (t.drop b.toNat))≠rd t (b+lcp (t.drop a.toNat) (t.drop b.toNat)):=by
 rw [Zfm t a _ a0,Zfm t b _ b0]
 exact Zqp _ _ (by simp only [Qs]; omega) (by simp only [Qs]; omega)
def hgt(t sa:List Int)(p:Int):Nat:=lcp (t.drop p.toNat) (t.drop (rd sa (rd (inv sa) p-1)).toNat)
theorem Zqj{t sa:List Int}(h:IsSA t sa){p q:Int}(p0:0<=p)(p1:p<t.length)(q0:0<=q)(q1:q<t.length)(hs:sl t p q):rd (inv sa) p<rd (inv sa) q:=by
 have hp:=Zcg h.perm p0 p1
 have hq:=Zcg h.perm q0 q1
 apply Q8
 intro hn
 by_cases e:rd (inv sa) p=rd (inv sa) q
 ·have:p=q:=by rw [<-hp.2.2,<-hq.2.2,e]
  rw [this] at hs
  exact Zaz t q hs
 ·have:=h.lt (i:=rd (inv sa) q) (j:=rd (inv sa) p) hq.1 (by omega) (by omega)
  rw [hp.2.2,hq.2.2] at this
  exact Zhl hs this
theorem Z53{t sa:List Int}(h:IsSA t sa){p:Int}(p0:0<=p)(p1:p+1<t.length)(hi:rd (inv sa) p≠0)(hj:rd (inv sa) (p+1)≠0):hgt t sa p<=hgt t sa (p+1)+1:=by
 have hP:=Zcg h.perm p0 (by omega)
 have hQ:=Zcg h.perm (p:=p+1) (by omega) (by omega)
 obtain⟨q,hq⟩:∃ q,rd sa (rd (inv sa) p-1)=q:=⟨_,rfl⟩
 obtain⟨r,hr⟩:∃ r,rd sa (rd (inv sa) (p+1)-1)=r:=⟨_,rfl⟩
 have hl:=h.perm.len
 have q01:=h.perm.rng _ (Ze (l:=sa) (i:=rd (inv sa) p-1) (by omega) (by omega))
 have r01:=h.perm.rng _ (Ze (l:=sa) (i:=rd (inv sa) (p+1)-1) (by omega) (by omega))
 have hqi:=Zkm h.perm (i:=rd (inv sa) p-1) (by omega) (by omega)
 have hri:=Zkm h.perm (i:=rd (inv sa) (p+1)-1) (by omega) (by omega)
 have hqp:=h.lt (i:=rd (inv sa) p-1) (j:=rd (inv sa) p) (by omega) (by omega) (by omega)
 have hrp:=h.lt (i:=rd (inv sa) (p+1)-1) (j:=rd (inv sa) (p+1)) (by omega) (by omega) (by omega)
 rw [hP.2.2] at hqp
 rw [hQ.2.2] at hrp
 unfold hgt
 rw [hq] at hqp q01 hqi ⊢
 rw [hr] at hrp r01 hri ⊢
 by_cases c:lcp (t.drop p.toNat) (t.drop q.toNat)<=1
 ·omega
 have e:rd t p=rd t q:=by
  apply Q8
  intro e
  rw [Zbh p0 (by omega),Zbh q01.1 q01.2] at c
  simp only [lcp] at c
  rw [if_neg e] at c
  omega
 have e1:lcp (t.drop p.toNat) (t.drop q.toNat)=lcp (t.drop (p+1).toNat) (t.drop (q+1).toNat)+1:=by
  rw [Zbh p0 (by omega),Zbh q01.1 q01.2]
  simp only [lcp]
  rw [if_pos e]
 have hle:=Ze6 t (p+1) (q+1)
 have q2:q+1<t.length:=by omega
 have hs:sl t (q+1) (p+1):=by
  rw [Zcc q01.1 q01.2 p0 (by omega)] at hqp
  rcases hqp with hlt | ⟨_,hs⟩
  ·omega
  ·exact hs
 have hlt:=Zqj h (by omega) q2 (by omega) p1 hs
 by_cases er:q+1=r
 ·rw [<-er,e1,Zb6 (t.drop (p+1).toNat)]
  rw [Zb6 (t.drop (q+1).toNat)]
  omega
 ·have hqr:sl t (q+1) r:=by
   rcases Zym (t:=t) (p:=q+1) (q:=r) (by omega) q2 r01.1 r01.2 er with hs' | hs'
   ·exact hs'
   ·have:=Zqj h r01.1 r01.2 (by omega) q2 hs'
    omega
  have:=Zng hqr hrp
  rw [Zb6 (t.drop (q+1).toNat) (t.drop (p+1).toNat),Zb6 (t.drop r.toNat) (t.drop (p+1).toNat)] at this
  omega
def lcpA(t sa:List Int):List Int:=(Q5 t.length).map fun k=>if k=0 then 0 else ((lcp (t.drop (rd sa (k:Nat)).toNat) (t.drop (rd sa ((k:Int)-1)).toNat):Nat):Int)
theorem Zc1(t sa:List Int):(lcpA t sa).length=t.length:=by simp [lcpA]
theorem Zmp{t sa:List Int}{i:Int}(h0:0<=i)(h1:i<t.length):rd (lcpA t sa) i=if i=0 then 0 else ((lcp (t.drop (rd sa i).toNat) (t.drop (rd sa (i-1)).toNat):Nat):Int):=by
 obtain⟨j,rfl⟩:∃ j:Nat,i=j:=⟨i.toNat,by omega⟩
 rw [Zb (by rw [Zc1]; omega)]
 simp only [lcpA,QT,QL]
 by_cases c:j=0
 ·rw [if_pos c,if_pos (by omega)]
 ·rw [if_neg c,if_neg (by omega)]
def lcpTo(t sa:List Int)(p:Int):List Int:=(Q5 t.length).map fun j=>if rd sa (j:Nat)<p then rd (lcpA t sa) (j:Nat) else 0
theorem Zr(t sa:List Int)(p:Int):(lcpTo t sa p).length=t.length:=by simp [lcpTo]
theorem Zef{t sa:List Int}{p i:Int}(h0:0<=i)(h1:i<t.length):rd (lcpTo t sa p) i=if rd sa i<p then rd (lcpA t sa) i else 0:=by
 obtain⟨j,rfl⟩:∃ j:Nat,i=j:=⟨i.toNat,by omega⟩
 rw [Zb (by rw [Zr]; omega)]
 simp only [lcpTo,QT,QL]
theorem Zvb{t sa:List Int}(h:IsSA t sa):lcpTo t sa 0=Qp t.length 0:=by
 have hl:=h.perm.len
 unfold lcpTo
 apply Qas (by simp)
 intro i h1 h2
 simp only [List.length_map,List.length_range] at h1
 have:=h.perm.rng _ (Ze (l:=sa) (i:=(i:Int)) (by omega) (by omega))
 simp only [QT,QL,List.getElem_replicate]
 rw [if_neg (by omega)]
theorem Zxi{t sa:List Int}(h:IsSA t sa):lcpTo t sa t.length=lcpA t sa:=by
 have hl:=h.perm.len
 refine ext_rd (by rw [Zr,Zc1]) fun i i0 i1=>?_
 rw [Zr] at i1
 have:=h.perm.rng _ (Ze (l:=sa) (i:=i) (by omega) (by omega))
 rw [Zef i0 i1,if_pos this.2]
theorem Zva{t sa:List Int}(h:IsSA t sa){p:Int}(p0:0<=p)(p1:p<t.length):lcpTo t sa (p+1)=(lcpTo t sa p).set (rd (inv sa) p).toNat (rd (lcpA t sa) (rd (inv sa) p)):=by
 have hP:=Zcg h.perm p0 p1
 refine ext_rd (by rw [Qau,Zr,Zr]) fun j j0 j1=>?_
 rw [Zr] at j1
 rw [Zs hP.1 (by rw [Zr]; omega) j0,Zef j0 j1]
 by_cases e:rd (inv sa) p=j
 ·rw [if_pos e,<-e,hP.2.2,if_pos (by omega)]
 ·rw [if_neg e,Zef j0 j1]
  have hne:rd sa j≠p:=fun e'=>e (by rw [<-e',Zkm h.perm j0 j1])
  by_cases c:rd sa j<p
  ·rw [if_pos c,if_pos (by omega)]
  ·rw [if_neg c,if_neg (by omega)]
theorem Zko{t sa:List Int}(h:IsSA t sa){p:Int}(p0:0<=p)(p1:p<t.length)(c:rd (inv sa) p=0):lcpTo t sa (p+1)=lcpTo t sa p:=by
 have hP:=Zcg h.perm p0 p1
 refine ext_rd (by rw [Zr,Zr]) fun j j0 j1=>?_
 rw [Zr] at j1
 rw [Zef j0 j1,Zef j0 j1]
 by_cases e:rd (inv sa) p=j
 ·have ej:j=0:=by omega
  have hz:rd (lcpA t sa) j=0:=by rw [Zmp j0 j1,if_pos ej]
  rw [hz]; split <;> split <;> rfl
 ·have hne:rd sa j≠p:=fun e'=>e (by rw [<-e',Zkm h.perm j0 j1])
  by_cases c:rd sa j<p
  ·rw [if_pos c,if_pos (by omega)]
  ·rw [if_neg c,if_neg (by omega)]
theorem Z46{t sa:List Int}(h:IsSA t sa){p:Int}(p0:0<=p)(p1:p<t.length)(c:rd (inv sa) p≠0):rd (lcpA t sa) (rd (inv sa) p)=(hgt t sa p:Nat):=by
 have hP:=Zcg h.perm p0 p1
 rw [Zmp hP.1 hP.2.1,if_neg c,hP.2.2]; rfl
def rk9(t sa:List Int)(p:Int):Int:=if p=t.length then -1 else rd (inv sa) p
theorem Zyg{t sa:List Int}(h:IsSA t sa){i:Int}(i0:1<=i)(i1:i<t.length):¬ rd t (rd sa i)<rd t (rd sa (i-1))/\(rd t (rd sa (i-1))=rd t (rd sa i)->¬ rk9 t sa (rd sa i+1)<rk9 t sa (rd sa (i-1)+1)):=by
 have hl:=h.perm.len
 have a:=h.perm.rng _ (Ze (l:=sa) (i:=i-1) (by omega) (by omega))
 have b:=h.perm.rng _ (Ze (l:=sa) (i:=i) (by omega) (by omega))
 have s:=h.lt (i:=i-1) (j:=i) (by omega) (by omega) (by omega)
 rw [Zcc a.1 a.2 b.1 b.2] at s
 rcases s with s | ⟨s1,s2⟩
 ·exact⟨by omega,fun e=>by omega⟩
 ·refine⟨by omega,fun _=>?_⟩
  unfold rk9
  by_cases c:rd sa i+1=t.length
  ·rw [c] at s2
   exact absurd s2 (Zvi (by omega))
  ·rw [if_neg c]
   have hb:=Zcg h.perm (p:=rd sa i+1) (by omega) (by omega)
   by_cases d:rd sa (i-1)+1=t.length
   ·rw [if_pos d]; omega
   ·rw [if_neg d]
    have:=Zqj h (p:=rd sa (i-1)+1) (q:=rd sa i+1) (by omega) (by omega) (by omega) (by omega) s2
    omega
end Go.Ab.Bs

namespace Go.Ab
open Go
theorem stp :
  (∀ {α β:Type} (a:α) (f:α->Option β),(some a).bind f=f a) /\
  (∀ (p:Prop) [Decidable p],(decide p=true)=p) /\
  (∀ (p:Prop) [Decidable p],(decide p=false)=¬p) /\
  (∀ b:Bool,((!b)=true)=(b=false)) /\
  ((!true)=false)/\((!false)=true) /\
  ((false=true)=False)/\((true=false)=False) /\
  (∀ a b:Bool,((!a)=b)=(a=!b)) /\
  (∀ {α:Type} [BEq α] [ReflBEq α] (a:α),(a == a)=true) /\
  ((false == true)=false)/\((true == false)=false) /\
  (∀ (h:Decidable True),@decide True h=true)/\(∀ (h:Decidable False),@decide False h=false) /\
  ((¬False)=True)/\((¬True)=False) /\
  (∀ {α:Type} (a b:α),(a≠b)=¬a=b) /\
  (∀ p:Prop,(True/\p)=p)/\(∀ p:Prop,(p/\True)=p)/\(∀ p:Prop,(False/\p)=False)/\(∀ p:Prop,(p/\False)=False)/\(∀ p:Prop,(p/\p)=p) /\
  (∀ {α:Type} {h:Decidable True} (t e:α),(@ite α True h t e)=t)/\(∀ {α:Type} {h:Decidable False} (t e:α),(@ite α False h t e)=e) /\
  (∀ b:Bool,(b&&true)=b)/\(∀ b:Bool,(b&&false)=false)/\(∀ b:Bool,(true&&b)=b)/\(∀ b:Bool,(false&&b)=false) /\
  (∀ b:Bool,(b || true)=true)/\(∀ b:Bool,(true || b)=true)/\(∀ b:Bool,(b || false)=b)/\(∀ b:Bool,(false || b)=b) /\
  (∀ p:Prop,(p\/True)=True)/\(∀ p:Prop,(True\/p)=True)/\(∀ p:Prop,(p\/False)=p)/\(∀ p:Prop,(False\/p)=p)/\(∀ p:Prop,(p\/p)=p) /\
  (∀ {α:Type} (a:α) (l:List α),(a::l).length=l.length+1)/\(∀ {α:Type},([]:List α).length=0) /\
  (∀ {α:Type} (a:α) (l:List α),(a::l)[0]?=some a)/\(∀ {α:Type} (a:α) (l:List α) (i:Nat),(a::l)[i+1]?=l[i]?) /\
  (∀ n:Nat,0+n=n) /\
  (∀ (k:IntKind) (n:Int),AV.asInt k (.int k n)=some n)/\(∀ b:Bool,AV.asBool (.bool b)=some b)/\(∀ h:Hdl,AV.asSl (.slice h)=some h)/\(∀ p:Ptr,AV.asPtr (.ptr p)=some p) /\
  (∀ (f:FuncId) (a b:List AV),AV.asFn (.func f a b)=some (f,a,b))/\(∀ b:ByteArray,AV.asStr (.str b)=some b)/\(∀ m:Option Nat,AV.asMap (.map m)=some m)/\(∀ (t:TypeId) (v:AV),AV.asIfc (.iface t v)=some (t,v)) /\
  (∀ (i n:Nat) (l:List AV),AV.item i n (.tuple l)=if l.length=n then l[i]? else none):=by
 refine⟨?_,?_,?_,?_,?_,?_,?_,?_,?_,?_,?_,?_,?_,?_,?_,?_,?_,?_,?_,?_,?_,?_,?_,?_,?_,?_,?_,?_,?_,?_,?_,?_,?_,?_,?_,?_,?_,?_,?_,?_,?_,?_,?_,?_,?_,?_,?_,?_,?_,?_,?_⟩ <;> intros <;> first | rfl | simp [AV.asInt]
theorem rI{P:Program}[Told P]{g:FuncId}(fn:Func){args:List AV}{σ σ':Store}{v:AV}(h:Ev (fun k=>evBody P (gm P k) drawn k fn args σ) (v,σ'))
  (hf:P.funcs[g]?=some fn:=by kernel_rfl) (hn:(fn.name == "runtime.NumGoroutine")=false:=by kernel_rfl) (hs:Told.sp P g=none:=by kernel_rfl):Runs P g args σ v σ':=Runs.intro hf hn h hs
end Go.Ab

namespace Go.Ab
open Go
def insL(x:Int):List Int->List Int
 | []=>[x]
 | y::l=>if x<=y then x::y::l else y::insL x l
def sortL:List Int->List Int
 | []=>[]
 | x::l=>insL x (sortL l)
theorem Zhh(x:Int):∀ l:List Int,(insL x l).Perm (x::l)
 | []=>List.Perm.refl _
 | y::l=>by
  unfold insL
  split
  ·exact List.Perm.refl _
  ·exact ((Zhh x l).cons y).trans (List.Perm.swap x y l)
theorem Za4:∀ l:List Int,(sortL l).Perm l
 | []=>List.Perm.refl _
 | x::l=>(Zhh x _).trans ((Za4 l).cons x)
theorem Ziw(x:Int):∀ l:List Int,l.Pairwise (·<=·)->(insL x l).Pairwise (·<=·)
 | [],_=>by simp [insL]
 | y::l,h=>by
  rw [Qr] at h
  unfold insL
  split
  ·rename_i c
   rw [Qr]
   refine⟨fun z hz=>?_,Qr.2 h⟩
   rcases Q4.1 hz with rfl | hz
   ·exact c
   ·have:=h.1 z hz; omega
  ·rw [Qr]
   refine⟨fun z hz=>?_,Ziw x l h.2⟩
   rcases Q4.1 ((Zhh x l).mem_iff.1 hz) with rfl | hz
   ·omega
   ·exact h.1 z hz
theorem Zcm:∀ l:List Int,(sortL l).Pairwise (·<=·)
 | []=>by simp [sortL]
 | x::l=>Ziw x _ (Zcm l)
theorem Zi9{a b:List Int}(p:a.Perm b)(ha:a.Pairwise (·<=·))(hb:b.Pairwise (·<=·)):a=b:=by
 induction a generalizing b with
 | nil=>exact (List.nil_perm.1 p).symm ▸ rfl
 | cons x l ih=>
  cases b with
  | nil=>exact absurd p.symm (by intro h; have:=h.length_eq; simp at this)
  | cons y m=>
   rw [Qr] at ha hb
   have h1:y∈x::l:=p.mem_iff.2 (by simp)
   have h2:x∈y::m:=p.mem_iff.1 (by simp)
   have e:x=y:=by
    rcases Q4.1 h1 with h1 | h1
    ·exact h1.symm
    ·rcases Q4.1 h2 with h2 | h2
     ·exact h2
     ·have:=ha.1 y h1; have:=hb.1 x h2; omega
   subst e
   rw [ih (List.Perm.cons_inv p) ha.2 hb.2]
theorem Zkw(l:List Int):(l.mergeSort fun x y=>decide (x<=y))=sortL l:=by
 refine Zi9 ((Qai l _).trans (Za4 l).symm) ?_ (Zcm l)
 have:=QU (le:=fun x y:Int=>decide (x<=y)) (fun a b c h1 h2=>by simp at *; omega) (fun a b=>by simp; omega) l
 exact this.imp (fun h=>by simpa using h)
theorem Zax(l:List Int):(sortL l).length=l.length:=(Za4 l).length_eq
theorem Z0w{a b:List Int}(p:a.Perm b)(hb:b.Pairwise (·<=·)):sortL a=b:=Zi9 ((Za4 a).trans p) (Zcm a) hb
def intsOf:List AV->Option (List Int)
 | []=>some []
 | .int .i64 x::l=>match intsOf l with
  | some r=>some (x::r)
  | none=>none
 | _=>none
theorem Znc:∀ {l:List AV} {zs:List Int},intsOf l=some zs->l=intsL zs
 | [],zs,h=>by simp [intsOf] at h; subst h; rfl
 | v::l,zs,h=>by
  cases v with
  | int k x=>
   cases k with
   | i64=>
    simp only [intsOf] at h
    cases hr:intsOf l with
    | none=>rw [hr] at h; cases h
    | some r=>
     rw [hr] at h; injection h with h; subst h
     rw [Znc hr]; rfl
   | _=>simp [intsOf] at h
  | _=>simp [intsOf] at h
theorem Zix:∀ zs:List Int,intsOf (intsL zs)=some zs
 | []=>rfl
 | x::zs=>by
  have:=Zix zs
  show intsOf (.int .i64 x::intsL zs)=_
  simp only [intsOf,this]
def sortT:List AV->Store->Option (AV×Store)
 | [.slice h],σ=>
  match h.len,h.a with
  | 0,_=>some (.tuple [],σ)
  | _+1,none=>none
  | n+1,some (b,o)=>match σ.objs[b]? with
   | some (.cells cs true 1)=>match intsOf ((cs.drop o).take (n+1)) with
    | some zs=>if σ.prot<=b/\o+(n+1)<=cs.length/\n+1<4611686018427387904 then some (.tuple [],σ.setO b (.cells (cs.take o++(intsL (sortL zs)++cs.drop (o+(n+1)))) true 1)) else none
    | none=>none
   | _=>none
 | _,_=>none
theorem Zn1{args:List AV}{σ σ':Store}{v:AV}(h:sortT args σ=some (v,σ')):∃ hd,args=[.slice hd]/\v=.tuple []/\((hd.len=0/\σ'=σ)\/∃ b o cs zs,hd.a=some (b,o)/\σ.objs[b]?=some (.cells cs true 1)/\(cs.drop o).take hd.len=intsL zs/\σ.prot<=b/\o+hd.len<=cs.length/\hd.len<4611686018427387904/\0<hd.len /\
  σ'=σ.setO b (.cells (cs.take o++(intsL (sortL zs)++cs.drop (o+hd.len))) true 1)):=by
 unfold sortT at h
 split at h
 ·rename_i hd
  refine⟨hd,rfl,?_⟩
  split at h
  ·rename_i e
   simp only [Q2.injEq,Prod.mk.injEq] at h
   exact⟨h.1.symm,.inl ⟨e,h.2.symm⟩⟩
  ·cases h
  ·rename_i n b o e1 e2
   split at h
   ·rename_i cs e3
    split at h
    ·rename_i zs e4
     split at h
     ·rename_i c
      simp only [Q2.injEq,Prod.mk.injEq] at h
      exact⟨h.1.symm,.inr ⟨b,o,cs,zs,e2,e3,by rw [e1]; exact Znc e4,c.1,by rw [e1]; exact c.2.1,by rw [e1]; exact c.2.2,by omega,by rw [e1]; exact h.2.symm⟩⟩
     ·cases h
    ·cases h
   ·cases h
 ·cases h
def sortSp(s:Nat)(g:FuncId):Option (List AV->Store->Option (AV×Store)):=
 match Q0 s g with
 | true=>some sortT
 | false=>none
theorem Zlg{s g:Nat}{f:List AV->Store->Option (AV×Store)}(h:sortSp s g=some f):g=s/\f=sortT:=by
 unfold sortSp at h
 split at h
 ·rename_i e
  injection h with h
  exact⟨(Qj e).symm,h.symm⟩
 ·cases h
def orTell(sp:FuncId->Option (List AV->Store->Option (AV×Store)))(fs:List Nat)(g:FuncId):Option (List AV->Store->Option (AV×Store)):=
 match sp g with
 | some f=>some f
 | none=>tell fs g
end Go.Ab

namespace Go.Ab
open Go
def pairsA(l:List (Int×Int)):List AV:=l.flatMap fun x=>[.int .i64 x.1,.int .i64 x.2]
def pairsOf:List AV->Option (List (Int×Int))
 | []=>some []
 | .int .i64 x::.int .i64 y::l=>match pairsOf l with
  | some r=>some ((x,y)::r)
  | none=>none
 | _=>none
theorem Zvo:∀ (l:List AV) (zs:List (Int×Int)),pairsOf l=some zs->l=pairsA zs:=by
 intro l
 fun_induction pairsOf l with
 | case1=>intro zs h; injection h with h; subst h; rfl
 | case2 x y l r e ih=>intro zs h; injection h with h; subst h; rw [ih r e]; rfl
 | case3=>intro zs h; cases h
 | case4=>intro zs h; cases h
theorem Zgn:∀ zs:List (Int×Int),pairsOf (pairsA zs)=some zs
 | []=>rfl
 | x::zs=>by
  have:=Zgn zs
  show pairsOf (.int .i64 x.1::.int .i64 x.2::pairsA zs)=_
  simp only [pairsOf,this]
theorem Zgl(l:List (Int×Int)):(pairsA l).length=2*l.length:=by
 induction l with
 | nil=>rfl
 | cons x l ih=>show (pairsA l).length+1+1=_; rw [ih,QS]; omega
def plx(x y:Int×Int):Bool:=decide (x.1<y.1\/(x.1=y.1/\x.2<y.2))
theorem Ztv{x y:Int×Int}:plx x y=true ↔ x.1<y.1\/(x.1=y.1/\x.2<y.2):=by unfold plx; simp
theorem Zbz{x y:Int×Int}:plx x y=false ↔ ¬ (x.1<y.1\/(x.1=y.1/\x.2<y.2)):=by unfold plx; simp
def sortP(l:List (Int×Int)):List (Int×Int):=l.mergeSort fun x y=>!plx y x
theorem Zlf(l:List (Int×Int)):(sortP l).Perm l:=Qai l _
theorem Zek(l:List (Int×Int)):(sortP l).length=l.length:=(Zlf l).length_eq
theorem Zyt(l:List (Int×Int)):(sortP l).Pairwise fun x y=>plx y x=false:=by
 have:=QU (le:=fun x y:Int×Int=>!plx y x) (fun a b c h1 h2=>by simp only [Qv,Zbz] at *; omega) (fun a b=>by
  rw [Qy,Qv,Qv,Zbz,Zbz]; omega) l
 exact this.imp fun h=>by simpa using h
def sortFT(cl:Nat):List AV->Store->Option (AV×Store)
 | [.slice h,.func f [] []],σ=>
  match Q0 f cl with
  | false=>none
  | true=>match h.len,h.a with
   | 0,_=>some (.tuple [],σ)
   | _+1,none=>none
   | n+1,some (b,o)=>match σ.objs[b]? with
    | some (.cells cs true 2)=>match pairsOf ((cs.drop o).take (2*(n+1))) with
     | some zs=>if σ.prot<=b/\o+2*(n+1)<=cs.length/\n+1<4611686018427387904 then some (.tuple [],σ.setO b (.cells (cs.take o++(pairsA (sortP zs)++cs.drop (o+2*(n+1)))) true 2)) else none
     | none=>none
    | _=>none
 | _,_=>none
theorem Zle{cl:Nat}{args:List AV}{σ σ':Store}{v:AV}(h:sortFT cl args σ=some (v,σ')):∃ hd,args=[.slice hd,.func cl [] []]/\v=.tuple []/\((hd.len=0/\σ'=σ)\/∃ b o cs zs,hd.a=some (b,o)/\σ.objs[b]?=some (.cells cs true 2)/\(cs.drop o).take (2*hd.len)=pairsA zs/\σ.prot<=b/\o+2*hd.len<=cs.length/\hd.len<4611686018427387904/\0<hd.len /\
  σ'=σ.setO b (.cells (cs.take o++(pairsA (sortP zs)++cs.drop (o+2*hd.len))) true 2)):=by
 unfold sortFT at h
 split at h
 ·rename_i hd f
  split at h
  ·cases h
  rename_i ef
  have ef:=Qj ef
  subst ef
  refine⟨hd,rfl,?_⟩
  split at h
  ·rename_i e
   simp only [Q2.injEq,Prod.mk.injEq] at h
   exact⟨h.1.symm,.inl ⟨e,h.2.symm⟩⟩
  ·cases h
  ·rename_i n b o e1 e2
   split at h
   ·rename_i cs e3
    split at h
    ·rename_i zs e4
     split at h
     ·rename_i c
      simp only [Q2.injEq,Prod.mk.injEq] at h
      exact⟨h.1.symm,.inr ⟨b,o,cs,zs,e2,e3,by rw [e1]; exact Zvo _ _ e4,c.1,by rw [e1]; exact c.2.1,by rw [e1]; exact c.2.2,by omega,by rw [e1]; exact h.2.symm⟩⟩
     ·cases h
    ·cases h
   ·cases h
 ·cases h
def sortFSp(s cl:Nat)(g:FuncId):Option (List AV->Store->Option (AV×Store)):=
 match Q0 s g with
 | true=>some (sortFT cl)
 | false=>none
theorem Zi8{s cl g:Nat}{f:List AV->Store->Option (AV×Store)}(h:sortFSp s cl g=some f):g=s/\f=sortFT cl:=by
 unfold sortFSp at h
 split at h
 ·rename_i e
  injection h with h
  exact⟨(Qj e).symm,h.symm⟩
 ·cases h
def orSp(s t:FuncId->Option (List AV->Store->Option (AV×Store)))(g:FuncId):Option (List AV->Store->Option (AV×Store)):=
 match s g with
 | some f=>some f
 | none=>t g
theorem Zq3{s t:FuncId->Option (List AV->Store->Option (AV×Store))}{g:FuncId}{f:List AV->Store->Option (AV×Store)}(h:orSp s t g=some f):s g=some f\/t g=some f:=by
 unfold orSp at h
 split at h
 ·rename_i e; injection h with h; subst h; exact .inl e
 ·exact .inr h
end Go.Ab
