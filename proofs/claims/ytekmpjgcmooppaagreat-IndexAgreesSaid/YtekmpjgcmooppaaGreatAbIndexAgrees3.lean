/- Lemmas. -/
import Derived.Test.YtekmpjgcmooppaaGreatAbIndexAgrees2
import Derived.Test.YtekmpjgcmooppaaGreatAbIndexAgrees1
set_option linter.unusedVariables false
set_option linter.unusedSimpArgs false
open Go.IntKind renaming wrap->Qa
open Go.Ab.AV renaming int->Qb,ptr->Qg,slice->Qk,bool->Qp,asInt->Qs,iface->Q2,tuple->Q4,asBool->Q6,agg->QK,func->QU,aggAt->Qav,asSl->Qa4
open Go.Proofs.Tryz renaming prog->Qc
open Option renaming bind_some->Qd,bind_eq_some_iff->Qy,isNone->QE,bind->QF,map_some->Qa2
open Go.Ab.Ptr renaming add->Qe
open List renaming replicate->Qf,mem_singleton->Qq,mem_append->Qr,filter_cons_of_pos->Qu,filter_cons_of_neg->Qv,length_cons->Qz,take_length->Q0,take_of_length_le->Q5,getElem?_eq_some_iff->Q8,drop_eq_getElem_cons->Q9,nodup_append->QA,length_map->QC,take_append_drop->QG,pairwise_iff_getElem->QI,nodup_cons->QQ,pairwise_map->QR,mem_cons_of_mem->QT,length_append->QV,take_add_one->QX,length_filter_le->QY,mem_cons_self->QZ,filter_append->Qaa,getD_eq_getElem?_getD->Qac,mem_or_eq_of_mem_set->Qad,length->Qae,ext_getElem->Qag,filter_eq_nil_iff->Qah,mem_map->Qai,pairwise_lt_range->Qaj,drop_eq_nil_of_le->Qak,mem_filter->Qal,filter_map->Qam,pairwise_append->Qan,replicate_succ'->Qao,filter_eq_self->Qaq,getElem_range->Qar,range->Qas,Nodup->Qat,getElem_map->Qax,length_take->Qay,any_eq_true->Qaz,length_nil->Qa1,map_append->Qa3,mem_range->Qa5,drop_zero->Qa6,mem_cons->Qa7
open Int renaming eq_ofNat_of_zero_le->Qh,lt_trichotomy->Qw,lt_irrefl->Q3,toNat_natCast->QB,toNat->QJ,le_refl->QL,tdiv->Qau,emod_eq_of_lt->Qaw
open Go.Ab renaming drawn->Qi,evBody->Qx,stepF->QD,contF->QM,loopF->Qap
open Classical renaming byContradiction->Qj
open Go.Ab.Hdl renaming idx->Ql,nil->QO
open Go.Ab.AX renaming exit->Qm,ret->QH
open Nat renaming le_refl->Qn,lt_of_lt_of_le->Qab,zero_le->Qaf,le_trans->Qa8
open Go.Ab.Fun renaming fn->Qo
open Sum renaming inr->Q7,inl->QN
open Go.Ab.Store renaming push->QP,ldSl->QW,ldInt->Qa9
open Bool renaming eq_false_iff->QS,and_eq_true->Qa0
open Go.BinOp renaming and->QaA
set_option maxRecDepth 100000
namespace Go.Ab
open Go Go.Proofs
open Store
variable (Γ:Gam) (k:Nat) (σ:Store)
theorem Zwu(i3 i4 i5:Int)(p6:Ptr) :QD Qc Γ Qi k Tryz.f174 [1,1,0] [7,2,1,0] ([Qb .i64 i3,Qb .i64 i4,Qb .i64 i5,Qg p6],σ)=p6.bind fun x7=>(ldSl σ (Qe (some x7) 0)).bind fun x8=>p6.bind fun x9=>(ldSl σ (Qe (some x9) 0)).bind fun x10=>if (!decide (Qa .i64 (i5+i3)<(x8.len:Int)))=true then some (Q7 (QH,[(6,Qp false)],σ)) else if (!decide (Qa .i64 (i4+i3)<(x10.len:Int)))=true then some (Q7 (QH,[(6,Qp false)],σ)) else p6.bind fun x11=>(ldSl σ (Qe (some x11) 0)).bind fun x12=>if 0<=Qa .i64 (i5+i3)/\Qa .i64 (i5+i3)<(x12.len:Int) then (ldInt σ .i64 (Ql x12 (Qa .i64 (i5+i3)) 1)).bind fun x13=>p6.bind fun x14=>(ldSl σ (Qe (some x14) 0)).bind fun x15=>if 0<=Qa .i64 (i4+i3)/\Qa .i64 (i4+i3)<(x15.len:Int) then (ldInt σ .i64 (Ql x15 (Qa .i64 (i4+i3)) 1)).bind fun x16=>if decide (x13≠x16)=true then some (Q7 (QH,[(6,Qp false)],σ)) else p6.bind fun x17=>(ldSl σ (Qe (some x17) 2)).bind fun x18=>if 0<=Qa .i64 (i5+i3)/\Qa .i64 (i5+i3)<(x18.len:Int) then (ldBool σ (Ql x18 (Qa .i64 (i5+i3)) 1)).bind fun x19=>p6.bind fun x20=>(ldSl σ (Qe (some x20) 2)).bind fun x21=>if 0<=Qa .i64 (i4+i3)/\Qa .i64 (i4+i3)<(x21.len:Int) then (ldBool σ (Ql x21 (Qa .i64 (i4+i3)) 1)).bind fun x22=>if (!x19 == x22)=true then some (Q7 (QH,[(6,Qp false)],σ)) else if decide (0<i3)=true then (Γ (Qo 172) [Qg p6,Qb .i64 (Qa .i64 (i5+i3))] σ).bind fun x23=>(Q6 x23.1).bind fun x24=>if x24=true then (Γ (Qo 172) [Qg p6,Qb .i64 (Qa .i64 (i5+i3))] x23.2).bind fun x25=>(Q6 x25.1).bind fun x26=>if x26=true then (Γ (Qo 172) [Qg p6,Qb .i64 (Qa .i64 (i4+i3))] x25.2).bind fun x27=>(Q6 x27.1).bind fun x28=>some (Q7 (QH,[(6,Qp x28)],x27.2)) else some (Q7 (QH,[(6,Qp false)],x25.2)) else (Γ (Qo 172) [Qg p6,Qb .i64 (Qa .i64 (i4+i3))] x23.2).bind fun x29=>(Q6 x29.1).bind fun x30=>if x30=true then (Γ (Qo 172) [Qg p6,Qb .i64 (Qa .i64 (i5+i3))] x29.2).bind fun x31=>(Q6 x31.1).bind fun x32=>if x32=true then (Γ (Qo 172) [Qg p6,Qb .i64 (Qa .i64 (i4+i3))] x31.2).bind fun x33=>(Q6 x33.1).bind fun x34=>some (Q7 (QH,[(6,Qp x34)],x33.2)) else some (Q7 (QH,[(6,Qp false)],x31.2)) else some (QN ([Qb .i64 (Qa .i64 (i3+1)),Qb .i64 i4,Qb .i64 i5,Qg p6],x29.2)) else some (QN ([Qb .i64 (Qa .i64 (i3+1)),Qb .i64 i4,Qb .i64 i5,Qg p6],σ)) else none else none else none else none:=by kernel_rfl
theorem Zr7(b35:Bool) :QM Qc Γ Qi k Tryz.f174 [1,1,0] (QH,[(6,Qp b35)],σ)=some (Qp b35,σ):=by kernel_rfl
theorem Z2d(i0:Int)(p1 p2:Ptr) :Qx Qc Γ Qi k Tryz.f175 [Qb .i64 i0,Qg p1,Qg p2] σ=(ldSl σ p1).bind fun x3=>if decide (i0=(x3.len:Int))=true then some (Qb .i64 (-1),σ) else (ldSl σ p2).bind fun x4=>if 0<=i0/\i0<(x4.len:Int) then (ldInt σ .i64 (Ql x4 i0 1)).bind fun x5=>some (Qb .i64 x5,σ) else none:=by kernel_rfl
theorem Z2e(i0:Int)(p1:Ptr) :Qx Qc Γ Qi k Tryz.f176 [Qb .i64 i0,Qg p1] σ=if decide (i0<0)=true then some (Qp true,σ) else (ldInt σ .i64 p1).bind fun x2=>some (Qp (decide (x2<=i0)),σ):=by kernel_rfl
theorem Zs9(i0 i1:Int) :Qx Qc Γ Qi k Tryz.f177 [Qb .i64 i0,Qb .i64 i1] σ=some (Qb .i64 (Qa .i64 (Qau (Qa .i64 (Qa .i64 (i0*i1)+63)) 64)),σ):=by kernel_rfl
theorem Zly(i0:Int) :Qx Qc Γ Qi k Tryz.f178 [Qb .u64 i0] σ=if decide (4294967296<=i0)=true then if decide (65536<=shrI .u64 i0 32)=true then if decide (256<=shrI .u64 (shrI .u64 i0 32) 16)=true then if 0<=Qa .u8 (shrI .u64 (shrI .u64 (shrI .u64 i0 32) 16) 8) then (strAt len8tab (QJ (Qa .u8 (shrI .u64 (shrI .u64 (shrI .u64 i0 32) 16) 8)))).bind fun x1=>some (Qb .i64 (Qa .i64 (Qa .i64 (Qa .i64 (32+16)+8)+Qa .i64 x1)),σ) else none else if 0<=Qa .u8 (shrI .u64 (shrI .u64 i0 32) 16) then (strAt len8tab (QJ (Qa .u8 (shrI .u64 (shrI .u64 i0 32) 16)))).bind fun x2=>some (Qb .i64 (Qa .i64 (Qa .i64 (32+16)+Qa .i64 x2)),σ) else none else if decide (256<=shrI .u64 i0 32)=true then if 0<=Qa .u8 (shrI .u64 (shrI .u64 i0 32) 8) then (strAt len8tab (QJ (Qa .u8 (shrI .u64 (shrI .u64 i0 32) 8)))).bind fun x3=>some (Qb .i64 (Qa .i64 (Qa .i64 (32+8)+Qa .i64 x3)),σ) else none else if 0<=Qa .u8 (shrI .u64 i0 32) then (strAt len8tab (QJ (Qa .u8 (shrI .u64 i0 32)))).bind fun x4=>some (Qb .i64 (Qa .i64 (32+Qa .i64 x4)),σ) else none else if decide (65536<=i0)=true then if decide (256<=shrI .u64 i0 16)=true then if 0<=Qa .u8 (shrI .u64 (shrI .u64 i0 16) 8) then (strAt len8tab (QJ (Qa .u8 (shrI .u64 (shrI .u64 i0 16) 8)))).bind fun x5=>some (Qb .i64 (Qa .i64 (Qa .i64 (Qa .i64 (0+16)+8)+Qa .i64 x5)),σ) else none else if 0<=Qa .u8 (shrI .u64 i0 16) then (strAt len8tab (QJ (Qa .u8 (shrI .u64 i0 16)))).bind fun x6=>some (Qb .i64 (Qa .i64 (Qa .i64 (0+16)+Qa .i64 x6)),σ) else none else if decide (256<=i0)=true then if 0<=Qa .u8 (shrI .u64 i0 8) then (strAt len8tab (QJ (Qa .u8 (shrI .u64 i0 8)))).bind fun x7=>some (Qb .i64 (Qa .i64 (Qa .i64 (0+8)+Qa .i64 x7)),σ) else none else if 0<=Qa .u8 i0 then (strAt len8tab (QJ (Qa .u8 i0))).bind fun x8=>some (Qb .i64 (Qa .i64 (0+Qa .i64 x8)),σ) else none:=by kernel_rfl
theorem Zta(i0:Int) :Qx Qc Γ Qi k Tryz.f179 [Qb .i64 i0] σ=if 0<=Qa .i64 (64-i0) then some (Qb .u64 (shrI .u64 18446744073709551615 (Qa .i64 (64-i0))),σ) else none:=by kernel_rfl
theorem Z2f(p0:Ptr) :Qx Qc Γ Qi k Tryz.f180 [Qg p0] σ=if QE p0=true then some (Qb .i64 0,σ) else p0.bind fun x1=>(ldInt σ .i64 (Qe (some x1) 0)).bind fun x2=>some (Qb .i64 x2,σ):=by kernel_rfl
theorem Z2g(p0:Ptr) :Qx Qc Γ Qi k Tryz.f181 [Qg p0] σ=if QE p0=true then some (Qb .i64 0,σ) else p0.bind fun x1=>(ldInt σ .i64 (Qe (some x1) 1)).bind fun x2=>some (Qb .i64 x2,σ):=by kernel_rfl
theorem Z2h(p0:Ptr) :Qx Qc Γ Qi k Tryz.f182 [Qg p0] σ=if QE p0=true then some (Qk QO,σ) else p0.bind fun x1=>(ldSl σ (Qe (some x1) 2)).bind fun x2=>(Γ (Qo 221) [Qk x2] σ).bind fun x3=>(Qa4 x3.1).bind fun x4=>some (Qk x4,x3.2):=by kernel_rfl
theorem Z2i(p0:Ptr)(i1 i2:Int) :Qx Qc Γ Qi k Tryz.f183 [Qg p0,Qb .i64 i1,Qb .i64 i2] σ=QF (Qap Qc Γ Qi k Tryz.f183 [1,1,0,1,0] [8,7,2,0] ([Qb .i64 i1,Qb .i64 (-1),Qb .i64 i2,Qg p0],σ)) (QM Qc Γ Qi k Tryz.f183 [1,1,0,1,0]):=by kernel_rfl
theorem Zio(i3 i4 i5:Int)(p6:Ptr) :QD Qc Γ Qi k Tryz.f183 [1,1,0,1,0] [8,7,2,0] ([Qb .i64 i3,Qb .i64 i4,Qb .i64 i5,Qg p6],σ)=if decide (i3<i5)=true then (Γ (Qo 184) [Qg p6,Qb .i64 i4,Qb .i64 i3] σ).bind fun x7=>(Qs .i64 x7.1).bind fun x8=>some (QN ([Qb .i64 (Qa .i64 (i3+1)),Qb .i64 x8,Qb .i64 i5,Qg p6],x7.2)) else some (Q7 (Qm 0,[(7,Qb .i64 i4)],σ)):=by kernel_rfl
theorem Zoo(i9:Int) :QM Qc Γ Qi k Tryz.f183 [1,1,0,1,0] (Qm 0,[(7,Qb .i64 i9)],σ)=some (Qb .i64 i9,σ):=by kernel_rfl
theorem Z2j(p0:Ptr)(i1 i2:Int) :Qx Qc Γ Qi k Tryz.f184 [Qg p0,Qb .i64 i1,Qb .i64 i2] σ=if decide (i1<0)=true then some (Qb .i64 i2,σ) else if decide (i2<0)=true then some (Qb .i64 i1,σ) else p0.bind fun x3=>(ldSl σ (Qe (some x3) 0)).bind fun x4=>if 0<=i1/\i1<(x4.len:Int) then (ldInt σ .i64 (Ql x4 i1 1)).bind fun x5=>p0.bind fun x6=>(ldSl σ (Qe (some x6) 0)).bind fun x7=>if 0<=i2/\i2<(x7.len:Int) then (ldInt σ .i64 (Ql x7 i2 1)).bind fun x8=>if decide (x5<x8)=true then some (Qb .i64 i1,σ) else p0.bind fun x9=>(ldSl σ (Qe (some x9) 0)).bind fun x10=>if 0<=i1/\i1<(x10.len:Int) then (ldInt σ .i64 (Ql x10 i1 1)).bind fun x11=>p0.bind fun x12=>(ldSl σ (Qe (some x12) 0)).bind fun x13=>if 0<=i2/\i2<(x13.len:Int) then (ldInt σ .i64 (Ql x13 i2 1)).bind fun x14=>if decide (x11=x14)=true then if decide (i1<i2)=true then some (Qb .i64 i1,σ) else some (Qb .i64 i2,σ) else some (Qb .i64 i2,σ) else none else none else none else none:=by kernel_rfl
theorem Z2k(p0:Ptr) :Qx Qc Γ Qi k Tryz.f185 [Qg p0] σ=if QE p0=true then some (Qb .i64 0,σ) else p0.bind fun x1=>(ldSl σ (Qe (some x1) 0)).bind fun x2=>some (Qb .i64 (x2.len:Int),σ):=by kernel_rfl
theorem Z2l(p0:Ptr)(i1:Int) :Qx Qc Γ Qi k Tryz.f186 [Qg p0,Qb .i64 i1] σ=(Γ (Qo 211) [Qg p0] σ).bind fun x2=>(Qs .i64 x2.1).bind fun x3=>(Γ (Qo 223) [Qg p0] x2.2).bind fun x4=>(Qs .i64 x4.1).bind fun x5=>(Γ (Qo 222) [Qg p0,Qb .i64 i1,Qb .i64 (Qa .i64 (x3-x5)),QU 224 [Qg p0] []] x4.2).bind fun x6=>(Qs .i64 x6.1).bind fun x7=>some (Qb .i64 x7,x6.2):=by kernel_rfl
theorem Ztb(p0:Ptr)(i1 i2 i3 i4 i5:Int) :Qx Qc Γ Qi k Tryz.f188 [Qg p0,QK [Qb .i64 i1,Qb .i64 i2,Qb .i64 i3,Qb .i64 i4,Qb .i64 i5]] σ=(ldInt (push σ [Qb .i64 i1,Qb .i64 i2,Qb .i64 i3,Qb .i64 i4,Qb .i64 i5] 5) .i64 (Qe (some (σ.objs.length,0)) 3)).bind fun x6=>(ldInt (push σ [Qb .i64 i1,Qb .i64 i2,Qb .i64 i3,Qb .i64 i4,Qb .i64 i5] 5) .i64 (Qe (some (σ.objs.length,0)) 4)).bind fun x7=>if decide (x6<x7)=true then p0.bind fun x8=>(ldInt (push σ [Qb .i64 i1,Qb .i64 i2,Qb .i64 i3,Qb .i64 i4,Qb .i64 i5] 5) .i64 (Qe (some (σ.objs.length,0)) 0)).bind fun x9=>(ldInt (push σ [Qb .i64 i1,Qb .i64 i2,Qb .i64 i3,Qb .i64 i4,Qb .i64 i5] 5) .i64 (Qe (some (σ.objs.length,0)) 1)).bind fun x10=>(ldInt (push σ [Qb .i64 i1,Qb .i64 i2,Qb .i64 i3,Qb .i64 i4,Qb .i64 i5] 5) .i64 (Qe (some (σ.objs.length,0)) 2)).bind fun x11=>(ldInt (push σ [Qb .i64 i1,Qb .i64 i2,Qb .i64 i3,Qb .i64 i4,Qb .i64 i5] 5) .i64 (Qe (some (σ.objs.length,0)) 3)).bind fun x12=>(ldInt (push σ [Qb .i64 i1,Qb .i64 i2,Qb .i64 i3,Qb .i64 i4,Qb .i64 i5] 5) .i64 (Qe (some (σ.objs.length,0)) 4)).bind fun x13=>(Γ (Qo 226) [Q2 298 (Qg (Qe (some x8) 1)),Q2 267 (QK [Qb .i64 x9,Qb .i64 x10,Qb .i64 x11,Qb .i64 x12,Qb .i64 x13])] (push σ [Qb .i64 i1,Qb .i64 i2,Qb .i64 i3,Qb .i64 i4,Qb .i64 i5] 5)).bind fun x14=>some (Q4 [],x14.2) else some (Q4 [],push σ [Qb .i64 i1,Qb .i64 i2,Qb .i64 i3,Qb .i64 i4,Qb .i64 i5] 5):=by kernel_rfl
theorem Z2m(p0:Ptr) :Qx Qc Γ Qi k Tryz.f189 [Qg p0] σ=if QE p0=true then some (Qb .i64 0,σ) else p0.bind fun x1=>(ldInt σ .i64 (Qe (some x1) 0)).bind fun x2=>some (Qb .i64 x2,σ):=by kernel_rfl
theorem Zlz(p0:Ptr) :Qx Qc Γ Qi k Tryz.f190 [Qg p0] σ=p0.bind fun x1=>(ldSl (push σ [Qb .i64 0,Qb .i64 0] 2) (Qe (some x1) 1)).bind fun x2=>if decide ((x2.len:Int)=0)=true then (stL (push σ [Qb .i64 0,Qb .i64 0] 2) (some (σ.objs.length,0)) [Qb .i64 0,Qb .i64 0] 0).bind fun x3=>(ldInt x3 .i64 (Qe (some (σ.objs.length,0)) 0)).bind fun x4=>(ldInt x3 .i64 (Qe (some (σ.objs.length,0)) 1)).bind fun x5=>some (Q4 [QK [Qb .i64 x4,Qb .i64 x5],Qp false,Qp false],x3) else p0.bind fun x6=>(Γ (Qo 227) [Q2 298 (Qg (Qe (some x6) 1))] (push σ [Qb .i64 0,Qb .i64 0] 2)).bind fun x7=>(AV.asIfc x7.1).bind fun x8=>if x8.1=267 then (Qav 0 5 x8.2).bind fun x9=>(Qs .i64 x9).bind fun x10=>(Qav 1 5 x8.2).bind fun x11=>(Qs .i64 x11).bind fun x12=>(Qav 2 5 x8.2).bind fun x13=>(Qs .i64 x13).bind fun x14=>(Qav 3 5 x8.2).bind fun x15=>(Qs .i64 x15).bind fun x16=>(Qav 4 5 x8.2).bind fun x17=>(Qs .i64 x17).bind fun x18=>if szOf Qc 267=some (Qae (AV.cells (if false=true then Q4 [QK [Qb .i64 x10,Qb .i64 x12,Qb .i64 x14,Qb .i64 x16,Qb .i64 x18],Qp true] else QK [Qb .i64 x10,Qb .i64 x12,Qb .i64 x14,Qb .i64 x16,Qb .i64 x18])))/\0<Qae (AV.cells (if false=true then Q4 [QK [Qb .i64 x10,Qb .i64 x12,Qb .i64 x14,Qb .i64 x16,Qb .i64 x18],Qp true] else QK [Qb .i64 x10,Qb .i64 x12,Qb .i64 x14,Qb .i64 x16,Qb .i64 x18])) then (stL (push x7.2 [Qb .i64 0,Qb .i64 0,Qb .i64 0,Qb .i64 0,Qb .i64 0] 5) (some (x7.2.objs.length,0)) (AV.cells (if false=true then Q4 [QK [Qb .i64 x10,Qb .i64 x12,Qb .i64 x14,Qb .i64 x16,Qb .i64 x18],Qp true] else QK [Qb .i64 x10,Qb .i64 x12,Qb .i64 x14,Qb .i64 x16,Qb .i64 x18])) 0).bind fun x19=>p0.bind fun x20=>(ldPtr x19 (Qe (some x20) 0)).bind fun x21=>(Γ (Qo 55) [Qg x21] x19).bind fun x22=>(Qa4 x22.1).bind fun x23=>(ldInt x22.2 .i64 (Qe (some (x7.2.objs.length,0)) 0)).bind fun x24=>if decide (x24=(x23.len:Int))=true then (ldInt x22.2 .i64 (Qe (some (x7.2.objs.length,0)) 1)).bind fun x25=>(ldInt x22.2 .i64 (Qe (some (x7.2.objs.length,0)) 4)).bind fun x26=>(ldInt x22.2 .i64 (Qe (some (x7.2.objs.length,0)) 3)).bind fun x27=>(stL x22.2 (some (σ.objs.length,0)) [Qb .i64 x25,Qb .i64 (Qa .i64 (x26-x27))] 0).bind fun x28=>(ldInt x28 .i64 (Qe (some (σ.objs.length,0)) 0)).bind fun x29=>(ldInt x28 .i64 (Qe (some (σ.objs.length,0)) 1)).bind fun x30=>some (Q4 [QK [Qb .i64 x29,Qb .i64 x30],Qp true,Qp true],x28) else (ldInt x22.2 .i64 (Qe (some (x7.2.objs.length,0)) 0)).bind fun x31=>if 0<=x31/\x31<(x23.len:Int) then (ldPtr x22.2 (Ql x23 x31 1)).bind fun x32=>(ldInt x22.2 .i64 (Qe (some (x7.2.objs.length,0)) 0)).bind fun x33=>if 0<=Qa .i64 (Qa .i64 ((x23.len:Int)-x33)-1) then (Γ (Qo 211) [Qg x32] x22.2).bind fun x34=>(Qs .i64 x34.1).bind fun x35=>(Γ (Qo 223) [Qg x32] x34.2).bind fun x36=>(Qs .i64 x36.1).bind fun x37=>(ldInt x36.2 .i64 (Qe (some (x7.2.objs.length,0)) 0)).bind fun x38=>(ldInt x36.2 .i64 (Qe (some (x7.2.objs.length,0)) 1)).bind fun x39=>(ldInt x36.2 .i64 (Qe (some (x7.2.objs.length,0)) 2)).bind fun x40=>(ldInt x36.2 .i64 (Qe (some (x7.2.objs.length,0)) 3)).bind fun x41=>(callG Γ true (Qo 224) [Qg x32,Qb .i64 x41] x36.2).bind fun x42=>(Qs .i64 x42.1).bind fun x43=>(ldInt x42.2 .i64 (Qe (some (x7.2.objs.length,0)) 4)).bind fun x44=>(callG Γ true (Qo 224) [Qg x32,Qb .i64 x44] x42.2).bind fun x45=>(Qs .i64 x45.1).bind fun x46=>(Γ (Qo 188) [Qg p0,QK [Qb .i64 (Qa .i64 (x38+1)),Qb .i64 (Qa .i64 (2*x39)),Qb .i64 x40,Qb .i64 x43,Qb .i64 x46]] x45.2).bind fun x47=>(ldInt x47.2 .i64 (Qe (some (x7.2.objs.length,0)) 0)).bind fun x48=>(ldInt x47.2 .i64 (Qe (some (x7.2.objs.length,0)) 1)).bind fun x49=>(ldInt x47.2 .i64 (Qe (some (x7.2.objs.length,0)) 2)).bind fun x50=>(ldInt x47.2 .i64 (Qe (some (x7.2.objs.length,0)) 3)).bind fun x51=>(callG Γ true (Qo 56) [Qg x32,Qb .i64 x51] x47.2).bind fun x52=>(Qs .i64 x52.1).bind fun x53=>(ldInt x52.2 .i64 (Qe (some (x7.2.objs.length,0)) 4)).bind fun x54=>(callG Γ true (Qo 56) [Qg x32,Qb .i64 x54] x52.2).bind fun x55=>(Qs .i64 x55.1).bind fun x56=>(Γ (Qo 188) [Qg p0,QK [Qb .i64 (Qa .i64 (x48+1)),Qb .i64 (Qa .i64 (Qa .i64 (2*x49)+1)),Qb .i64 (Qa .i64 (x50+shlI .i64 1 (Qa .i64 (Qa .i64 ((x23.len:Int)-x33)-1)))),Qb .i64 (Qa .i64 (Qa .i64 (x35-x37)+x53)),Qb .i64 (Qa .i64 (Qa .i64 (x35-x37)+x56))]] x55.2).bind fun x57=>(stL x57.2 (some (σ.objs.length,0)) [Qb .i64 0,Qb .i64 0] 0).bind fun x58=>(ldInt x58 .i64 (Qe (some (σ.objs.length,0)) 0)).bind fun x59=>(ldInt x58 .i64 (Qe (some (σ.objs.length,0)) 1)).bind fun x60=>some (Q4 [QK [Qb .i64 x59,Qb .i64 x60],Qp false,Qp true],x58) else none else none else none else none:=by kernel_rfl
theorem Zl1(p0:Ptr)(i1:Int) :Qx Qc Γ Qi k Tryz.f191 [Qg p0,Qb .i64 i1] σ=if decide (i1<0)=true then some (Qb .i64 (-1),σ) else (Γ (Qo 189) [Qg p0] σ).bind fun x2=>(Qs .i64 x2.1).bind fun x3=>if decide (x3<=i1)=true then some (Qb .i64 (-1),x2.2) else p0.bind fun x4=>(ldSl x2.2 (Qe (some x4) 2)).bind fun x5=>QF (Qap Qc Γ Qi k Tryz.f191 [1,1,1,0,1,0] [22,21,20,5,1] ([Qb .i64 0,Qb .i64 (x5.len:Int),Qk x5,Qb .i64 0,Qb .i64 i1],x2.2)) (QM Qc Γ Qi k Tryz.f191 [1,1,1,0,1,0]):=by kernel_rfl
theorem Zg4(i6 i7:Int)(h8:Hdl)(i9 i10:Int) :QD Qc Γ Qi k Tryz.f191 [1,1,1,0,1,0] [22,21,20,5,1] ([Qb .i64 i6,Qb .i64 i7,Qk h8,Qb .i64 i9,Qb .i64 i10],σ)=if decide (i6<i7)=true then if 0<=i6/\i6<(h8.len:Int) then (ldPtr σ (Ql h8 i6 1)).bind fun x11=>(Γ (Qo 139) [Qg x11,Qb .i64 i10] σ).bind fun x12=>(Q6 x12.1).bind fun x13=>if x13=true then (Γ (Qo 228) [Qg x11,Qb .i64 i10,Qp x13] x12.2).bind fun x14=>(Qs .i64 x14.1).bind fun x15=>some (QN ([Qb .i64 (Qa .i64 (i6+1)),Qb .i64 i7,Qk h8,Qb .i64 (Qa .i64 (Qa .i64 (2*i9)+1)),Qb .i64 x15],x14.2)) else (Γ (Qo 228) [Qg x11,Qb .i64 i10,Qp x13] x12.2).bind fun x16=>(Qs .i64 x16.1).bind fun x17=>some (QN ([Qb .i64 (Qa .i64 (i6+1)),Qb .i64 i7,Qk h8,Qb .i64 (Qa .i64 (2*i9)),Qb .i64 x17],x16.2)) else none else some (Q7 (Qm 0,[(5,Qb .i64 i9)],σ)):=by kernel_rfl
theorem Zl0(i18:Int) :QM Qc Γ Qi k Tryz.f191 [1,1,1,0,1,0] (Qm 0,[(5,Qb .i64 i18)],σ)=some (Qb .i64 i18,σ):=by kernel_rfl
theorem Ztc(p0:Ptr)(i1 i2:Int) :Qx Qc Γ Qi k Tryz.f192 [Qg p0,Qb .i64 i1,Qb .i64 i2] σ=(Γ (Qo 229) [Qg p0,Qb .i64 i1] σ).bind fun x3=>(Q6 x3.1).bind fun x4=>if (!x4)=true then some (Qb .i64 0,x3.2) else p0.bind fun x5=>(ldInt x3.2 .i64 (Qe (some x5) 0)).bind fun x6=>(Γ (Qo 230) [Qg p0,Qb .i64 i1,Qb .i64 (mx2 (Int.ofNat 0) (mn2 i2 x6))] x3.2).bind fun x7=>(AV.item 0 2 x7.1).bind fun x8=>(Qs .i64 x8).bind fun x9=>(AV.item 1 2 x7.1).bind fun x10=>(Qs .i64 x10).bind fun x11=>some (Qb .i64 (Qa .i64 (x11-x9)),x7.2):=by kernel_rfl
theorem Z2n(i0:Int)(g1:FuncId)(a2 c3:List AV) :Qx Qc Γ Qi k Tryz.f193 [Qb .i64 i0,QU g1 a2 c3] σ=QF (Qap Qc Γ Qi k Tryz.f193 [1,1,0,0] [6,5,1] ([Qb .i64 i0,Qb .i64 0,QU g1 a2 c3],σ)) (QM Qc Γ Qi k Tryz.f193 [1,1,0,0]):=by kernel_rfl
theorem Zfy(i4 i5:Int)(g6:FuncId)(a7 c8:List AV) :QD Qc Γ Qi k Tryz.f193 [1,1,0,0] [6,5,1] ([Qb .i64 i4,Qb .i64 i5,QU g6 a7 c8],σ)=if decide (i5<i4)=true then (Γ (Qo g6) (a7++[Qb .i64 (Qa .i64 (shrI .u64 (Qa .u64 (Qa .i64 (i5+i4))) 1))]++ c8) σ).bind fun x9=>(Q6 x9.1).bind fun x10=>if (!x10)=true then some (QN ([Qb .i64 i4,Qb .i64 (Qa .i64 (Qa .i64 (shrI .u64 (Qa .u64 (Qa .i64 (i5+i4))) 1)+1)),QU g6 a7 c8],x9.2)) else some (QN ([Qb .i64 (Qa .i64 (shrI .u64 (Qa .u64 (Qa .i64 (i5+i4))) 1)),Qb .i64 i5,QU g6 a7 c8],x9.2)) else some (Q7 (Qm 0,[(5,Qb .i64 i5)],σ)):=by kernel_rfl
theorem Zpy(i11:Int) :QM Qc Γ Qi k Tryz.f193 [1,1,0,0] (Qm 0,[(5,Qb .i64 i11)],σ)=some (Qb .i64 i11,σ):=by kernel_rfl
theorem Z2o(i0:Int)(p1 p2:Ptr) :Qx Qc Γ Qi k Tryz.f194 [Qb .i64 i0,Qg p1,Qg p2] σ=(ldSl σ p1).bind fun x3=>if 0<=i0/\i0<(x3.len:Int) then (ldInt σ .i64 (Ql x3 i0 1)).bind fun x4=>(ldInt σ .i64 p2).bind fun x5=>some (Qp (decide (x5<=x4)),σ) else none:=by kernel_rfl
theorem Zl2(y0:Nat)(p1:Ptr) :Qx Qc Γ Qi k Tryz.f204 [AV.yld y0,Qg p1] σ=(ldSl σ p1).bind fun x2=>QF (Qap Qc Γ Qi k Tryz.f204 [1,0] [3,1,0] ([Qb .i64 (Qa .i64 ((x2.len:Int)-1)),Qg p1,AV.yld y0],σ)) (QM Qc Γ Qi k Tryz.f204 [1,0]):=by kernel_rfl
theorem Zd3(i3:Int)(p4:Ptr)(y5:Nat) :QD Qc Γ Qi k Tryz.f204 [1,0] [3,1,0] ([Qb .i64 i3,Qg p4,AV.yld y5],σ)=if decide (0<=i3)=true then (ldSl σ p4).bind fun x6=>if 0<=i3/\i3<(x6.len:Int) then (ldInt σ .i64 (Ql x6 i3 1)).bind fun x7=>(Γ (Fun.yl y5) [Qb .i64 i3,Qb .i64 x7] σ).bind fun x8=>(Q6 x8.1).bind fun x9=>if (!x9)=true then some (Q7 (QH,[],x8.2)) else some (QN ([Qb .i64 (Qa .i64 (i3-1)),Qg p4,AV.yld y5],x8.2)) else none else some (Q7 (Qm 0,[],σ)):=by kernel_rfl
theorem Zuz :QM Qc Γ Qi k Tryz.f204 [1,0] (QH,[],σ)=some (Q4 [],σ):=by kernel_rfl
theorem Zj9 :QM Qc Γ Qi k Tryz.f204 [1,0] (Qm 0,[],σ)=some (Q4 [],σ):=by kernel_rfl
theorem Z2p(p0:Ptr) :Qx Qc Γ Qi k Tryz.f211 [Qg p0] σ=if QE p0=true then some (Qb .i64 0,σ) else p0.bind fun x1=>(ldInt σ .i64 (Qe (some x1) 0)).bind fun x2=>some (Qb .i64 x2,σ):=by kernel_rfl
theorem Z2q(p0:Ptr)(b1:Bool) :Qx Qc Γ Qi k Tryz.f219 [Qg p0,Qp b1] σ=p0.bind fun x2=>(ldInt σ .i64 (Qe (some x2) (1:Nat))).bind fun x3=>if ((0:Int)<=x3/\x3<=x3)/\x3*(↑(8:Nat):Int)<=(281474976710656:Int) then p0.bind fun x4=>(ldSl (push σ (mkCells [Qb .i64 (0:Int)] (QJ x3)) (1:Nat)) (Qe (some x4) (0:Nat))).bind fun x5=>QF (Qap Qc Γ Qi k Tryz.f219 [(1:Nat),(1:Nat),(0:Nat),(1:Nat),(0:Nat)] [(21:Nat),(20:Nat),(19:Nat),(5:Nat),(1:Nat)] ([Qb .i64 (0:Int),Qb .i64 (x5.len:Int),Qk x5,Qk { a:=some (σ.objs.length,(0:Nat)),len:=QJ x3,cap:=some (QJ x3) },Qp b1],push σ (mkCells [Qb .i64 (0:Int)] (QJ x3)) (1:Nat))) (QM Qc Γ Qi k Tryz.f219 [(1:Nat),(1:Nat),(0:Nat),(1:Nat),(0:Nat)]) else none:=by kernel_rfl
theorem Zip(i6 i7:Int)(h8 h9:Hdl)(b10:Bool) :QD Qc Γ Qi k Tryz.f219 [1,1,0,1,0] [21,20,19,5,1] ([Qb .i64 i6,Qb .i64 i7,Qk h8,Qk h9,Qp b10],σ)=if decide (i6<i7)=true then if 0<=i6/\i6<(h8.len:Int) then (ldInt σ .i64 (Ql h8 i6 1)).bind fun x11=>if 0<=x11/\x11<(h9.len:Int) then (ldInt σ .i64 (Ql h9 x11 1)).bind fun x12=>if 0<=x11/\x11<(h9.len:Int) then (stL σ (Ql h9 x11 1) [Qb .i64 (Qa .i64 (x12+1))] 0).bind fun x13=>some (QN ([Qb .i64 (Qa .i64 (i6+1)),Qb .i64 i7,Qk h8,Qk h9,Qp b10],x13)) else none else none else none else some (Q7 (Qm 0,[(5,Qk h9),(1,Qp b10)],σ)):=by kernel_rfl
theorem Zop(h14:Hdl)(b15:Bool) :QM Qc Γ Qi k Tryz.f219 [1,1,0,1,0] (Qm 0,[(5,Qk h14),(1,Qp b15)],σ)=QF (Qap Qc Γ Qi k Tryz.f219 [1,1,1,1,0,1,0] [34,33,32,8,5,1] ([Qb .i64 0,Qb .i64 (h14.len:Int),Qk h14,Qb .i64 0,Qk h14,Qp b15],σ)) (QM Qc Γ Qi k Tryz.f219 [1,1,1,1,0,1,0]):=by kernel_rfl
theorem Zgj(i16 i17:Int)(h18:Hdl)(i19:Int)(h20:Hdl)(b21:Bool) :QD Qc Γ Qi k Tryz.f219 [1,1,1,1,0,1,0] [34,33,32,8,5,1] ([Qb .i64 i16,Qb .i64 i17,Qk h18,Qb .i64 i19,Qk h20,Qp b21],σ)=if decide (i16<i17)=true then if 0<=i16/\i16<(h18.len:Int) then (ldInt σ .i64 (Ql h18 i16 1)).bind fun x22=>if b21=true then if 0<=i16/\i16<(h20.len:Int) then (stL σ (Ql h20 i16 1) [Qb .i64 (Qa .i64 (i19+x22))] 0).bind fun x23=>some (QN ([Qb .i64 (Qa .i64 (i16+1)),Qb .i64 i17,Qk h18,Qb .i64 (Qa .i64 (i19+x22)),Qk h20,Qp b21],x23)) else none else if 0<=i16/\i16<(h20.len:Int) then (stL σ (Ql h20 i16 1) [Qb .i64 i19] 0).bind fun x24=>some (QN ([Qb .i64 (Qa .i64 (i16+1)),Qb .i64 i17,Qk h18,Qb .i64 (Qa .i64 (i19+x22)),Qk h20,Qp b21],x24)) else none else none else some (Q7 (Qm 2,[(5,Qk h20)],σ)):=by kernel_rfl
theorem Zka(h25:Hdl) :QM Qc Γ Qi k Tryz.f219 [1,1,1,1,0,1,0] (Qm 2,[(5,Qk h25)],σ)=some (Qk h25,σ):=by kernel_rfl
theorem Zl3(i0:Int)(p1 p2:Ptr) :Qx Qc Γ Qi k Tryz.f220 [Qb .i64 i0,Qg p1,Qg p2] σ=if decide (0<=i0)=true then (ldPtr σ p1).bind fun x3=>x3.bind fun x4=>(ldSl σ (Qe (some x4) 2)).bind fun x5=>if 0<=i0/\i0<(x5.len:Int) then (ldBool σ (Ql x5 i0 1)).bind fun x6=>if (!x6)=true then (ldPtr σ p1).bind fun x7=>x7.bind fun x8=>(ldSl σ (Qe (some x8) 3)).bind fun x9=>(ldSl σ p2).bind fun x10=>(ldPtr σ p1).bind fun x11=>x11.bind fun x12=>(ldSl σ (Qe (some x12) 0)).bind fun x13=>if 0<=i0/\i0<(x13.len:Int) then (ldInt σ .i64 (Ql x13 i0 1)).bind fun x14=>if 0<=x14/\x14<(x10.len:Int) then (ldInt σ .i64 (Ql x10 x14 1)).bind fun x15=>if 0<=x15/\x15<(x9.len:Int) then (stL σ (Ql x9 x15 1) [Qb .i64 i0] 0).bind fun x16=>(ldSl x16 p2).bind fun x17=>(ldPtr x16 p1).bind fun x18=>x18.bind fun x19=>(ldSl x16 (Qe (some x19) 0)).bind fun x20=>if 0<=i0/\i0<(x20.len:Int) then (ldInt x16 .i64 (Ql x20 i0 1)).bind fun x21=>if 0<=x21/\x21<(x17.len:Int) then (ldInt x16 .i64 (Ql x17 x21 1)).bind fun x22=>if 0<=x21/\x21<(x17.len:Int) then (stL x16 (Ql x17 x21 1) [Qb .i64 (Qa .i64 (x22+1))] 0).bind fun x23=>some (Q4 [],x23) else none else none else none else none else none else none else some (Q4 [],σ) else none else some (Q4 [],σ):=by kernel_rfl
theorem Z2r(h0:Hdl) :Qx Qc Γ Qi k Tryz.f221 [Qk h0] σ=if QE (Hdl.a h0)=true then some (Qk QO,σ) else (readSl (push σ [] 1) h0 1).bind fun x1=>(app (push σ [] 1) { a:=some (σ.objs.length,0),len:=0,cap:=some 0 } 1 8 x1 h0.len).bind fun x2=>some (Qk x2.1,x2.2):=by kernel_rfl
theorem Zl4(p0:Ptr)(i1 i2:Int)(g3:FuncId)(a4 c5:List AV) :Qx Qc Γ Qi k Tryz.f222 [Qg p0,Qb .i64 i1,Qb .i64 i2,QU g3 a4 c5] σ=(ldInt (push (push σ [Qb .i64 i1] 1) [QU g3 a4 c5] 1) .i64 (some (σ.objs.length,0))).bind fun x6=>if decide (x6<0)=true then some (Qb .i64 (-1),push (push σ [Qb .i64 i1] 1) [QU g3 a4 c5] 1) else (ldInt (push (push σ [Qb .i64 i1] 1) [QU g3 a4 c5] 1) .i64 (some (σ.objs.length,0))).bind fun x7=>if decide (i2<=x7)=true then some (Qb .i64 (-1),push (push σ [Qb .i64 i1] 1) [QU g3 a4 c5] 1) else p0.bind fun x8=>(ldInt (push (push σ [Qb .i64 i1] 1) [QU g3 a4 c5] 1) .i64 (Qe (some x8) 0)).bind fun x9=>(Γ (Qo 193) [Qb .i64 x9,QU 239 [] [Qg (some (Qae (objs (push σ [Qb .i64 i1] 1)),0)),Qg (some (σ.objs.length,0))]] (push (push σ [Qb .i64 i1] 1) [QU g3 a4 c5] 1)).bind fun x10=>(Qs .i64 x10.1).bind fun x11=>some (Qb .i64 x11,x10.2):=by kernel_rfl
theorem Z2s(p0:Ptr) :Qx Qc Γ Qi k Tryz.f223 [Qg p0] σ=if QE p0=true then some (Qb .i64 0,σ) else p0.bind fun x1=>(ldInt σ .i64 (Qe (some x1) 3)).bind fun x2=>some (Qb .i64 x2,σ):=by kernel_rfl
theorem Z2t(p0:Ptr)(i1:Int) :Qx Qc Γ Qi k Tryz.f224 [Qg p0,Qb .i64 i1] σ=(Γ (Qo 211) [Qg p0] σ).bind fun x2=>(Qs .i64 x2.1).bind fun x3=>(Γ (Qo 56) [Qg p0,Qb .i64 i1] x2.2).bind fun x4=>(Qs .i64 x4.1).bind fun x5=>some (Qb .i64 (Qa .i64 (mx2 (Int.ofNat 0) (mn2 i1 x3)-x5)),x4.2):=by kernel_rfl
theorem Z2u(p0:Ptr)(i1 i2 i3 i4 i5:Int) :Qx Qc Γ Qi k Tryz.f226 [Q2 298 (Qg p0),Q2 267 (QK [Qb .i64 i1,Qb .i64 i2,Qb .i64 i3,Qb .i64 i4,Qb .i64 i5])] σ=(Γ (Qo 281) [Qg p0,Q2 267 (QK [Qb .i64 i1,Qb .i64 i2,Qb .i64 i3,Qb .i64 i4,Qb .i64 i5])] σ).bind fun x6=>(ldSl x6.2 p0).bind fun x7=>(Γ (Qo 277) [Qk x7] x6.2).bind fun x8=>(Qs .i64 x8.1).bind fun x9=>(Γ (Qo 249) [Q2 298 (Qg p0),Qb .i64 (Qa .i64 (x9-1))] x8.2).bind fun x10=>some (Q4 [],x10.2):=by kernel_rfl
theorem Z2v(p0:Ptr) :Qx Qc Γ Qi k Tryz.f227 [Q2 298 (Qg p0)] σ=(ldSl σ p0).bind fun x1=>(Γ (Qo 277) [Qk x1] σ).bind fun x2=>(Qs .i64 x2.1).bind fun x3=>(ldSl x2.2 p0).bind fun x4=>(Γ (Qo 279) [Qk x4,Qb .i64 0,Qb .i64 (Qa .i64 (x3-1))] x2.2).bind fun x5=>(Γ (Qo 250) [Q2 298 (Qg p0),Qb .i64 0,Qb .i64 (Qa .i64 (x3-1))] x5.2).bind fun x6=>(Q6 x6.1).bind fun x7=>(Γ (Qo 280) [Qg p0] x6.2).bind fun x8=>(AV.asIfc x8.1).bind fun x9=>some (Q2 x9.1 x9.2,x8.2):=by kernel_rfl
theorem Z2w(p0:Ptr)(i1:Int)(b2:Bool) :Qx Qc Γ Qi k Tryz.f228 [Qg p0,Qb .i64 i1,Qp b2] σ=if b2=true then (Γ (Qo 211) [Qg p0] σ).bind fun x3=>(Qs .i64 x3.1).bind fun x4=>(Γ (Qo 224) [Qg p0,Qb .i64 x4] x3.2).bind fun x5=>(Qs .i64 x5.1).bind fun x6=>(Γ (Qo 56) [Qg p0,Qb .i64 i1] x5.2).bind fun x7=>(Qs .i64 x7.1).bind fun x8=>some (Qb .i64 (Qa .i64 (x6+x8)),x7.2) else (Γ (Qo 224) [Qg p0,Qb .i64 i1] σ).bind fun x9=>(Qs .i64 x9.1).bind fun x10=>some (Qb .i64 x10,x9.2):=by kernel_rfl
theorem Z2x(p0:Ptr)(i1:Int) :Qx Qc Γ Qi k Tryz.f229 [Qg p0,Qb .i64 i1] σ=if (!QE p0)=true then if decide (0<=i1)=true then p0.bind fun x2=>(ldInt σ .i64 (Qe (some x2) 1)).bind fun x3=>if 0<=x3 then some (Qp (decide (shrI .i64 i1 x3=0)),σ) else none else some (Qp false,σ) else some (Qp false,σ):=by kernel_rfl
theorem Z2y(p0:Ptr)(i1 i2:Int) :Qx Qc Γ Qi k Tryz.f230 [Qg p0,Qb .i64 i1,Qb .i64 i2] σ=p0.bind fun x3=>(ldSl σ (Qe (some x3) 2)).bind fun x4=>QF (Qap Qc Γ Qi k Tryz.f230 [1,1,0,1,0] [17,16,15,8,2,1,0] ([Qb .i64 0,Qb .i64 (x4.len:Int),Qk x4,Qb .i64 0,Qb .i64 i2,Qb .i64 i1,Qg p0],σ)) (QM Qc Γ Qi k Tryz.f230 [1,1,0,1,0]):=by kernel_rfl
theorem Ziq(i5 i6:Int)(h7:Hdl)(i8 i9 i10:Int)(p11:Ptr) :QD Qc Γ Qi k Tryz.f230 [1,1,0,1,0] [17,16,15,8,2,1,0] ([Qb .i64 i5,Qb .i64 i6,Qk h7,Qb .i64 i8,Qb .i64 i9,Qb .i64 i10,Qg p11],σ)=if decide (i5<i6)=true then if 0<=i5/\i5<(h7.len:Int) then (ldPtr σ (Ql h7 i5 1)).bind fun x12=>p11.bind fun x13=>(ldInt σ .i64 (Qe (some x13) 1)).bind fun x14=>if 0<=Qa .i64 (Qa .i64 (x14-1)-i5) then (Γ (Qo 228) [Qg x12,Qb .i64 i8,Qp (decide (bitOp QaA .i64 (shrI .i64 i10 (Qa .i64 (Qa .i64 (x14-1)-i5))) 1=1))] σ).bind fun x15=>(Qs .i64 x15.1).bind fun x16=>(Γ (Qo 228) [Qg x12,Qb .i64 i9,Qp (decide (bitOp QaA .i64 (shrI .i64 i10 (Qa .i64 (Qa .i64 (x14-1)-i5))) 1=1))] x15.2).bind fun x17=>(Qs .i64 x17.1).bind fun x18=>some (QN ([Qb .i64 (Qa .i64 (i5+1)),Qb .i64 i6,Qk h7,Qb .i64 x16,Qb .i64 x18,Qb .i64 i10,Qg p11],x17.2)) else none else none else some (Q7 (Qm 0,[(8,Qb .i64 i8),(2,Qb .i64 i9)],σ)):=by kernel_rfl
theorem Zoq(i19 i20:Int) :QM Qc Γ Qi k Tryz.f230 [1,1,0,1,0] (Qm 0,[(8,Qb .i64 i19),(2,Qb .i64 i20)],σ)=some (Q4 [Qb .i64 i19,Qb .i64 i20],σ):=by kernel_rfl
theorem Z2z(i0:Int)(p1 p2:Ptr) :Qx Qc Γ Qi k Tryz.f239 [Qb .i64 i0,Qg p1,Qg p2] σ=(ldFn σ p1).bind fun x3=>(callG Γ true (Qo x3.1) (x3.2.1++[Qb .i64 (Qa .i64 (i0+1))]++ x3.2.2) σ).bind fun x4=>(Qs .i64 x4.1).bind fun x5=>(ldInt x4.2 .i64 p2).bind fun x6=>some (Qp (decide (x6<x5)),x4.2):=by kernel_rfl
theorem Z20(p0:Ptr)(i1:Int) :Qx Qc Γ Qi k Tryz.f249 [Q2 298 (Qg p0),Qb .i64 i1] σ=QF (Qap Qc Γ Qi k Tryz.f249 [0] [1,0] ([Qb .i64 i1,Q2 298 (Qg p0)],σ)) (QM Qc Γ Qi k Tryz.f249 [0]):=by kernel_rfl
theorem Zl5(i2:Int)(p3:Ptr) :QD Qc Γ Qi k Tryz.f249 [0] [1,0] ([Qb .i64 i2,Q2 298 (Qg p3)],σ)=if decide (Qa .i64 (Qau (Qa .i64 (i2-1)) 2)=i2)=true then some (Q7 (Qm 0,[],σ)) else (ldSl σ p3).bind fun x4=>(Γ (Qo 278) [Qk x4,Qb .i64 i2,Qb .i64 (Qa .i64 (Qau (Qa .i64 (i2-1)) 2))] σ).bind fun x5=>(Q6 x5.1).bind fun x6=>if (!x6)=true then some (Q7 (Qm 0,[],x5.2)) else (ldSl x5.2 p3).bind fun x7=>(Γ (Qo 279) [Qk x7,Qb .i64 (Qa .i64 (Qau (Qa .i64 (i2-1)) 2)),Qb .i64 i2] x5.2).bind fun x8=>some (QN ([Qb .i64 (Qa .i64 (Qau (Qa .i64 (i2-1)) 2)),Q2 298 (Qg p3)],x8.2)):=by kernel_rfl
theorem Zwy :QM Qc Γ Qi k Tryz.f249 [0] (Qm 0,[],σ)=some (Q4 [],σ):=by kernel_rfl
theorem Z21(p0:Ptr)(i1 i2:Int) :Qx Qc Γ Qi k Tryz.f250 [Q2 298 (Qg p0),Qb .i64 i1,Qb .i64 i2] σ=QF (Qap Qc Γ Qi k Tryz.f250 [1,1,0,0] [7,2,1,0] ([Qb .i64 i1,Qb .i64 i2,Qb .i64 i1,Q2 298 (Qg p0)],σ)) (QM Qc Γ Qi k Tryz.f250 [1,1,0,0]):=by kernel_rfl
theorem Za2(i3 i4 i5:Int)(p6:Ptr) :QD Qc Γ Qi k Tryz.f250 [1,1,0,0] [7,2,1,0] ([Qb .i64 i3,Qb .i64 i4,Qb .i64 i5,Q2 298 (Qg p6)],σ)=if decide (i4<=Qa .i64 (Qa .i64 (2*i3)+1))=true then some (Q7 (Qm 0,[(7,Qb .i64 i3),(1,Qb .i64 i5)],σ)) else if decide (Qa .i64 (Qa .i64 (2*i3)+1)<0)=true then some (Q7 (Qm 0,[(7,Qb .i64 i3),(1,Qb .i64 i5)],σ)) else if decide (Qa .i64 (Qa .i64 (Qa .i64 (2*i3)+1)+1)<i4)=true then (ldSl σ p6).bind fun x7=>(Γ (Qo 278) [Qk x7,Qb .i64 (Qa .i64 (Qa .i64 (Qa .i64 (2*i3)+1)+1)),Qb .i64 (Qa .i64 (Qa .i64 (2*i3)+1))] σ).bind fun x8=>(Q6 x8.1).bind fun x9=>if x9=true then (ldSl x8.2 p6).bind fun x10=>(Γ (Qo 278) [Qk x10,Qb .i64 (Qa .i64 (Qa .i64 (Qa .i64 (2*i3)+1)+1)),Qb .i64 i3] x8.2).bind fun x11=>(Q6 x11.1).bind fun x12=>if (!x12)=true then some (Q7 (Qm 0,[(7,Qb .i64 i3),(1,Qb .i64 i5)],x11.2)) else (ldSl x11.2 p6).bind fun x13=>(Γ (Qo 279) [Qk x13,Qb .i64 i3,Qb .i64 (Qa .i64 (Qa .i64 (Qa .i64 (2*i3)+1)+1))] x11.2).bind fun x14=>some (QN ([Qb .i64 (Qa .i64 (Qa .i64 (Qa .i64 (2*i3)+1)+1)),Qb .i64 i4,Qb .i64 i5,Q2 298 (Qg p6)],x14.2)) else (ldSl x8.2 p6).bind fun x15=>(Γ (Qo 278) [Qk x15,Qb .i64 (Qa .i64 (Qa .i64 (2*i3)+1)),Qb .i64 i3] x8.2).bind fun x16=>(Q6 x16.1).bind fun x17=>if (!x17)=true then some (Q7 (Qm 0,[(7,Qb .i64 i3),(1,Qb .i64 i5)],x16.2)) else (ldSl x16.2 p6).bind fun x18=>(Γ (Qo 279) [Qk x18,Qb .i64 i3,Qb .i64 (Qa .i64 (Qa .i64 (2*i3)+1))] x16.2).bind fun x19=>some (QN ([Qb .i64 (Qa .i64 (Qa .i64 (2*i3)+1)),Qb .i64 i4,Qb .i64 i5,Q2 298 (Qg p6)],x19.2)) else (ldSl σ p6).bind fun x20=>(Γ (Qo 278) [Qk x20,Qb .i64 (Qa .i64 (Qa .i64 (2*i3)+1)),Qb .i64 i3] σ).bind fun x21=>(Q6 x21.1).bind fun x22=>if (!x22)=true then some (Q7 (Qm 0,[(7,Qb .i64 i3),(1,Qb .i64 i5)],x21.2)) else (ldSl x21.2 p6).bind fun x23=>(Γ (Qo 279) [Qk x23,Qb .i64 i3,Qb .i64 (Qa .i64 (Qa .i64 (2*i3)+1))] x21.2).bind fun x24=>some (QN ([Qb .i64 (Qa .i64 (Qa .i64 (2*i3)+1)),Qb .i64 i4,Qb .i64 i5,Q2 298 (Qg p6)],x24.2)):=by kernel_rfl
theorem Zp3(i25 i26:Int) :QM Qc Γ Qi k Tryz.f250 [1,1,0,0] (Qm 0,[(7,Qb .i64 i25),(1,Qb .i64 i26)],σ)=some (Qp (decide (i26<i25)),σ):=by kernel_rfl
theorem Z22(h0:Hdl) :Qx Qc Γ Qi k Tryz.f277 [Qk h0] σ=some (Qb .i64 (h0.len:Int),σ):=by kernel_rfl
theorem Z23(h0:Hdl)(i1 i2:Int) :Qx Qc Γ Qi k Tryz.f278 [Qk h0,Qb .i64 i1,Qb .i64 i2] σ=if 0<=i2/\i2<(h0.len:Int) then (Ql h0 i2 5).bind fun x3=>(ldInt σ .i64 (Qe (some x3) 4)).bind fun x4=>if 0<=i2/\i2<(h0.len:Int) then (Ql h0 i2 5).bind fun x5=>(ldInt σ .i64 (Qe (some x5) 3)).bind fun x6=>if 0<=i1/\i1<(h0.len:Int) then (Ql h0 i1 5).bind fun x7=>(ldInt σ .i64 (Qe (some x7) 4)).bind fun x8=>if 0<=i1/\i1<(h0.len:Int) then (Ql h0 i1 5).bind fun x9=>(ldInt σ .i64 (Qe (some x9) 3)).bind fun x10=>(callG Γ true (Qo 81) [Qb .i64 (Qa .i64 (x4-x6)),Qb .i64 (Qa .i64 (x8-x10))] σ).bind fun x11=>(Qs .i64 x11.1).bind fun x12=>if 0<=i1/\i1<(h0.len:Int) then (Ql h0 i1 5).bind fun x13=>(ldInt x11.2 .i64 (Qe (some x13) 2)).bind fun x14=>if 0<=i2/\i2<(h0.len:Int) then (Ql h0 i2 5).bind fun x15=>(ldInt x11.2 .i64 (Qe (some x15) 2)).bind fun x16=>(Γ (Qo 81) [Qb .i64 x14,Qb .i64 x16] x11.2).bind fun x17=>(Qs .i64 x17.1).bind fun x18=>(Γ (Qo 80) [Qk { a:=some (x17.2.objs.length,0),len:=2,cap:=some 2 }] (push x17.2 [Qb .i64 x12,Qb .i64 x18] 1)).bind fun x19=>(Qs .i64 x19.1).bind fun x20=>some (Qp (decide (x20<0)),x19.2) else none else none else none else none else none else none:=by kernel_rfl
theorem Z24(h0:Hdl)(i1 i2:Int) :Qx Qc Γ Qi k Tryz.f279 [Qk h0,Qb .i64 i1,Qb .i64 i2] σ=if 0<=i2/\i2<(h0.len:Int) then (ldInt σ .i64 (Qe (Ql h0 i2 5) 0)).bind fun x3=>(ldInt σ .i64 (Qe (Ql h0 i2 5) 1)).bind fun x4=>(ldInt σ .i64 (Qe (Ql h0 i2 5) 2)).bind fun x5=>(ldInt σ .i64 (Qe (Ql h0 i2 5) 3)).bind fun x6=>(ldInt σ .i64 (Qe (Ql h0 i2 5) 4)).bind fun x7=>if 0<=i1/\i1<(h0.len:Int) then (ldInt σ .i64 (Qe (Ql h0 i1 5) 0)).bind fun x8=>(ldInt σ .i64 (Qe (Ql h0 i1 5) 1)).bind fun x9=>(ldInt σ .i64 (Qe (Ql h0 i1 5) 2)).bind fun x10=>(ldInt σ .i64 (Qe (Ql h0 i1 5) 3)).bind fun x11=>(ldInt σ .i64 (Qe (Ql h0 i1 5) 4)).bind fun x12=>if 0<=i1/\i1<(h0.len:Int) then (stL σ (Ql h0 i1 5) [Qb .i64 x3,Qb .i64 x4,Qb .i64 x5,Qb .i64 x6,Qb .i64 x7] 0).bind fun x13=>if 0<=i2/\i2<(h0.len:Int) then (stL x13 (Ql h0 i2 5) [Qb .i64 x8,Qb .i64 x9,Qb .i64 x10,Qb .i64 x11,Qb .i64 x12] 0).bind fun x14=>some (Q4 [],x14) else none else none else none else none:=by kernel_rfl
theorem Z25(p0:Ptr) :Qx Qc Γ Qi k Tryz.f280 [Qg p0] σ=p0.bind fun x1=>(ldSl σ (some x1)).bind fun x2=>p0.bind fun x3=>(ldSl σ (some x3)).bind fun x4=>if 0<=Qa .i64 ((x2.len:Int)-1)/\Qa .i64 ((x2.len:Int)-1)<(x4.len:Int) then (ldInt σ .i64 (Qe (Ql x4 (Qa .i64 ((x2.len:Int)-1)) 5) 0)).bind fun x5=>(ldInt σ .i64 (Qe (Ql x4 (Qa .i64 ((x2.len:Int)-1)) 5) 1)).bind fun x6=>(ldInt σ .i64 (Qe (Ql x4 (Qa .i64 ((x2.len:Int)-1)) 5) 2)).bind fun x7=>(ldInt σ .i64 (Qe (Ql x4 (Qa .i64 ((x2.len:Int)-1)) 5) 3)).bind fun x8=>(ldInt σ .i64 (Qe (Ql x4 (Qa .i64 ((x2.len:Int)-1)) 5) 4)).bind fun x9=>(stL (push σ [Qb .i64 0,Qb .i64 0,Qb .i64 0,Qb .i64 0,Qb .i64 0] 5) (some (σ.objs.length,0)) [Qb .i64 x5,Qb .i64 x6,Qb .i64 x7,Qb .i64 x8,Qb .i64 x9] 0).bind fun x10=>p0.bind fun x11=>(ldSl x10 (some x11)).bind fun x12=>(sub x10 x12 5 none (some (Qa .i64 ((x2.len:Int)-1))) none).bind fun x13=>p0.bind fun x14=>(stL x10 (some x14) [Qk x13] 0).bind fun x15=>(ldInt x15 .i64 (Qe (some (σ.objs.length,0)) 0)).bind fun x16=>(ldInt x15 .i64 (Qe (some (σ.objs.length,0)) 1)).bind fun x17=>(ldInt x15 .i64 (Qe (some (σ.objs.length,0)) 2)).bind fun x18=>(ldInt x15 .i64 (Qe (some (σ.objs.length,0)) 3)).bind fun x19=>(ldInt x15 .i64 (Qe (some (σ.objs.length,0)) 4)).bind fun x20=>some (Q2 267 (QK [Qb .i64 x16,Qb .i64 x17,Qb .i64 x18,Qb .i64 x19,Qb .i64 x20]),x15) else none:=by kernel_rfl
theorem Z26(p0:Ptr)(i1 i2 i3 i4 i5:Int) :Qx Qc Γ Qi k Tryz.f281 [Qg p0,Q2 267 (QK [Qb .i64 i1,Qb .i64 i2,Qb .i64 i3,Qb .i64 i4,Qb .i64 i5])] σ=p0.bind fun x6=>(ldSl σ (some x6)).bind fun x7=>(if Qae (AV.cells (if false=true then Q4 [QK [Qb .i64 i1,Qb .i64 i2,Qb .i64 i3,Qb .i64 i4,Qb .i64 i5],Qp true] else QK [Qb .i64 i1,Qb .i64 i2,Qb .i64 i3,Qb .i64 i4,Qb .i64 i5]))=5/\5<=5 then some ([]++ AV.cells (if false=true then Q4 [QK [Qb .i64 i1,Qb .i64 i2,Qb .i64 i3,Qb .i64 i4,Qb .i64 i5],Qp true] else QK [Qb .i64 i1,Qb .i64 i2,Qb .i64 i3,Qb .i64 i4,Qb .i64 i5])) else none).bind fun x8=>(readSl (push σ x8 5) { a:=some (σ.objs.length,0),len:=1,cap:=some 1 } 5).bind fun x9=>(app (push σ x8 5) x7 5 40 x9 1).bind fun x10=>p0.bind fun x11=>(stL x10.2 (some x11) [Qk x10.1] 0).bind fun x12=>some (Q4 [],x12):=by kernel_rfl
end Go.Ab

namespace Go.Ab.Sai
open Go.Ab.Wd Go.Ab.Bs
def hd(t:List Int)(c:Int):Int:=((t.filter fun x=>decide (x<c)).length:Int)
theorem Zh(t:List Int)(c:Int):0<=hd t c:=by unfold hd; omega
theorem Zb0(t:List Int)(c:Int):hd t c<=t.length:=by
 unfold hd
 have:=QY (fun x=>decide (x<c)) t
 omega
theorem Zl9(t:List Int){c d:Int}(h:c<=d):hd t c<=hd t d:=by
 induction t with
 | nil=>simp [hd]
 | cons x t ih=>
  unfold hd at ih ⊢
  by_cases h1:x<c
  ·rw [Qu (by simpa using h1),Qu (by simp; omega)]
   simp only [Qz]; omega
  ·rw [Qv (by simpa using h1)]
   by_cases h2:x<d
   ·rw [Qu (by simpa using h2)]; simp only [Qz]; omega
   ·rw [Qv (by simpa using h2)]; exact ih
theorem Zte{t:List Int}(h:∀ x∈t,0<=x):hd t 0=0:=by
 unfold hd
 rw [Qah.2 fun x hx=>by have:=h x hx; simp; omega]
 rfl
theorem Z45{t:List Int}{k:Int}(h:∀ x∈t,x<k):hd t k=t.length:=by
 unfold hd
 rw [Qaq.2 fun x hx=>by have:=h x hx; simpa using this]
def of(t:List Int)(c:Int):List Int:=(places t.length).filter fun p=>decide (rd t p=c)
theorem Zxt{t:List Int}{c p:Int}:p∈of t c ↔ (0<=p/\p<t.length)/\rd t p=c:=by
 unfold of
 rw [Qal,Zo,decide_eq_true_iff]
theorem Znq(t:List Int)(c:Int):((of t c).length:Int)=hd t (c+1)-hd t c:=by
 have h1:(of t c).length=(t.filter fun x=>decide (x=c)).length:=by
  have e:t=(places t.length).map (rd t):=by
   refine Qag (by simp [places]) fun i h1 h2=>?_
   simp only [places,Qax,Qar]
   exact (Zb h1).symm
  unfold of
  conv=>rhs; rw [e]
  rw [Qam,QC]
  rfl
 rw [h1]
 unfold hd
 induction t with
 | nil=>simp
 | cons x t ih=>
  have ih':=ih (by
   have e:t=(places t.length).map (rd t):=by
    refine Qag (by simp [places]) fun i h1 h2=>?_
    simp only [places,Qax,Qar]
    exact (Zb h1).symm
   unfold of
   conv=>rhs; rw [e]
   rw [Qam,QC]
   rfl)
  rcases Qw x c with h | h | h
  ·rw [Qv (by simp; omega),Qu (p:=fun x=>decide (x<c+1)) (by simp; omega),Qu (p:=fun x=>decide (x<c)) (by simpa using h)]
   simp only [Qz]; omega
  ·rw [Qu (by simpa using h),Qu (p:=fun x=>decide (x<c+1)) (by simp; omega),Qv (p:=fun x=>decide (x<c)) (by simp; omega)]
   simp only [Qz]; omega
  ·rw [Qv (by simp; omega),Qv (p:=fun x=>decide (x<c+1)) (by simp; omega),Qv (p:=fun x=>decide (x<c)) (by simp; omega)]
   exact ih'
theorem Zjc{t l:List Int}{c:Int}(hn:l.Nodup)(h:∀ p∈l,(0<=p/\p<t.length)/\rd t p=c):(l.length:Int)<=hd t (c+1)-hd t c:=by
 rw [<-Znq]
 have:=Zu hn (m:=of t c) fun p hp=>Zxt.2 (h p hp)
 omega
theorem Zpb{t l:List Int}{c:Int}(h:∀ p:Int,0<=p->p<t.length->rd t p=c->p∈l):hd t (c+1)-hd t c<=l.length:=by
 rw [<-Znq]
 have:=Zu (l:=of t c) ((Zaw _).filter _) (m:=l) fun p hp=>by
  have:=Zxt.1 hp
  exact h p this.1.1 this.1.2 this.2
 omega
theorem Zwl(t:List Int){j:Int}(j0:0<=j)(h0:∀ x∈t,0<=x)(k:Nat)(h1:j<hd t k):∃ c:Int,0<=c/\c<k/\hd t c<=j/\j<hd t (c+1):=by
 induction k with
 | zero=>have:=Zte h0; rw [show ((0:Nat):Int)=0 from rfl] at h1; omega
 | succ k ih=>
  by_cases h:j<hd t k
  ·obtain⟨c,c0,c1,c2,c3⟩:=ih h
   exact⟨c,c0,by omega,c2,c3⟩
  ·exact⟨k,by omega,by omega,by omega,h1⟩
def seg(l:List Int)(a b:Int):List Int:=(Qas (b-a).toNat).map fun i:Nat=>rd l (a+i)
theorem seg_length(l:List Int)(a b:Int):(seg l a b).length=(b-a).toNat:=by simp [seg]
theorem Z1{l:List Int}{a b x:Int}:x∈seg l a b ↔ ∃ j:Int,a<=j/\j<b/\rd l j=x:=by
 simp only [seg,Qai,Qa5]
 constructor
 ·rintro⟨i,hi,rfl⟩; exact⟨a+i,by omega,by omega,rfl⟩
 ·rintro⟨j,h0,h1,rfl⟩; exact⟨(j-a).toNat,by omega,by rw [show a+((j-a).toNat:Int)=j by omega]⟩
theorem Zez{l:List Int}{a b:Int}(h:∀ i j:Int,a<=i->i<j->j<b->rd l i≠rd l j):(seg l a b).Nodup:=by
 unfold seg Qat
 rw [QR]
 have:(Qas (b-a).toNat).Pairwise (· < ·):=Qaj
 refine this.imp_of_mem ?_
 intro i j hi hj hij
 rw [Qa5] at hi hj
 exact h _ _ (by omega) (by omega) (by omega)
def S(short:List Bool)(p:Int):Bool:=rdOf false short p
structure Short (t:List Int) (short:List Bool):Prop where
 len:short.length=t.length
 last:S short (t.length-1)=false
 step:∀ p:Int,0<=p->p+1<t.length->S short p=(decide (rd t p<rd t (p+1)) || (decide (rd t p=rd t (p+1))&&S short (p+1)))
theorem Short.yes{t:List Int}{short:List Bool}(h:Short t short){p:Int}(p0:0<=p)(p1:p<t.length)(hs:S short p=true):p+1<t.length/\(rd t p<rd t (p+1)\/(rd t p=rd t (p+1)/\S short (p+1)=true)):=by
 have hlt:p+1<t.length:=by
  apply Qj
  intro hn
  have e:p=t.length-1:=by omega
  rw [e,h.last] at hs
  simp at hs
 have:=h.step p p0 hlt
 rw [hs] at this
 refine⟨hlt,?_⟩
 by_cases c:rd t p<rd t (p+1)
 ·exact .inl c
 ·simp [c] at this
  exact .inr this
theorem Short.no{t:List Int}{short:List Bool}(h:Short t short){p:Int}(p0:0<=p)(p1:p+1<t.length)(hs:S short p=false):rd t (p+1)<rd t p\/(rd t p=rd t (p+1)/\S short (p+1)=false):=by
 have:=h.step p p0 p1
 rw [hs] at this
 simp at this
 by_cases c:rd t p=rd t (p+1)
 ·exact .inr ⟨c,this.2 c⟩
 ·exact .inl (by omega)
def Lf(short:List Bool)(p:Int):Prop:=0<p/\S short p=true/\S short (p-1)=false
def code(t:List Int)(short:List Bool)(p:Int):Int:=2*rd t p+if S short p=true then 1 else 0
theorem Zll{t:List Int}{short:List Bool}{p:Int}(h:S short p=false):code t short p=2*rd t p:=by unfold code; rw [h]; simp
theorem Zb3{t:List Int}{short:List Bool}{p:Int}(h:S short p=true):code t short p=2*rd t p+1:=by unfold code; rw [h]; simp
structure Keys (t:List Int) (short:List Bool) (A B:Int->List Int):Prop where
 An:A t.length=[]
 AL:∀ p:Int,0<=p->p<t.length->S short p=false->A p=code t short p::A (p+1)
 AM:∀ p:Int,0<=p->p<t.length->Lf short p->∃ r,A p=code t short p::r
 BL:∀ p:Int,0<=p->p<t.length->S short p=false->B p=A p
 BS:∀ p:Int,0<=p->p<t.length->S short p=true->B p=code t short p::B (p+1)
def le(a b:List Int):Prop:=¬ llt b a
theorem le_refl(a:List Int):le a a:=Zch a
theorem Z49(a:List Int):le [] a:=by unfold le; cases a <;> simp [llt]
theorem Ztm{x:Int}{a b:List Int}(h:le a b):le (x::a) (x::b):=by unfold le at h ⊢; simp only [llt]; rintro (h1 | ⟨_,h1⟩); omega; exact h h1
theorem Zcs{x y:Int}{a b:List Int}(h:x<y):le (x::a) (y::b):=by unfold le; simp only [llt]; rintro (h1 | ⟨h1,_⟩) <;> omega
theorem Zxm{a b:List Int}(h:llt a b):le a b:=Zhl h
end Go.Ab.Sai

namespace Go.Ab.Sai
open Go.Ab.Wd Go.Ab.Bs
abbrev St:=List Int×List Int
def down(t:List Int)(st:St)(p:Int):Option St:=
 if 0<=p/\p<t.length/\0<=rd t p/\rd t p<st.2.length/\0<=rd st.2 (rd t p)-1/\rd st.2 (rd t p)-1<st.1.length then
  some (st.1.set (rd st.2 (rd t p)-1).toNat p,st.2.set (rd t p).toNat (rd st.2 (rd t p)-1)) else none
def upw(t:List Int)(st:St)(p:Int):Option St:=
 if 0<=p/\p<t.length/\0<=rd t p/\rd t p<st.2.length/\0<=rd st.2 (rd t p)/\rd st.2 (rd t p)<st.1.length then
  some (st.1.set (rd st.2 (rd t p)).toNat p,st.2.set (rd t p).toNat (rd st.2 (rd t p)+1)) else none
def put(t:List Int)(short:List Bool)(st:St)(p:Int):Option St:=
 if 0<=p then (if p<short.length then (if S short p=true then some st else upw t st p) else none) else some st
def pass1(t:List Int):List Int->St->Option St
 | [],st=>some st
 | p::ps,st=>(down t st p).bind (pass1 t ps)
def pass2(t:List Int)(short:List Bool):Nat->Int->St->Option St
 | 0,_,st=>some st
 | m+1,i,st=>if 0<rd st.1 i then (put t short st (rd st.1 i-1)).bind (pass2 t short m (i+1)) else pass2 t short m (i+1) st
def pass3(t:List Int)(short:List Bool):Nat->Int->St->Option St
 | 0,_,st=>some st
 | m+1,i,st=>
  if 0<=rd st.1 i-1 then (if rd st.1 i-1<short.length then (if S short (rd st.1 i-1)=true then (down t st (rd st.1 i-1)).bind (pass3 t short m (i-1)) else pass3 t short m (i-1) st) else none)
  else pass3 t short m (i-1) st
def heads(t:List Int)(k:Nat):List Int:=(Qas k).map fun c:Nat=>hd t c
def tails(t:List Int)(k:Nat):List Int:=(Qas k).map fun c:Nat=>hd t (c+1)
def induce(t:List Int)(short:List Bool)(k:Nat)(some_:List Int):Option (List Int):=
 (pass1 t some_.reverse (Qf t.length (-1),tails t k)).bind fun st=>
  (put t short (st.1,heads t k) (t.length-1)).bind fun st=>
   (pass2 t short t.length 0 st).bind fun st=>
    (pass3 t short t.length (t.length-1) (st.1,tails t k)).map (·.1)
theorem Zhd(t:List Int)(k:Nat):(heads t k).length=k:=by simp [heads]
theorem Zel(t:List Int)(k:Nat):(tails t k).length=k:=by simp [tails]
theorem Zee(t:List Int)(k:Nat){c:Int}(c0:0<=c)(c1:c<k):rd (heads t k) c=hd t c:=by
 obtain⟨c,rfl⟩:=Qh c0
 rw [Zb (by rw [Zhd]; omega)]
 simp [heads]
theorem Zcx(t:List Int)(k:Nat){c:Int}(c0:0<=c)(c1:c<k):rd (tails t k) c=hd t (c+1):=by
 obtain⟨c,rfl⟩:=Qh c0
 rw [Zb (by rw [Zel]; omega)]
 simp [tails]
structure Base (t:List Int) (short:List Bool) (k:Nat) (A B:Int->List Int):Prop where
 pos:0<t.length
 rng:∀ x∈t,0<=x/\x<k
 sh:Short t short
 keys:Keys t short A B
variable {t:List Int} {short:List Bool} {k:Nat} {A B:Int->List Int}
theorem Base.at_(b:Base t short k A B){p:Int}(p0:0<=p)(p1:p<t.length):0<=rd t p/\rd t p<k:=b.rng _ (Ze p0 p1)
theorem Base.bucket(b:Base t short k A B){j:Int}(j0:0<=j)(j1:j<t.length):∃ c:Int,0<=c/\c<k/\hd t c<=j/\j<hd t (c+1):=
 Zwl t j0 (fun x hx=>(b.rng x hx).1) k (by rw [Z45 fun x hx=>(b.rng x hx).2]; exact j1)
theorem Zk(t:List Int){c d:Int}(h:c<d):hd t (c+1)<=hd t d:=Zl9 t (by omega)
def cnt(t:List Int)(l:List Int)(c:Int):Int:=((l.filter fun p=>decide (rd t p=c)).length:Int)
theorem Z0(t l:List Int)(c:Int):0<=cnt t l c:=by unfold cnt; omega
theorem cnt_cons(t:List Int)(p:Int)(l:List Int)(c:Int):cnt t (p::l) c=cnt t l c+if rd t p=c then 1 else 0:=by
 unfold cnt
 by_cases h:rd t p=c
 ·rw [Qu (by simpa using h),if_pos h]; simp only [Qz]; omega
 ·rw [Qv (by simpa using h),if_neg h]; omega
structure Seeds (t:List Int) (k:Nat) (l:List Int) (st:St):Prop where
 l1:st.1.length=t.length
 l2:st.2.length=k
 tl:∀ c:Int,0<=c->c<k->rd st.2 c=hd t (c+1)-cnt t l c
 there:∀ p∈l,∃ j:Int,hd t (rd t p+1)-cnt t l (rd t p)<=j/\j<hd t (rd t p+1)/\rd st.1 j=p
 seed:∀ c:Int,0<=c->c<k->∀ j:Int,hd t (c+1)-cnt t l c<=j->j<hd t (c+1)->rd st.1 j∈l/\rd t (rd st.1 j)=c
 ord:∀ c:Int,0<=c->c<k->∀ i j:Int,hd t (c+1)-cnt t l c<=i->i<j->j<hd t (c+1)->∃ a b,l=a++rd st.1 i::b/\rd st.1 j∈b
 free:∀ j:Int,0<=j->j<t.length->(∀ c:Int,0<=c->c<k->hd t c<=j->j<hd t (c+1)->j<hd t (c+1)-cnt t l c)->rd st.1 j=-1
theorem cnt_le(b:Base t short k A B){l:List Int}(hn:l.Nodup)(h:∀ p∈l,0<=p/\p<t.length)(c:Int):cnt t l c<=hd t (c+1)-hd t c:=by
 unfold cnt
 refine Zjc (hn.filter _) fun p hp=>?_
 rw [Qal,decide_eq_true_iff] at hp
 exact⟨h p hp.1,hp.2⟩
theorem pass1_spec(b:Base t short k A B):∀ (l done:List Int) (st:St),(l.reverse++done).Nodup->(∀ p∈l.reverse++done,0<=p/\p<t.length)->Seeds t k done st->∃ st',pass1 t l st=some st'/\Seeds t k (l.reverse++done) st'
 | [],done,st,_,_,h=>⟨st,rfl,by simpa using h⟩
 | p::l,done,st,hn,hr,h=>by
  have hp:=hr p (by simp)
  have e:(p::l).reverse++done=l.reverse++(p::done):=by simp
  rw [e] at hn hr ⊢
  have hn2:(p::done).Nodup:=(QA.1 hn).2.1
  have hr2:∀ q∈p::done,0<=q/\q<t.length:=fun q hq=>hr q (List.mem_append_right _ hq)
  obtain⟨c0,c1⟩:=b.at_ hp.1 hp.2
  obtain⟨c,hc⟩:∃ c,rd t p=c:=⟨_,rfl⟩
  rw [hc] at c0 c1
  have hle:=cnt_le b hn2 hr2 c
  rw [cnt_cons,if_pos hc] at hle
  have hnn:=Z0 t done c
  have hh:=Zh t c
  have ht:=Zb0 t (c+1)
  have htl:=h.tl c c0 c1
  have hJ:0<=rd st.2 c-1/\rd st.2 c-1<t.length:=by omega
  have hd1:down t st p=some (st.1.set (rd st.2 c-1).toNat p,st.2.set c.toNat (rd st.2 c-1)):=by
   unfold down
   rw [hc,if_pos ⟨hp.1,hp.2,c0,by rw [h.l2]; exact c1,hJ.1,by rw [h.l1]; exact hJ.2⟩]
  obtain⟨J,hJe⟩:∃ J,rd st.2 c-1=J:=⟨_,rfl⟩
  rw [hJe] at hd1 hJ
  have hcc:∀ d:Int,cnt t (p::done) d=cnt t done d+if c=d then 1 else 0:=fun d=>by rw [cnt_cons,hc]
  have hrd:∀ j:Int,0<=j->rd (st.1.set J.toNat p) j=if J=j then p else rd st.1 j:=fun j j0=>Zs hJ.1 (by rw [h.l1]; exact hJ.2) j0
  have hpd:p ∉ done:=(QQ.1 hn2).1
  have hbk:∀ d:Int,c≠d->0<=d->d<k->∀ j:Int,hd t d<=j->j<hd t (d+1)->J≠j:=by
   intro d hne d0 d1 j j0 j1 e
   rcases Qw c d with hl | hl | hl
   ·have:=Zk t hl; omega
   ·exact hne hl
   ·have:=Zk t hl; omega
  have h':Seeds t k (p::done) (st.1.set J.toNat p,st.2.set c.toNat J):=by
   refine⟨by simpa using h.l1,by simpa using h.l2,?_,?_,?_,?_,?_⟩
   ·intro d d0 d1
    rw [Zs c0 (by rw [h.l2]; exact c1) d0,hcc]
    by_cases e:c=d
    ·subst e; rw [if_pos rfl,if_pos rfl]; omega
    ·rw [if_neg e,if_neg e,h.tl d d0 d1]; omega
   ·intro q hq
    rcases Qa7.1 hq with rfl | hq
    ·exact⟨J,by rw [hc,hcc,if_pos rfl]; omega,by rw [hc]; omega,by rw [hrd J hJ.1,if_pos rfl]⟩
    ·obtain⟨j,j0,j1,e⟩:=h.there q hq
     have hq1:=hr2 q (QT _ hq)
     have hqc:=b.at_ hq1.1 hq1.2
     have hqn:=Z0 t done (rd t q)
     have hlq:=cnt_le b (QQ.1 hn2).2 (fun x hx=>hr2 x (QT _ hx)) (rd t q)
     have hh0:=Zh t (rd t q)
     refine⟨j,by rw [hcc]; split <;> omega,j1,?_⟩
     rw [hrd j (by omega),if_neg ?_,e]
     intro e'
     by_cases ec:c=rd t q
     ·rw [<-ec] at j0; omega
     ·exact hbk _ ec hqc.1 hqc.2 j (by omega) j1 e'
   ·intro d d0 d1 j j0 j1
    rw [hcc] at j0
    have hln:=Z0 t done d
    have hld:=cnt_le b (QQ.1 hn2).2 (fun x hx=>hr2 x (QT _ hx)) d
    have hh0:=Zh t d
    by_cases ej:J=j
    ·have ed:c=d:=by
      apply Qj
      intro hne
      rw [if_neg hne] at j0
      exact hbk d hne d0 d1 j (by omega) j1 ej
     subst ed
     show rd (st.1.set J.toNat p) j∈_/\_
     rw [hrd j (by omega),if_pos ej]
     exact⟨List.mem_cons_self ..,hc⟩
    ·have hj:hd t (d+1)-cnt t done d<=j:=by
      by_cases ed:c=d
      ·subst ed; rw [if_pos rfl] at j0; omega
      ·rw [if_neg ed] at j0; omega
     show rd (st.1.set J.toNat p) j∈_/\rd t (rd (st.1.set J.toNat p) j)=d
     rw [hrd j (by omega),if_neg ej]
     have:=h.seed d d0 d1 j hj j1
     exact⟨List.mem_cons_of_mem _ this.1,this.2⟩
   ·intro d d0 d1 i j i0 hij j1
    rw [hcc] at i0
    have hln:=Z0 t done d
    have hld:=cnt_le b (QQ.1 hn2).2 (fun x hx=>hr2 x (QT _ hx)) d
    have hh0:=Zh t d
    show ∃ a b,p::done=a++rd (st.1.set J.toNat p) i::b/\rd (st.1.set J.toNat p) j∈b
    have hlow:c=d->hd t (d+1)-cnt t done d-1=J:=fun ed=>by subst ed; omega
    have hjn:J≠j:=by
     intro e
     by_cases ed:c=d
     ·have:=hlow ed; rw [if_pos ed] at i0; omega
     ·rw [if_neg ed] at i0; exact hbk d ed d0 d1 j (by omega) j1 e
    have hj2:hd t (d+1)-cnt t done d<=j:=by
     by_cases ed:c=d
     ·rw [if_pos ed] at i0; omega
     ·rw [if_neg ed] at i0; omega
    rw [hrd i (by split at i0 <;> omega),hrd j (by omega),if_neg hjn]
    by_cases ei:J=i
    ·rw [if_pos ei]
     exact⟨[],done,rfl,(h.seed d d0 d1 j hj2 j1).1⟩
    ·rw [if_neg ei]
     have hi2:hd t (d+1)-cnt t done d<=i:=by
      by_cases ed:c=d
      ·have:=hlow ed; rw [if_pos ed] at i0; omega
      ·rw [if_neg ed] at i0; omega
     obtain⟨x,y,e1,e2⟩:=h.ord d d0 d1 i j hi2 hij j1
     exact⟨p::x,y,by rw [e1]; rfl,e2⟩
   ·intro j j0 j1 hf
    show rd (st.1.set J.toNat p) j=-1
    have hne:J≠j:=by
     intro e
     have:=hf c c0 c1 (by omega) (by omega)
     rw [hcc,if_pos rfl] at this
     omega
    rw [hrd j j0,if_neg hne]
    refine h.free j j0 j1 fun d d0 d1 k0 k1=>?_
    have:=hf d d0 d1 k0 k1
    rw [hcc] at this
    split at this <;> omega
  obtain⟨st',hs,hS⟩:=pass1_spec b l (p::done) _ hn hr h'
  exact⟨st',by simp only [pass1]; rw [hd1]; exact hs,hS⟩
theorem Zsh:Seeds t k [] (Qf t.length (-1),tails t k):=by
 refine⟨by simp,Zel t k,fun c c0 c1=>?_,fun p hp=>by simp at hp,fun c c0 c1 j j0 j1=>?_,fun c c0 c1 i j i0 hij j1=>?_,fun j j0 j1 _=>?_⟩
 ·show rd (tails t k) c=_
  rw [Zcx t k c0 c1]
  simp [cnt]
 ·simp [cnt] at j0; omega
 ·simp [cnt] at i0; omega
 ·show rd (Qf t.length (-1)) j=-1
  obtain⟨j,rfl⟩:=Qh j0
  rw [Zb (by simp; omega)]
  simp
end Go.Ab.Sai

namespace Go.Ab.Sai
open Go.Ab.Wd Go.Ab.Bs
variable {t:List Int} {short:List Bool} {k:Nat} {A B:Int->List Int}
structure Q (t:List Int) (short:List Bool) (k:Nat) (A:Int->List Int) (l:List Int) (st:St):Prop where
 l1:st.1.length=t.length
 l2:st.2.length=k
 hlo:∀ c:Int,0<=c->c<k->hd t c<=rd st.2 c/\rd st.2 c<=hd t (c+1)-cnt t l c
 low:∀ c:Int,0<=c->c<k->∀ j:Int,hd t c<=j->j<rd st.2 c->(0<=rd st.1 j/\rd st.1 j<t.length)/\S short (rd st.1 j)=false/\rd t (rd st.1 j)=c
 seed:∀ c:Int,0<=c->c<k->∀ j:Int,hd t (c+1)-cnt t l c<=j->j<hd t (c+1)->rd st.1 j∈l/\rd t (rd st.1 j)=c
 there:∀ p∈l,∃ j:Int,0<=j/\j<t.length/\rd st.1 j=p
 free:∀ c:Int,0<=c->c<k->∀ j:Int,rd st.2 c<=j->j<hd t (c+1)-cnt t l c->rd st.1 j=-1
 inj:∀ i j:Int,0<=i->i<j->j<t.length->0<=rd st.1 i->rd st.1 i≠rd st.1 j
 ord:∀ i j:Int,0<=i->i<j->j<t.length->0<=rd st.1 i->0<=rd st.1 j->le (A (rd st.1 i)) (A (rd st.1 j))
structure Lefts (t:List Int) (short:List Bool) (l:List Int):Prop where
 nd:l.Nodup
 mem:∀ p:Int,p∈l ↔ (0<=p/\p<t.length)/\Lf short p
theorem Q.loc(b:Base t short k A B){l:List Int}(hl:Lefts t short l){st:St}(q:Q t short k A l st){j:Int}(j0:0<=j)(j1:j<t.length)(hv:0<=rd st.1 j) :
  ∃ c:Int,0<=c/\c<k/\hd t c<=j/\j<hd t (c+1)/\rd t (rd st.1 j)=c/\rd st.1 j<t.length/\((S short (rd st.1 j)=false/\j<rd st.2 c)\/(rd st.1 j∈l/\rd st.2 c<=j/\S short (rd st.1 j)=true)):=by
 obtain⟨c,c0,c1,h0,h1⟩:=b.bucket j0 j1
 have hh:=q.hlo c c0 c1
 refine⟨c,c0,c1,h0,h1,?_⟩
 by_cases e1:j<rd st.2 c
 ·have:=q.low c c0 c1 j h0 e1
  exact⟨this.2.2,this.1.2,.inl ⟨this.2.1,e1⟩⟩
 by_cases e2:j<hd t (c+1)-cnt t l c
 ·have:=q.free c c0 c1 j (by omega) e2
  omega
 have:=q.seed c c0 c1 j (by omega) h1
 have hm:=(hl.mem _).1 this.1
 exact⟨this.2,hm.1.2,.inr ⟨this.1,by omega,hm.2.2.1⟩⟩
theorem Zz1(b:Base t short k A B){l:List Int}(hl:Lefts t short l){p:Int}(p0:0<=p)(p1:p<t.length)(h:S short p=false\/p∈l):∃ r,A p=code t short p::r:=by
 rcases h with h | h
 ·exact⟨_,b.keys.AL p p0 p1 h⟩
 ·exact b.keys.AM p p0 p1 ((hl.mem p).1 h).2
theorem Q.add(b:Base t short k A B){l:List Int}(hl:Lefts t short l){st:St}(q:Q t short k A l st){p:Int}(p0:0<=p)(p1:p<t.length)(hs:S short p=false)
  (hnew:∀ j:Int,0<=j->j<t.length->rd st.1 j≠p)
  (hord:∀ j:Int,0<=j->j<t.length->0<=rd st.1 j->S short (rd st.1 j)=false->rd t (rd st.1 j)=rd t p->le (A (rd st.1 j+1)) (A (p+1))) :
  ∃ J:Int,rd st.2 (rd t p)=J/\0<=J/\J<t.length/\rd st.1 J=-1/\upw t st p=some (st.1.set J.toNat p,st.2.set (rd t p).toNat (J+1))/\Q t short k A l (st.1.set J.toNat p,st.2.set (rd t p).toNat (J+1)):=by
 obtain⟨c0,c1⟩:=b.at_ p0 p1
 obtain⟨c,hc⟩:∃ c,rd t p=c:=⟨_,rfl⟩
 rw [hc] at c0 c1 ⊢
 obtain⟨J,hJ⟩:∃ J,rd st.2 c=J:=⟨_,rfl⟩
 have hh:=q.hlo c c0 c1
 rw [hJ] at hh
 have hn0:=Zh t c
 have hn1:=Zb0 t (c+1)
 have hcn:=Z0 t l c
 have hroom:J<hd t (c+1)-cnt t l c:=by
  have hcount:=Zjc (t:=t) (c:=c) (l:=(seg st.1 (hd t c) J++seg st.1 (hd t (c+1)-cnt t l c) (hd t (c+1)))++[p]) ?_ ?_
  ·simp only [QV,seg_length,Qz,Qa1] at hcount
   omega
  ·refine QA.2 ⟨List.nodup_append.2 ⟨Zez fun i j i0 hij j1=>?_,Zez fun i j i0 hij j1=>?_,?_⟩,by simp,?_⟩
   ·exact q.inj i j (by omega) hij (by omega) (q.low c c0 c1 i i0 (by omega)).1.1
   ·have:=(hl.mem _).1 (q.seed c c0 c1 i i0 (by omega)).1
    exact q.inj i j (by omega) hij (by omega) this.1.1
   ·intro x hx y hy e
    obtain⟨i,i0,i1,rfl⟩:=Z1.1 hx
    obtain⟨j,j0,j1,rfl⟩:=Z1.1 hy
    exact q.inj i j (by omega) (by omega) (by omega) (q.low c c0 c1 i i0 (by omega)).1.1 e
   ·intro x hx y hy e
    rw [Qq] at hy
    rw [hy] at e
    rcases Qr.1 hx with hx | hx
    ·obtain⟨i,i0,i1,rfl⟩:=Z1.1 hx
     exact hnew i (by omega) (by omega) e
    ·obtain⟨i,i0,i1,rfl⟩:=Z1.1 hx
     exact hnew i (by omega) (by omega) e
  ·intro x hx
   rcases Qr.1 hx with hx | hx
   ·rcases Qr.1 hx with hx | hx
    ·obtain⟨i,i0,i1,rfl⟩:=Z1.1 hx
     have:=q.low c c0 c1 i i0 (by omega)
     exact⟨this.1,this.2.2⟩
    ·obtain⟨i,i0,i1,rfl⟩:=Z1.1 hx
     have:=q.seed c c0 c1 i i0 (by omega)
     exact⟨((hl.mem _).1 this.1).1,this.2⟩
   ·rw [Qq] at hx
    rw [hx]
    exact⟨⟨p0,p1⟩,hc⟩
 have J0:0<=J:=by omega
 have J1:J<t.length:=by omega
 have hfree:=q.free c c0 c1 J (by omega) hroom
 have hrd:∀ j:Int,0<=j->rd (st.1.set J.toNat p) j=if J=j then p else rd st.1 j:=fun j j0=>Zs J0 (by rw [q.l1]; exact J1) j0
 have hrh:∀ d:Int,0<=d->rd (st.2.set c.toNat (J+1)) d=if c=d then J+1 else rd st.2 d:=fun d d0=>Zs c0 (by rw [q.l2]; exact c1) d0
 have hbk:∀ d:Int,c≠d->∀ j:Int,hd t d<=j->j<hd t (d+1)->J≠j:=by
  intro d hne j j0 j1 e
  rcases Qw c d with hlt | hlt | hlt
  ·have:=Zk t hlt; omega
  ·exact hne hlt
  ·have:=Zk t hlt; omega
 refine⟨J,hJ,J0,J1,hfree,?_,?_⟩
 ·unfold upw
  rw [hc,hJ,if_pos ⟨p0,p1,c0,by rw [q.l2]; exact c1,J0,by rw [q.l1]; exact J1⟩]
 have hall:∀ j:Int,0<=j->j<t.length->0<=rd st.1 j->(j<J->le (A (rd st.1 j)) (A p))/\(J<j->le (A p) (A (rd st.1 j))):=by
  intro j j0 j1 hv
  obtain⟨d,d0,d1,b0,b1,ht,hlt,hcase⟩:=q.loc b hl j0 j1 hv
  have hk1:=Zz1 b hl hv hlt (hcase.elim (fun h=>.inl h.1) (fun h=>.inr h.1))
  have hk2:=b.keys.AL p p0 p1 hs
  obtain⟨r,hr⟩:=hk1
  have hcp:=Zll (t:=t) hs
  have hcj:2*d<=code t short (rd st.1 j)/\code t short (rd st.1 j)<=2*d+1:=by
   unfold code; rw [ht]; split <;> omega
  constructor
  ·intro hj
   rcases Qw d c with hdc | hdc | hdc
   ·rw [hr,hk2]
    exact Zcs (by rw [hcp,hc]; omega)
   ·subst hdc
    rcases hcase with ⟨h1,h2⟩ | ⟨h1,h2,h3⟩
    ·rw [b.keys.AL _ hv hlt h1,hk2,Zll h1,hcp,ht,hc]
     exact Ztm (hord j j0 j1 hv h1 (by rw [ht,hc]))
    ·omega
   ·have:=Zk t hdc
    omega
  ·intro hj
   rcases Qw d c with hdc | hdc | hdc
   ·have:=Zk t hdc
    omega
   ·subst hdc
    rcases hcase with ⟨h1,h2⟩ | ⟨h1,h2,h3⟩
    ·omega
    ·rw [hr,hk2]
     exact Zcs (by rw [hcp,hc,Zb3 h3,ht]; omega)
   ·rw [hr,hk2]
    exact Zcs (by rw [hcp,hc]; omega)
 refine⟨by simpa using q.l1,by simpa using q.l2,?_,?_,?_,?_,?_,?_,?_⟩
 ·intro d d0 d1
  show hd t d<=rd (st.2.set c.toNat (J+1)) d/\_
  rw [hrh d d0]
  by_cases e:c=d
  ·subst e; rw [if_pos rfl]; omega
  ·rw [if_neg e]; exact q.hlo d d0 d1
 ·intro d d0 d1 j j0 j1
  show (0<=rd (st.1.set J.toNat p) j/\rd (st.1.set J.toNat p) j<t.length)/\S short (rd (st.1.set J.toNat p) j)=false/\rd t (rd (st.1.set J.toNat p) j)=d
  have hd0:=Zh t d
  rw [hrd j (by omega)]
  have j1':j<rd (st.2.set c.toNat (J+1)) d:=j1
  rw [hrh d d0] at j1'
  by_cases ej:J=j
  ·have e:c=d:=by
    apply Qj
    intro hne
    rw [if_neg hne] at j1'
    have:=q.hlo d d0 d1
    have:=Z0 t l d
    exact hbk d hne j j0 (by omega) ej
   rw [if_pos ej]
   exact⟨⟨p0,p1⟩,hs,by rw [hc,e]⟩
  ·rw [if_neg ej]
   by_cases e:c=d
   ·subst e; rw [if_pos rfl] at j1'; exact q.low c d0 d1 j j0 (by omega)
   ·rw [if_neg e] at j1'; exact q.low d d0 d1 j j0 j1'
 ·intro d d0 d1 j j0 j1
  show rd (st.1.set J.toNat p) j∈l/\rd t (rd (st.1.set J.toNat p) j)=d
  have hh2:=q.hlo d d0 d1
  have hd0:=Zh t d
  rw [hrd j (by omega),if_neg ?_]
  ·exact q.seed d d0 d1 j j0 j1
  ·intro e
   by_cases ed:c=d
   ·subst ed; omega
   ·exact hbk d ed j (by omega) j1 e
 ·intro x hx
  obtain⟨j,j0,j1,e⟩:=q.there x hx
  refine⟨j,j0,j1,?_⟩
  show rd (st.1.set J.toNat p) j=x
  rw [hrd j j0,if_neg ?_]
  ·exact e
  ·intro e'
   have:=((hl.mem x).1 hx).1
   rw [<-e',hfree] at e
   omega
 ·intro d d0 d1 j j0 j1
  show rd (st.1.set J.toNat p) j=-1
  have j0':rd (st.2.set c.toNat (J+1)) d<=j:=j0
  rw [hrh d d0] at j0'
  have hh2:=q.hlo d d0 d1
  have hd0:=Zh t d
  have hcd:=Z0 t l d
  by_cases e:c=d
  ·subst e
   rw [if_pos rfl] at j0'
   rw [hrd j (by omega),if_neg (by omega)]
   exact q.free c d0 d1 j (by omega) j1
  ·rw [if_neg e] at j0'
   rw [hrd j (by omega),if_neg fun e'=>hbk d e j (by omega) (by omega) e']
   exact q.free d d0 d1 j j0' j1
 ·intro i j i0 hij j1 hv
  show rd (st.1.set J.toNat p) i≠rd (st.1.set J.toNat p) j
  have hv':0<=rd (st.1.set J.toNat p) i:=hv
  rw [hrd i i0] at hv' ⊢
  rw [hrd j (by omega)]
  by_cases e1:J=i
  ·rw [if_pos e1,if_neg (by omega)]
   exact fun e=>hnew j (by omega) j1 e.symm
  ·rw [if_neg e1] at hv' ⊢
   by_cases e2:J=j
   ·rw [if_pos e2]
    exact hnew i i0 (by omega)
   ·rw [if_neg e2]
    exact q.inj i j i0 hij j1 hv'
 ·intro i j i0 hij j1 hv hw
  show le (A (rd (st.1.set J.toNat p) i)) (A (rd (st.1.set J.toNat p) j))
  have hv':0<=rd (st.1.set J.toNat p) i:=hv
  have hw':0<=rd (st.1.set J.toNat p) j:=hw
  rw [hrd i i0] at hv' ⊢
  rw [hrd j (by omega)] at hw' ⊢
  by_cases e1:J=i
  ·rw [if_neg (show ¬ J=j by omega)] at hw' ⊢
   rw [if_pos e1]
   exact (hall j (by omega) j1 hw').2 (by omega)
  ·rw [if_neg e1] at hv' ⊢
   by_cases e2:J=j
   ·rw [if_pos e2]
    exact (hall i i0 (by omega) hv').1 (by omega)
   ·rw [if_neg e2] at hw' ⊢
    exact q.ord i j i0 hij j1 hv' hw'
def From(t:List Int)(short:List Bool)(i:Int)(st:St):Prop:=
 ∀ p:Int,0<=p->p<t.length->S short p=false->((∃ j:Int,0<=j/\j<t.length/\rd st.1 j=p) ↔ (p=t.length-1\/∃ j:Int,0<=j/\j<i/\rd st.1 j=p+1))
theorem Zvq(b:Base t short k A B){l:List Int}(hl:Lefts t short l)(m:Nat):∀ (i:Int) (st:St),0<=i->i+m=t.length->Q t short k A l st->From t short i st ->
  ∃ st',pass2 t short m i st=some st'/\Q t short k A l st'/\From t short t.length st':=by
 induction m with
 | zero=>
  intro i st i0 i1 q f
  have e:i=t.length:=by omega
  exact⟨st,rfl,q,e ▸ f⟩
 | succ m ih=>
  intro i st i0 i1 q f
  have ilt:i<t.length:=by omega
  have stay:(∀ p:Int,0<=p->p<t.length->S short p=false->rd st.1 i≠p+1)->From t short (i+1) st:=by
   intro hne p p0 p1 hs
   rw [f p p0 p1 hs]
   constructor
   ·rintro (h | ⟨j,j0,j1,e⟩)
    ·exact .inl h
    ·exact .inr ⟨j,j0,by omega,e⟩
   ·rintro (h | ⟨j,j0,j1,e⟩)
    ·exact .inl h
    ·by_cases e':j=i
     ·rw [e'] at e; exact absurd e (hne p p0 p1 hs)
     ·exact .inr ⟨j,j0,by omega,e⟩
  simp only [pass2]
  by_cases hv:0<rd st.1 i
  ·rw [if_pos hv]
   obtain⟨d,d0,d1,b0,b1,ht,hlt,hcase⟩:=q.loc b hl i0 ilt (by omega)
   obtain⟨p,hp⟩:∃ p,rd st.1 i-1=p:=⟨_,rfl⟩
   rw [hp]
   have p0:0<=p:=by omega
   have p1:p+1<t.length:=by omega
   have hpi:rd st.1 i=p+1:=by omega
   by_cases hs:S short p=true
   ·have e:put t short st p=some st:=by
     unfold put
     rw [if_pos p0,if_pos (by rw [b.sh.len]; omega),if_pos hs]
    rw [e,Qd]
    refine ih (i+1) st (by omega) (by omega) q (stay fun x x0 x1 hx e=>?_)
    have:x=p:=by omega
    rw [this,hs] at hx
    exact absurd hx (by simp)
   ·have hs':S short p=false:=by simpa using hs
    have e:put t short st p=upw t st p:=by
     unfold put
     rw [if_pos p0,if_pos (by rw [b.sh.len]; omega),if_neg hs]
    have hnew:∀ j:Int,0<=j->j<t.length->rd st.1 j≠p:=by
     intro j j0 j1 ej
     rcases (f p p0 (by omega) hs').1 ⟨j,j0,j1,ej⟩ with h | ⟨x,x0,x1,ex⟩
     ·omega
     ·exact q.inj x i x0 x1 ilt (by omega) (by omega)
    have hord:∀ j:Int,0<=j->j<t.length->0<=rd st.1 j->S short (rd st.1 j)=false->rd t (rd st.1 j)=rd t p->le (A (rd st.1 j+1)) (A (p+1)):=by
     intro j j0 j1 hj hsj _
     obtain⟨_,_,_,_,_,_,hlt2,_⟩:=q.loc b hl j0 j1 hj
     rcases (f _ hj hlt2 hsj).1 ⟨j,j0,j1,rfl⟩ with h | ⟨x,x0,x1,ex⟩
     ·rw [show rd st.1 j+1=t.length by omega,b.keys.An]
      exact Z49 _
     ·rw [<-ex,<-hpi]
      exact q.ord x i x0 x1 ilt (by omega) (by omega)
    obtain⟨J,hJ,J0,J1,hfree,hup,hq⟩:=q.add b hl p0 (by omega) hs' hnew hord
    rw [e,hup,Qd]
    have hJi:i<J:=by
     have hbp:=b.at_ p0 (show p<t.length by omega)
     rcases b.sh.no p0 p1 hs' with h | ⟨h1,h2⟩
     ·have:=q.hlo (rd t p) hbp.1 hbp.2
      have:=Zk t h
      rw [<-hpi,ht] at this
      omega
     ·rw [<-hpi] at h1 h2
      rcases hcase with ⟨_,h3⟩ | ⟨_,_,h3⟩
      ·rw [<-ht,<-h1,hJ] at h3; exact h3
      ·rw [h2] at h3; simp at h3
    have hrd:∀ j:Int,0<=j->rd (st.1.set J.toNat p) j=if J=j then p else rd st.1 j:=fun j j0=>Zs J0 (by rw [q.l1]; exact J1) j0
    refine ih (i+1) _ (by omega) (by omega) hq ?_
    intro x x0 x1 hx
    have h1:(∃ j:Int,0<=j/\j<t.length/\rd (st.1.set J.toNat p) j=x) ↔ (x=p\/∃ j:Int,0<=j/\j<t.length/\rd st.1 j=x):=by
     constructor
     ·rintro⟨j,j0,j1,ej⟩
      rw [hrd j j0] at ej
      by_cases e':J=j
      ·rw [if_pos e'] at ej; exact .inl ej.symm
      ·rw [if_neg e'] at ej; exact .inr ⟨j,j0,j1,ej⟩
     ·rintro (ex | ⟨j,j0,j1,ej⟩)
      ·exact⟨J,J0,J1,by rw [hrd J J0,if_pos rfl,ex]⟩
      ·refine⟨j,j0,j1,?_⟩
       rw [hrd j j0,if_neg ?_]
       ·exact ej
       ·intro e'; rw [<-e',hfree] at ej; omega
    have h2:(∃ j:Int,0<=j/\j<i+1/\rd (st.1.set J.toNat p) j=x+1) ↔ (x=p\/∃ j:Int,0<=j/\j<i/\rd st.1 j=x+1):=by
     constructor
     ·rintro⟨j,j0,j1,ej⟩
      rw [hrd j j0,if_neg (by omega)] at ej
      by_cases e':j=i
      ·rw [e',hpi] at ej; exact .inl (by omega)
      ·exact .inr ⟨j,j0,by omega,ej⟩
     ·rintro (ex | ⟨j,j0,j1,ej⟩)
      ·exact⟨i,i0,by omega,by rw [hrd i i0,if_neg (by omega),hpi,ex]⟩
      ·exact⟨j,j0,by omega,by rw [hrd j j0,if_neg (by omega)]; exact ej⟩
    have h3:=f x x0 x1 hx
    show (∃ j:Int,0<=j/\j<t.length/\rd (st.1.set J.toNat p) j=x) ↔ (x=t.length-1\/∃ j:Int,0<=j/\j<i+1/\rd (st.1.set J.toNat p) j=x+1)
    rw [h1,h2,h3]
    constructor
    ·rintro (h | h | h)
     ·exact .inr (.inl h)
     ·exact .inl h
     ·exact .inr (.inr h)
    ·rintro (h | h | h)
     ·exact .inr (.inl h)
     ·exact .inl h
     ·exact .inr (.inr h)
  ·rw [if_neg hv]
   exact ih (i+1) st (by omega) (by omega) q (stay fun x x0 x1 _ e=>by omega)
theorem Zza(b:Base t short k A B){l:List Int}(hl:Lefts t short l){st:St}(q:Q t short k A l st)(f:From t short t.length st)(d:Nat):∀ p:Int,0<=p->p<t.length->(t.length:Int)-1-p=d->S short p=false ->
  ∃ j:Int,0<=j/\j<t.length/\rd st.1 j=p:=by
 induction d with
 | zero=>intro p p0 p1 hd hs; exact (f p p0 p1 hs).2 (.inl (by omega))
 | succ d ih=>
  intro p p0 p1 hd hs
  refine (f p p0 p1 hs).2 (.inr ?_)
  by_cases h:S short (p+1)=true
  ·have:p+1∈l:=(hl.mem _).2 ⟨⟨by omega,by omega⟩,by omega,h,by rw [show p+1-1=p by omega]; exact hs⟩
   obtain⟨j,j0,j1,e⟩:=q.there _ this
   exact⟨j,j0,j1,e⟩
  ·obtain⟨j,j0,j1,e⟩:=ih (p+1) (by omega) (by omega) (by omega) (by simpa using h)
   exact⟨j,j0,j1,e⟩
theorem Z3q(b:Base t short k A B){l:List Int}(hl:Lefts t short l)(ho:l.Pairwise fun p q=>rd t p=rd t q->le (A p) (A q)){st:St}(h:Seeds t k l st):Q t short k A l (st.1,heads t k):=by
 have hle:∀ c,cnt t l c<=hd t (c+1)-hd t c:=fun c=>cnt_le b hl.nd (fun p hp=>((hl.mem p).1 hp).1) c
 have hlt:∀ i j:Int,0<=i->i<j->j<t.length->0<=rd st.1 i->0<=rd st.1 j->∃ c d:Int,(0<=c/\c<k)/\(0<=d/\d<k)/\(hd t (c+1)-cnt t l c<=i/\i<hd t (c+1))/\(hd t (d+1)-cnt t l d<=j/\j<hd t (d+1))/\c<=d:=by
  intro i j i0 hij j1 hi hj
  have key:∀ x:Int,0<=x->x<t.length->0<=rd st.1 x->∃ c:Int,0<=c/\c<k/\hd t (c+1)-cnt t l c<=x/\x<hd t (c+1):=by
   intro x x0 x1 hx
   obtain⟨c,c0,c1,b0,b1⟩:=b.bucket x0 x1
   refine⟨c,c0,c1,?_,b1⟩
   apply Qj
   intro hn
   have:=h.free x x0 x1 fun d d0 d1 e0 e1=>by
    rcases Qw c d with hcd | hcd | hcd
    ·have:=Zk t hcd; omega
    ·subst hcd; omega
    ·have:=Zk t hcd; omega
   omega
  obtain⟨c,c0,c1,b0,b1⟩:=key i i0 (by omega) hi
  obtain⟨d,d0,d1,e0,e1⟩:=key j (by omega) j1 hj
  refine⟨c,d,⟨c0,c1⟩,⟨d0,d1⟩,⟨b0,b1⟩,⟨e0,e1⟩,?_⟩
  apply Qj
  intro hn
  have:=Zk t (show d<c by omega)
  have:=hle c
  omega
 refine⟨h.l1,Zhd t k,?_,?_,h.seed,?_,?_,?_,?_⟩
 ·intro c c0 c1
  show hd t c<=rd (heads t k) c/\rd (heads t k) c<=_
  rw [Zee t k c0 c1]
  have:=hle c
  omega
 ·intro c c0 c1 j j0 j1
  have j1':j<rd (heads t k) c:=j1
  rw [Zee t k c0 c1] at j1'
  omega
 ·intro p hp
  obtain⟨j,j0,j1,e⟩:=h.there p hp
  have:=hle (rd t p)
  have:=Zh t (rd t p)
  have:=Zb0 t (rd t p+1)
  exact⟨j,by omega,by omega,e⟩
 ·intro c c0 c1 j j0 j1
  have j0':rd (heads t k) c<=j:=j0
  rw [Zee t k c0 c1] at j0'
  have h0:=Zh t c
  have h1:=Zb0 t (c+1)
  have h2:=Z0 t l c
  refine h.free j (by omega) (by omega) fun d d0 d1 e0 e1=>?_
  rcases Qw c d with hcd | hcd | hcd
  ·have:=Zk t hcd; omega
  ·subst hcd; exact j1
  ·have:=Zk t hcd; omega
 ·intro i j i0 hij j1 hi e
  have hi':0<=rd st.1 i:=hi
  have e':rd st.1 i=rd st.1 j:=e
  obtain⟨c,d,hc,hd',b0,b1,hcd⟩:=hlt i j i0 hij j1 hi' (by omega)
  have s1:=h.seed c hc.1 hc.2 i b0.1 b0.2
  have s2:=h.seed d hd'.1 hd'.2 j b1.1 b1.2
  have ecd:c=d:=by rw [<-s1.2,<-s2.2,e']
  subst ecd
  obtain⟨x,y,e1,e2⟩:=h.ord c hc.1 hc.2 i j b0.1 hij b1.2
  have hnd:=hl.nd
  rw [e1] at hnd
  have:=(QA.1 hnd).2.1
  rw [QQ] at this
  exact this.1 (e' ▸ e2)
 ·intro i j i0 hij j1 hi hj
  have hi':0<=rd st.1 i:=hi
  have hj':0<=rd st.1 j:=hj
  show le (A (rd st.1 i)) (A (rd st.1 j))
  obtain⟨c,d,hc,hd',b0,b1,hcd⟩:=hlt i j i0 hij j1 hi' hj'
  have s1:=h.seed c hc.1 hc.2 i b0.1 b0.2
  have s2:=h.seed d hd'.1 hd'.2 j b1.1 b1.2
  by_cases ecd:c=d
  ·subst ecd
   obtain⟨x,y,e1,e2⟩:=h.ord c hc.1 hc.2 i j b0.1 hij b1.2
   rw [e1] at ho
   exact (List.pairwise_cons.1 (Qan.1 ho).2.1).1 _ e2 (by rw [s1.2,s2.2])
  ·have m1:=(hl.mem _).1 s1.1
   have m2:=(hl.mem _).1 s2.1
   obtain⟨r1,h1⟩:=b.keys.AM _ m1.1.1 m1.1.2 m1.2
   obtain⟨r2,h2⟩:=b.keys.AM _ m2.1.1 m2.1.2 m2.2
   rw [h1,h2]
   exact Zcs (by rw [Zb3 m1.2.2.1,Zb3 m2.2.2.1,s1.2,s2.2]; omega)
theorem Z5j(b:Base t short k A B){l:List Int}(hl:Lefts t short l)(ho:l.Pairwise fun p q=>rd t p=rd t q->le (A p) (A q)){st:St}(h:Seeds t k l st) :
  ∃ st',put t short (st.1,heads t k) (t.length-1)=some st'/\Q t short k A l st'/\From t short 0 st':=by
 have q:=Z3q b hl ho h
 have hpos:=b.pos
 have none_:∀ j:Int,0<=j->j<t.length->0<=rd st.1 j->S short (rd st.1 j)=true:=by
  intro j j0 j1 hv
  obtain⟨c,c0,c1,b0,b1,_,_,hcase⟩:=q.loc b hl j0 j1 hv
  rcases hcase with ⟨_,h2⟩ | ⟨_,_,h3⟩
  ·have h2':j<rd (heads t k) c:=h2
   rw [Zee t k c0 c1] at h2'
   omega
  ·exact h3
 obtain⟨J,hJ,J0,J1,hfree,hup,hq⟩:=q.add b hl (p:=t.length-1) (by omega) (by omega) b.sh.last
  (fun j j0 j1 e=>by
   have e':rd st.1 j=t.length-1:=e
   have:=none_ j j0 j1 (by omega)
   rw [e',b.sh.last] at this
   simp at this)
  (fun j j0 j1 hv hs _=>by
   have hv':0<=rd st.1 j:=hv
   have:=none_ j j0 j1 hv'
   have hs':S short (rd st.1 j)=false:=hs
   rw [hs'] at this
   simp at this)
 refine⟨_,by unfold put; rw [if_pos (by omega),if_pos (by rw [b.sh.len]; omega),if_neg (by rw [b.sh.last]; simp)]; exact hup,hq,?_⟩
 intro p p0 p1 hs
 have hrd:∀ j:Int,0<=j->rd (st.1.set J.toNat (t.length-1)) j=if J=j then (t.length:Int)-1 else rd st.1 j:=fun j j0=>Zs J0 (by rw [h.l1]; exact J1) j0
 constructor
 ·rintro⟨j,j0,j1,e⟩
  have e':rd (st.1.set J.toNat (t.length-1)) j=p:=e
  rw [hrd j j0] at e'
  by_cases ej:J=j
  ·rw [if_pos ej] at e'; exact .inl e'.symm
  ·rw [if_neg ej] at e'
   have:=none_ j j0 j1 (by omega)
   rw [e',hs] at this
   simp at this
 ·rintro (e | ⟨j,j0,j1,_⟩)
  ·exact⟨J,J0,J1,by show rd (st.1.set J.toNat (t.length-1)) J=p; rw [hrd J J0,if_pos rfl,e]⟩
  ·omega
end Go.Ab.Sai

namespace Go.Ab.Sai
open Go.Ab.Wd Go.Ab.Bs
variable {t:List Int} {short:List Bool} {k:Nat} {A B:Int->List Int}
structure Long (t:List Int) (short:List Bool) (k:Nat) (B:Int->List Int) (H:Int->Int) (sa:List Int):Prop where
 l1:sa.length=t.length
 hlo:∀ c:Int,0<=c->c<k->hd t c<=H c/\H c<=hd t (c+1)
 low:∀ c:Int,0<=c->c<k->∀ j:Int,hd t c<=j->j<H c->(0<=rd sa j/\rd sa j<t.length)/\S short (rd sa j)=false/\rd t (rd sa j)=c
 all:∀ p:Int,0<=p->p<t.length->S short p=false->∃ j:Int,hd t (rd t p)<=j/\j<H (rd t p)/\rd sa j=p
 inj:∀ c:Int,0<=c->c<k->∀ i j:Int,hd t c<=i->i<j->j<H c->rd sa i≠rd sa j
 ord:∀ c:Int,0<=c->c<k->∀ i j:Int,hd t c<=i->i<j->j<H c->le (B (rd sa i)) (B (rd sa j))
theorem Z3h(b:Base t short k A B){l:List Int}(hl:Lefts t short l){st:St}(q:Q t short k A l st)(f:From t short t.length st):Long t short k B (rd st.2) st.1:=by
 refine⟨q.l1,fun c c0 c1=>?_,q.low,fun p p0 p1 hs=>?_,fun c c0 c1 i j i0 hij j1=>?_,fun c c0 c1 i j i0 hij j1=>?_⟩
 ·have:=q.hlo c c0 c1
  have:=Z0 t l c
  omega
 ·obtain⟨j,j0,j1,e⟩:=Zza b hl q f (t.length-1-p).toNat p p0 p1 (by omega) hs
  obtain⟨c,c0,c1,b0,b1,ht,_,hcase⟩:=q.loc b hl j0 j1 (by omega)
  rw [e] at ht hcase
  rw [ht]
  rcases hcase with ⟨_,h⟩ | ⟨_,_,h⟩
  ·exact⟨j,b0,h,e⟩
  ·rw [hs] at h; simp at h
 ·have h1:=q.low c c0 c1 i i0 (by omega)
  have hh:=q.hlo c c0 c1
  have:=Zh t c
  have:=Zb0 t (c+1)
  have:=Z0 t l c
  exact q.inj i j (by omega) hij (by omega) h1.1.1
 ·have h1:=q.low c c0 c1 i i0 (by omega)
  have h2:=q.low c c0 c1 j (by omega) j1
  have hh:=q.hlo c c0 c1
  have:=Zh t c
  have:=Zb0 t (c+1)
  have:=Z0 t l c
  rw [b.keys.BL _ h1.1.1 h1.1.2 h1.2.1,b.keys.BL _ h2.1.1 h2.1.2 h2.2.1]
  exact q.ord i j (by omega) hij (by omega) h1.1.1 h2.1.1
def Fin(t:List Int)(k:Nat)(H:Int->Int)(st:St)(j:Int):Prop:=∃ c:Int,0<=c/\c<k/\((hd t c<=j/\j<H c)\/(rd st.2 c<=j/\j<hd t (c+1)))
structure R (t:List Int) (short:List Bool) (k:Nat) (B:Int->List Int) (H:Int->Int) (st:St):Prop where
 long:Long t short k B H st.1
 l2:st.2.length=k
 hlo:∀ c:Int,0<=c->c<k->H c<=rd st.2 c/\rd st.2 c<=hd t (c+1)
 high:∀ c:Int,0<=c->c<k->∀ j:Int,rd st.2 c<=j->j<hd t (c+1)->(0<=rd st.1 j/\rd st.1 j<t.length)/\S short (rd st.1 j)=true/\rd t (rd st.1 j)=c
 inj:∀ i j:Int,i<j->Fin t k H st i->Fin t k H st j->rd st.1 i≠rd st.1 j
 ord:∀ i j:Int,i<j->Fin t k H st i->Fin t k H st j->le (B (rd st.1 i)) (B (rd st.1 j))
theorem R.loc(b:Base t short k A B){H:Int->Int}{st:St}(r:R t short k B H st){j:Int}(hf:Fin t k H st j) :
  ∃ c:Int,0<=c/\c<k/\hd t c<=j/\j<hd t (c+1)/\rd t (rd st.1 j)=c/\(0<=rd st.1 j/\rd st.1 j<t.length)/\((S short (rd st.1 j)=false/\j<H c)\/(S short (rd st.1 j)=true/\rd st.2 c<=j)):=by
 obtain⟨c,c0,c1,h | h⟩:=hf
 ·have h1:=r.long.low c c0 c1 j h.1 h.2
  have h2:=r.long.hlo c c0 c1
  exact⟨c,c0,c1,h.1,by omega,h1.2.2,h1.1,.inl ⟨h1.2.1,h.2⟩⟩
 ·have h1:=r.high c c0 c1 j h.1 h.2
  have h2:=r.long.hlo c c0 c1
  have h3:=r.hlo c c0 c1
  exact⟨c,c0,c1,by omega,h.2,h1.2.2,h1.1,.inr ⟨h1.2.1,h.1⟩⟩
theorem Fin.rng{H:Int->Int}{st:St}(r:R t short k B H st){j:Int}(hf:Fin t k H st j):0<=j/\j<t.length:=by
 obtain⟨c,c0,c1,h⟩:=hf
 have h1:=r.long.hlo c c0 c1
 have h2:=r.hlo c c0 c1
 have h3:=Zh t c
 have h4:=Zb0 t (c+1)
 omega
theorem R.add(b:Base t short k A B){H:Int->Int}{st:St}(r:R t short k B H st){p:Int}(p0:0<=p)(p1:p<t.length)(hs:S short p=true)
  (hnew:∀ j:Int,Fin t k H st j->rd st.1 j≠p)
  (hord:∀ j:Int,Fin t k H st j->S short (rd st.1 j)=true->rd t (rd st.1 j)=rd t p->le (B (p+1)) (B (rd st.1 j+1))) :
  ∃ J:Int,rd st.2 (rd t p)-1=J/\0<=J/\J<t.length/\H (rd t p)<=J/\down t st p=some (st.1.set J.toNat p,st.2.set (rd t p).toNat J)/\R t short k B H (st.1.set J.toNat p,st.2.set (rd t p).toNat J) /\
   (∀ j,Fin t k H (st.1.set J.toNat p,st.2.set (rd t p).toNat J) j ↔ j=J\/Fin t k H st j):=by
 obtain⟨c0,c1⟩:=b.at_ p0 p1
 obtain⟨c,hc⟩:∃ c,rd t p=c:=⟨_,rfl⟩
 rw [hc] at c0 c1 ⊢
 obtain⟨J,hJ⟩:∃ J,rd st.2 c-1=J:=⟨_,rfl⟩
 have hh:=r.hlo c c0 c1
 have hg:=r.long.hlo c c0 c1
 have hn0:=Zh t c
 have hn1:=Zb0 t (c+1)
 have fin_lo:∀ j,hd t c<=j->j<H c->Fin t k H st j:=fun j h1 h2=>⟨c,c0,c1,.inl ⟨h1,h2⟩⟩
 have fin_hi:∀ j,rd st.2 c<=j->j<hd t (c+1)->Fin t k H st j:=fun j h1 h2=>⟨c,c0,c1,.inr ⟨h1,h2⟩⟩
 have hroom:H c<=J:=by
  have hcount:=Zjc (t:=t) (c:=c) (l:=(seg st.1 (hd t c) (H c)++seg st.1 (rd st.2 c) (hd t (c+1)))++[p]) ?_ ?_
  ·simp only [QV,seg_length,Qz,Qa1] at hcount
   omega
  ·refine QA.2 ⟨List.nodup_append.2 ⟨Zez fun i j i0 hij j1=>?_,Zez fun i j i0 hij j1=>?_,?_⟩,by simp,?_⟩
   ·exact r.inj i j hij (fin_lo i i0 (by omega)) (fin_lo j (by omega) j1)
   ·exact r.inj i j hij (fin_hi i i0 (by omega)) (fin_hi j (by omega) j1)
   ·intro x hx y hy e
    obtain⟨i,i0,i1,rfl⟩:=Z1.1 hx
    obtain⟨j,j0,j1,rfl⟩:=Z1.1 hy
    exact r.inj i j (by omega) (fin_lo i i0 i1) (fin_hi j j0 j1) e
   ·intro x hx y hy e
    rw [Qq] at hy
    rw [hy] at e
    rcases Qr.1 hx with hx | hx
    ·obtain⟨i,i0,i1,rfl⟩:=Z1.1 hx
     exact hnew i (fin_lo i i0 i1) e
    ·obtain⟨i,i0,i1,rfl⟩:=Z1.1 hx
     exact hnew i (fin_hi i i0 i1) e
  ·intro x hx
   rcases Qr.1 hx with hx | hx
   ·rcases Qr.1 hx with hx | hx
    ·obtain⟨i,i0,i1,rfl⟩:=Z1.1 hx
     have:=r.long.low c c0 c1 i i0 i1
     exact⟨this.1,this.2.2⟩
    ·obtain⟨i,i0,i1,rfl⟩:=Z1.1 hx
     have:=r.high c c0 c1 i i0 i1
     exact⟨this.1,this.2.2⟩
   ·rw [Qq] at hx
    rw [hx]
    exact⟨⟨p0,p1⟩,hc⟩
 have J0:0<=J:=by omega
 have J1:J<t.length:=by omega
 have hrd:∀ j:Int,0<=j->rd (st.1.set J.toNat p) j=if J=j then p else rd st.1 j:=fun j j0=>Zs J0 (by rw [r.long.l1]; exact J1) j0
 have hrh:∀ d:Int,0<=d->rd (st.2.set c.toNat J) d=if c=d then J else rd st.2 d:=fun d d0=>Zs c0 (by rw [r.l2]; exact c1) d0
 have hbk:∀ d:Int,c≠d->∀ j:Int,hd t d<=j->j<hd t (d+1)->J≠j:=by
  intro d hne j j0 j1 e
  rcases Qw c d with hlt | hlt | hlt
  ·have:=Zk t hlt; omega
  ·exact hne hlt
  ·have:=Zk t hlt; omega
 have hfin:∀ j,Fin t k H (st.1.set J.toNat p,st.2.set c.toNat J) j ↔ j=J\/Fin t k H st j:=by
  intro j
  constructor
  ·rintro⟨d,d0,d1,h | ⟨h0,h1⟩⟩
   ·exact .inr ⟨d,d0,d1,.inl h⟩
   ·have h0':rd (st.2.set c.toNat J) d<=j:=h0
    rw [hrh d d0] at h0'
    by_cases e:c=d
    ·subst e
     rw [if_pos rfl] at h0'
     by_cases ej:j=J
     ·exact .inl ej
     ·exact .inr ⟨c,d0,d1,.inr ⟨by omega,h1⟩⟩
    ·rw [if_neg e] at h0'
     exact .inr ⟨d,d0,d1,.inr ⟨h0',h1⟩⟩
  ·rintro (e | ⟨d,d0,d1,h | ⟨h0,h1⟩⟩)
   ·exact⟨c,c0,c1,.inr ⟨by show rd (st.2.set c.toNat J) c<=j; rw [hrh c c0,if_pos rfl]; omega,by omega⟩⟩
   ·exact⟨d,d0,d1,.inl h⟩
   ·refine⟨d,d0,d1,.inr ⟨?_,h1⟩⟩
    show rd (st.2.set c.toNat J) d<=j
    rw [hrh d d0]
    by_cases e:c=d
    ·subst e; rw [if_pos rfl]; omega
    ·rw [if_neg e]; exact h0
 have hJf:¬ Fin t k H st J:=by
  rintro⟨d,d0,d1,h⟩
  have h1:=r.long.hlo d d0 d1
  have h2:=r.hlo d d0 d1
  by_cases e:c=d
  ·subst e; omega
  ·rcases h with h | h
   ·exact hbk d e J h.1 (by omega) rfl
   ·exact hbk d e J (by omega) h.2 rfl
 have hfj:∀ j,Fin t k H st j->rd (st.1.set J.toNat p) j=rd st.1 j:=by
  intro j hj
  rw [hrd j (hj.rng r).1,if_neg ?_]
  intro e; exact hJf (e ▸ hj)
 have hall:∀ j:Int,Fin t k H st j->(j<J->le (B (rd st.1 j)) (B p))/\(J<j->le (B p) (B (rd st.1 j))):=by
  intro j hj
  obtain⟨d,d0,d1,b0,b1,ht,hrg,hcase⟩:=r.loc b hj
  have hk2:=b.keys.BS p p0 p1 hs
  have hcp:=Zb3 (t:=t) hs
  have hkj:∃ y,B (rd st.1 j)=code t short (rd st.1 j)::y:=by
   rcases hcase with ⟨h,_⟩ | ⟨h,_⟩
   ·rw [b.keys.BL _ hrg.1 hrg.2 h]; exact⟨_,b.keys.AL _ hrg.1 hrg.2 h⟩
   ·exact⟨_,b.keys.BS _ hrg.1 hrg.2 h⟩
  obtain⟨y,hy⟩:=hkj
  have hcj:2*d<=code t short (rd st.1 j)/\code t short (rd st.1 j)<=2*d+1:=by
   unfold code; rw [ht]; split <;> omega
  constructor
  ·intro hlt
   rcases Qw d c with hdc | hdc | hdc
   ·rw [hy,hk2]
    exact Zcs (by rw [hcp,hc]; omega)
   ·subst hdc
    rcases hcase with ⟨h1,h2⟩ | ⟨h1,h2⟩
    ·rw [hy,hk2]
     exact Zcs (by rw [hcp,hc,Zll h1,ht]; omega)
    ·omega
   ·have:=Zk t hdc
    omega
  ·intro hlt
   rcases Qw d c with hdc | hdc | hdc
   ·have:=Zk t hdc
    omega
   ·subst hdc
    rcases hcase with ⟨h1,h2⟩ | ⟨h1,h2⟩
    ·omega
    ·rw [b.keys.BS _ hrg.1 hrg.2 h1,hk2,Zb3 h1,hcp,ht,hc]
     exact Ztm (hord j hj h1 (by rw [ht,hc]))
   ·rw [hy,hk2]
    exact Zcs (by rw [hcp,hc]; omega)
 have hlow:∀ d:Int,0<=d->d<k->∀ j:Int,hd t d<=j->j<H d->rd (st.1.set J.toNat p) j=rd st.1 j:=fun d d0 d1 j h0 h1=>hfj j ⟨d,d0,d1,.inl ⟨h0,h1⟩⟩
 refine⟨J,hJ,J0,J1,hroom,?_,⟨⟨by simpa using r.long.l1,r.long.hlo,?_,?_,?_,?_⟩,by simpa using r.l2,?_,?_,?_,?_⟩,hfin⟩
 ·unfold down
  rw [hc,hJ,if_pos ⟨p0,p1,c0,by rw [r.l2]; exact c1,J0,by rw [r.long.l1]; exact J1⟩]
 ·intro d d0 d1 j j0 j1
  show (0<=rd (st.1.set J.toNat p) j/\rd (st.1.set J.toNat p) j<t.length)/\S short (rd (st.1.set J.toNat p) j)=false/\rd t (rd (st.1.set J.toNat p) j)=d
  rw [hlow d d0 d1 j j0 j1]
  exact r.long.low d d0 d1 j j0 j1
 ·intro x x0 x1 hx
  obtain⟨j,j0,j1,e⟩:=r.long.all x x0 x1 hx
  have hb:=b.at_ x0 x1
  exact⟨j,j0,j1,by show rd (st.1.set J.toNat p) j=x; rw [hlow _ hb.1 hb.2 j j0 j1]; exact e⟩
 ·intro d d0 d1 i j i0 hij j1
  show rd (st.1.set J.toNat p) i≠rd (st.1.set J.toNat p) j
  rw [hlow d d0 d1 i i0 (by omega),hlow d d0 d1 j (by omega) j1]
  exact r.long.inj d d0 d1 i j i0 hij j1
 ·intro d d0 d1 i j i0 hij j1
  show le (B (rd (st.1.set J.toNat p) i)) (B (rd (st.1.set J.toNat p) j))
  rw [hlow d d0 d1 i i0 (by omega),hlow d d0 d1 j (by omega) j1]
  exact r.long.ord d d0 d1 i j i0 hij j1
 ·intro d d0 d1
  show H d<=rd (st.2.set c.toNat J) d/\rd (st.2.set c.toNat J) d<=_
  rw [hrh d d0]
  by_cases e:c=d
  ·subst e; rw [if_pos rfl]; omega
  ·rw [if_neg e]; exact r.hlo d d0 d1
 ·intro d d0 d1 j j0 j1
  show (0<=rd (st.1.set J.toNat p) j/\rd (st.1.set J.toNat p) j<t.length)/\S short (rd (st.1.set J.toNat p) j)=true/\rd t (rd (st.1.set J.toNat p) j)=d
  rcases (hfin j).1 ⟨d,d0,d1,.inr ⟨j0,j1⟩⟩ with e | hf
  ·have e':c=d:=by
    apply Qj
    intro hne
    have h2:=r.hlo d d0 d1
    have h3:=r.long.hlo d d0 d1
    have j0':rd (st.2.set c.toNat J) d<=j:=j0
    rw [hrh d d0,if_neg hne] at j0'
    exact hbk d hne j (by omega) j1 e.symm
   rw [e,hrd J J0,if_pos rfl]
   exact⟨⟨p0,p1⟩,hs,by rw [hc,e']⟩
  ·rw [hfj j hf]
   have j0':rd (st.2.set c.toNat J) d<=j:=j0
   rw [hrh d d0] at j0'
   by_cases e:c=d
   ·subst e
    rw [if_pos rfl] at j0'
    have:j≠J:=fun e=>hJf (e ▸ hf)
    exact r.high c d0 d1 j (by omega) j1
   ·rw [if_neg e] at j0'
    exact r.high d d0 d1 j j0' j1
 ·intro i j hij hi hj
  show rd (st.1.set J.toNat p) i≠rd (st.1.set J.toNat p) j
  rcases (hfin i).1 hi with ei | fi
  ·rcases (hfin j).1 hj with ej | fj
   ·omega
   ·rw [hfj j fj,ei,hrd J J0,if_pos rfl]
    exact fun e=>hnew j fj e.symm
  ·rcases (hfin j).1 hj with ej | fj
   ·rw [hfj i fi,ej,hrd J J0,if_pos rfl]
    exact hnew i fi
   ·rw [hfj i fi,hfj j fj]
    exact r.inj i j hij fi fj
 ·intro i j hij hi hj
  show le (B (rd (st.1.set J.toNat p) i)) (B (rd (st.1.set J.toNat p) j))
  rcases (hfin i).1 hi with ei | fi
  ·rcases (hfin j).1 hj with ej | fj
   ·omega
   ·rw [hfj j fj,ei,hrd J J0,if_pos rfl]
    exact (hall j fj).2 (by omega)
  ·rcases (hfin j).1 hj with ej | fj
   ·rw [hfj i fi,ej,hrd J J0,if_pos rfl]
    exact (hall i fi).1 (by omega)
   ·rw [hfj i fi,hfj j fj]
    exact r.ord i j hij fi fj
def Back(t:List Int)(short:List Bool)(k:Nat)(H:Int->Int)(i:Int)(st:St):Prop:=
 ∀ p:Int,0<=p->p<t.length->S short p=true->((∃ j:Int,Fin t k H st j/\rd st.1 j=p) ↔ ∃ j:Int,i<j/\Fin t k H st j/\rd st.1 j=p+1)
theorem Zx6(b:Base t short k A B){H:Int->Int}{st:St}(r:R t short k B H st){i c:Int}(hi:i<hd t (c+1))(f:Back t short k H i st)(d:Nat):∀ p:Int,0<=p->p<t.length->(t.length:Int)-p=d->S short p=true->(c<rd t p\/(rd t p=c/\i<rd st.2 c)) ->
  ∃ j:Int,Fin t k H st j/\rd st.1 j=p:=by
 induction d with
 | zero=>intro p p0 p1 hd _ _; omega
 | succ d ih=>
  intro p p0 p1 hd' hs hcase
  obtain⟨p2,hlt⟩:=b.sh.yes p0 p1 hs
  have hb:=b.at_ (p:=p+1) (by omega) p2
  refine (f p p0 p1 hs).2 ?_
  by_cases h:S short (p+1)=true
  ·have hcase':c<rd t (p+1)\/(rd t (p+1)=c/\i<rd st.2 c):=by omega
   obtain⟨j,hf,e⟩:=ih (p+1) (by omega) p2 (by omega) h hcase'
   refine⟨j,?_,hf,e⟩
   obtain⟨e0,_,_,b0,_,ht,_,hc⟩:=r.loc b hf
   rw [e] at ht hc
   rcases hc with ⟨h1,_⟩ | ⟨_,h1⟩
   ·rw [h] at h1; simp at h1
   ·rcases hcase' with h2 | ⟨h2,h3⟩
    ·have:=Zk t h2
     rw [ht] at this
     omega
    ·rw [<-ht,h2] at h1; omega
  ·have h':S short (p+1)=false:=by simpa using h
   obtain⟨j,j0,j1,e⟩:=r.long.all (p+1) (by omega) p2 h'
   have hgt:rd t p<rd t (p+1):=by
    rcases hlt with hlt | ⟨_,hlt⟩
    ·exact hlt
    ·rw [h'] at hlt; simp at hlt
   have:=Zk t (show c<rd t (p+1) by omega)
   exact⟨j,by omega,⟨_,hb.1,hb.2,.inl ⟨j0,j1⟩⟩,e⟩
theorem Z27(b:Base t short k A B){H:Int->Int}{st:St}(r:R t short k B H st){i:Int}(i0:0<=i)(i1:i<t.length)(f:Back t short k H i st):Fin t k H st i:=by
 obtain⟨c,c0,c1,b0,b1⟩:=b.bucket i0 i1
 apply Qj
 intro hn
 have hh:=r.hlo c c0 c1
 have hg:=r.long.hlo c c0 c1
 have h1:H c<=i:=by
  apply Qj
  intro h; exact hn ⟨c,c0,c1,.inl ⟨b0,by omega⟩⟩
 have h2:i<rd st.2 c:=by
  apply Qj
  intro h; exact hn ⟨c,c0,c1,.inr ⟨by omega,b1⟩⟩
 have hcount:=Zpb (t:=t) (c:=c) (l:=seg st.1 (hd t c) (H c)++seg st.1 (rd st.2 c) (hd t (c+1))) ?_
 ·simp only [QV,seg_length] at hcount
  omega
 ·intro p p0 p1 hp
  rw [Qr]
  by_cases hs:S short p=true
  ·obtain⟨j,hf,e⟩:=Zx6 b r b1 f (t.length-p).toNat p p0 p1 (by omega) hs (.inr ⟨hp,h2⟩)
   obtain⟨d,d0,d1,e0,e1,ht,_,hc⟩:=r.loc b hf
   rw [e,hp] at ht
   subst ht
   rw [e] at hc
   rcases hc with ⟨h3,_⟩ | ⟨_,h3⟩
   ·rw [hs] at h3; simp at h3
   ·exact .inr (Z1.2 ⟨j,h3,e1,e⟩)
  ·obtain⟨j,j0,j1,e⟩:=r.long.all p p0 p1 (by simpa using hs)
   rw [hp] at j0 j1
   exact .inl (Z1.2 ⟨j,j0,j1,e⟩)
theorem Zvs(b:Base t short k A B){H:Int->Int}(m:Nat):∀ (i:Int) (st:St),i+1=m->i<t.length->R t short k B H st->Back t short k H i st ->
  ∃ st',pass3 t short m i st=some st'/\R t short k B H st'/\Back t short k H (-1) st':=by
 induction m with
 | zero=>
  intro i st hi _ r f
  have e:i=-1:=by omega
  exact⟨st,rfl,r,e ▸ f⟩
 | succ m ih=>
  intro i st hi hilt r f
  have i0:0<=i:=by omega
  have hf:=Z27 b r i0 hilt f
  obtain⟨d,d0,d1,b0,b1,ht,hrg,hcase⟩:=r.loc b hf
  have stay:(∀ p:Int,0<=p->p<t.length->S short p=true->rd st.1 i≠p+1)->Back t short k H (i-1) st:=by
   intro hne p p0 p1 hs
   rw [f p p0 p1 hs]
   constructor
   ·rintro⟨j,j0,j1,e⟩; exact⟨j,by omega,j1,e⟩
   ·rintro⟨j,j0,j1,e⟩
    by_cases e':j=i
    ·rw [e'] at e; exact absurd e (hne p p0 p1 hs)
    ·exact⟨j,by omega,j1,e⟩
  simp only [pass3]
  obtain⟨p,hp⟩:∃ p,rd st.1 i-1=p:=⟨_,rfl⟩
  have hpi:rd st.1 i=p+1:=by omega
  rw [hp]
  by_cases p0:0<=p
  ·rw [if_pos p0,if_pos (by rw [b.sh.len]; omega)]
   by_cases hs:S short p=true
   ·rw [if_pos hs]
    have p1:p<t.length:=by omega
    have hnew:∀ j:Int,Fin t k H st j->rd st.1 j≠p:=by
     intro j hj e
     obtain⟨x,x0,x1,ex⟩:=(f p p0 p1 hs).1 ⟨j,hj,e⟩
     exact r.inj i x x0 hf x1 (by omega)
    have hord:∀ j:Int,Fin t k H st j->S short (rd st.1 j)=true->rd t (rd st.1 j)=rd t p->le (B (p+1)) (B (rd st.1 j+1)):=by
     intro j hj hsj _
     obtain⟨_,_,_,_,_,_,hrj,_⟩:=r.loc b hj
     obtain⟨x,x0,x1,ex⟩:=(f _ hrj.1 hrj.2 hsj).1 ⟨j,hj,rfl⟩
     rw [<-ex,<-hpi]
     exact r.ord i x x0 hf x1
    obtain⟨J,hJ,J0,J1,hHJ,hdown,hr,hfin⟩:=r.add b p0 p1 hs hnew hord
    rw [hdown,Qd]
    have hJi:J<i:=by
     obtain⟨p2,hlt⟩:=b.sh.yes p0 p1 hs
     have hbp:=b.at_ p0 p1
     have h2:=r.hlo _ hbp.1 hbp.2
     rw [<-hpi,ht] at hlt
     rcases hlt with hlt | ⟨h3,h4⟩
     ·have:=Zk t hlt
      omega
     ·rcases hcase with ⟨h5,_⟩ | ⟨_,h5⟩
      ·rw [h4] at h5; simp at h5
      ·rw [<-h3] at h5; omega
    have hrd:∀ j:Int,0<=j->rd (st.1.set J.toNat p) j=if J=j then p else rd st.1 j:=fun j j0=>Zs J0 (by rw [r.long.l1]; exact J1) j0
    have hsame:∀ j:Int,J<j->rd (st.1.set J.toNat p) j=rd st.1 j:=fun j hj=>by rw [hrd j (by omega),if_neg (by omega)]
    refine ih (i-1) _ (by omega) (by omega) hr ?_
    intro x x0 x1 hx
    have hJf:¬ Fin t k H st J:=by
     intro hJf
     obtain⟨e,e0,e1,e2,e3,hte,hre,hce⟩:=r.loc b hJf
     have hbp:=b.at_ p0 p1
     have ec:e=rd t p:=by
      have h2:=r.hlo _ hbp.1 hbp.2
      have h3:=r.long.hlo _ hbp.1 hbp.2
      rcases Qw e (rd t p) with h | h | h
      ·have:=Zk t h; omega
      ·exact h
      ·have:=Zk t h; omega
     subst ec
     rcases hce with ⟨_,h⟩ | ⟨_,h⟩ <;> omega
    have hold:∀ j,Fin t k H st j->rd (st.1.set J.toNat p) j=rd st.1 j:=fun j hj=>by
     have hne:¬ J=j:=by intro e; rw [<-e] at hj; exact hJf hj
     rw [hrd j (hj.rng r).1,if_neg hne]
    have h1:(∃ j:Int,Fin t k H (st.1.set J.toNat p,st.2.set (rd t p).toNat J) j/\rd (st.1.set J.toNat p) j=x) ↔ (x=p\/∃ j:Int,Fin t k H st j/\rd st.1 j=x):=by
     constructor
     ·rintro⟨j,hj,e⟩
      rcases (hfin j).1 hj with ej | fj
      ·rw [ej,hrd J J0,if_pos rfl] at e; exact .inl e.symm
      ·rw [hold j fj] at e; exact .inr ⟨j,fj,e⟩
     ·rintro (e | ⟨j,fj,e⟩)
      ·exact⟨J,(hfin J).2 (.inl rfl),by rw [hrd J J0,if_pos rfl,e]⟩
      ·exact⟨j,(hfin j).2 (.inr fj),by rw [hold j fj]; exact e⟩
    have h2:(∃ j:Int,i-1<j/\Fin t k H (st.1.set J.toNat p,st.2.set (rd t p).toNat J) j/\rd (st.1.set J.toNat p) j=x+1) ↔ (x=p\/∃ j:Int,i<j/\Fin t k H st j/\rd st.1 j=x+1):=by
     constructor
     ·rintro⟨j,j0,hj,e⟩
      rcases (hfin j).1 hj with ej | fj
      ·omega
      ·rw [hold j fj] at e
       by_cases ei:j=i
       ·rw [ei,hpi] at e; exact .inl (by omega)
       ·exact .inr ⟨j,by omega,fj,e⟩
     ·rintro (e | ⟨j,j0,fj,e⟩)
      ·exact⟨i,by omega,(hfin i).2 (.inr hf),by rw [hold i hf,hpi,e]⟩
      ·exact⟨j,by omega,(hfin j).2 (.inr fj),by rw [hold j fj]; exact e⟩
    show (∃ j:Int,Fin t k H (st.1.set J.toNat p,st.2.set (rd t p).toNat J) j/\rd (st.1.set J.toNat p) j=x) ↔ ∃ j:Int,i-1<j/\Fin t k H (st.1.set J.toNat p,st.2.set (rd t p).toNat J) j/\rd (st.1.set J.toNat p) j=x+1
    rw [h1,h2,f x x0 x1 hx]
   ·rw [if_neg hs]
    refine ih (i-1) st (by omega) (by omega) r (stay fun x x0 x1 hx e=>?_)
    have:x=p:=by omega
    rw [this] at hx
    exact hs hx
  ·rw [if_neg p0]
   exact ih (i-1) st (by omega) (by omega) r (stay fun x x0 x1 hx e=>by omega)
theorem Ziv(b:Base t short k A B){l:List Int}(hl:Lefts t short l)(ho:l.Pairwise fun p q=>rd t p=rd t q->le (A p) (A q)) :
  ∃ sa,induce t short k l=some sa/\IsPerm t.length sa/\∀ i j:Int,0<=i->i<j->j<t.length->le (B (rd sa i)) (B (rd sa j)):=by
 obtain⟨st1,e1,s1⟩:=pass1_spec b l.reverse [] (Qf t.length (-1),tails t k) (by simpa using hl.nd) (by simpa using fun p hp=>((hl.mem p).1 hp).1) Zsh
 rw [List.reverse_reverse,List.append_nil] at s1
 obtain⟨st2,e2,q2,f2⟩:=Z5j b hl ho s1
 obtain⟨st3,e3,q3,f3⟩:=Zvq b hl t.length 0 st2 (by omega) (by omega) q2 f2
 have hlong:=Z3h b hl q3 f3
 have hr:R t short k B (rd st3.2) (st3.1,tails t k):=by
  have hfin:∀ j,Fin t k (rd st3.2) (st3.1,tails t k) j->∃ c:Int,0<=c/\c<k/\hd t c<=j/\j<rd st3.2 c:=by
   rintro j ⟨c,c0,c1,h | ⟨h0,h1⟩⟩
   ·exact⟨c,c0,c1,h⟩
   ·have h0':rd (tails t k) c<=j:=h0
    rw [Zcx t k c0 c1] at h0'
    omega
  refine⟨hlong,Zel t k,fun c c0 c1=>?_,fun c c0 c1 j j0 j1=>?_,fun i j hij hi hj=>?_,fun i j hij hi hj=>?_⟩
  ·show rd st3.2 c<=rd (tails t k) c/\rd (tails t k) c<=_
   rw [Zcx t k c0 c1]
   have:=hlong.hlo c c0 c1
   omega
  ·have j0':rd (tails t k) c<=j:=j0
   rw [Zcx t k c0 c1] at j0'
   omega
  ·obtain⟨c,c0,c1,h0,h1⟩:=hfin i hi
   obtain⟨d,d0,d1,g0,g1⟩:=hfin j hj
   have m1:=hlong.low c c0 c1 i h0 h1
   have a1:=Zh t c
   have a2:=Zb0 t (d+1)
   have a3:=hlong.hlo d d0 d1
   exact q3.inj i j (by omega) hij (by omega) m1.1.1
  ·obtain⟨c,c0,c1,h0,h1⟩:=hfin i hi
   obtain⟨d,d0,d1,g0,g1⟩:=hfin j hj
   have m1:=hlong.low c c0 c1 i h0 h1
   have m2:=hlong.low d d0 d1 j g0 g1
   have a1:=Zh t c
   have a2:=Zb0 t (d+1)
   have a3:=hlong.hlo d d0 d1
   show le (B (rd st3.1 i)) (B (rd st3.1 j))
   rw [b.keys.BL _ m1.1.1 m1.1.2 m1.2.1,b.keys.BL _ m2.1.1 m2.1.2 m2.2.1]
   exact q3.ord i j (by omega) hij (by omega) m1.1.1 m2.1.1
 have hback:Back t short k (rd st3.2) (t.length-1) (st3.1,tails t k):=by
  intro p p0 p1 hs
  constructor
  ·rintro⟨j,hj,e⟩
   obtain⟨c,c0,c1,b0,b1,ht,_,hcase⟩:=hr.loc b hj
   have e':rd st3.1 j=p:=e
   rw [show rd (st3.1,tails t k).1 j=p from e] at hcase
   rcases hcase with ⟨h,_⟩ | ⟨_,h⟩
   ·rw [hs] at h; simp at h
   ·have h':rd (tails t k) c<=j:=h
    rw [Zcx t k c0 c1] at h'
    omega
  ·rintro⟨j,j0,hj,_⟩
   have:=hj.rng hr
   omega
 obtain⟨st4,e4,r4,f4⟩:=Zvs b t.length (t.length-1) (st3.1,tails t k) (by omega) (by omega) hr hback
 have hall:∀ j:Int,0<=j->j<t.length->Fin t k (rd st3.2) st4 j:=by
  intro j j0 j1
  obtain⟨c,c0,c1,b0,b1⟩:=b.bucket j0 j1
  have hh:=r4.hlo c c0 c1
  have hg:=r4.long.hlo c c0 c1
  apply Qj
  intro hn
  have h1:rd st3.2 c<=j:=by
   apply Qj
   intro h; exact hn ⟨c,c0,c1,.inl ⟨b0,by omega⟩⟩
  have h2:j<rd st4.2 c:=by
   apply Qj
   intro h; exact hn ⟨c,c0,c1,.inr ⟨by omega,b1⟩⟩
  have hcount:=Zpb (t:=t) (c:=c) (l:=seg st4.1 (hd t c) (rd st3.2 c)++seg st4.1 (rd st4.2 c) (hd t (c+1))) ?_
  ·simp only [QV,seg_length] at hcount
   omega
  ·intro p p0 p1 hp
   rw [Qr]
   by_cases hs:S short p=true
   ·obtain⟨x,hf,e⟩:=Zx6 b r4 (i:=-1) (c:=c) (by have:=Zh t (c+1); omega) f4 (t.length-p).toNat p p0 p1 (by omega) hs (.inr ⟨hp,by omega⟩)
    obtain⟨d,d0,d1,e0,e1,ht,_,hc⟩:=r4.loc b hf
    rw [e,hp] at ht
    subst ht
    rw [e] at hc
    rcases hc with ⟨h3,_⟩ | ⟨_,h3⟩
    ·rw [hs] at h3; simp at h3
    ·exact .inr (Z1.2 ⟨x,h3,e1,e⟩)
   ·obtain⟨x,x0,x1,e⟩:=r4.long.all p p0 p1 (by simpa using hs)
    rw [hp] at x0 x1
    exact .inl (Z1.2 ⟨x,x0,x1,e⟩)
 refine⟨st4.1,?_,⟨r4.long.l1,fun p hp=>?_,?_⟩,fun i j i0 hij j1=>r4.ord i j hij (hall i i0 (by omega)) (hall j (by omega) j1)⟩
 ·unfold induce
  rw [e1,Qd,e2,Qd,e3,Qd,e4]
  rfl
 ·obtain⟨i,i0,i1,rfl⟩:=Zbl hp
  rw [r4.long.l1] at i1
  obtain⟨_,_,_,_,_,_,h,_⟩:=r4.loc b (hall i i0 i1)
  exact h
 ·unfold Qat
  rw [QI]
  intro i j hi hj hij e
  have l1:=r4.long.l1
  have:=r4.inj i j (by omega) (hall i (by omega) (by omega)) (hall j (by omega) (by omega))
  rw [Zb hi,Zb hj] at this
  exact this e
end Go.Ab.Sai

namespace Go.Ab.Sai
open Go.Ab.Wd Go.Ab.Bs
section
variable (t:List Int) (short:List Bool)
open Classical in
noncomputable def keyA:Nat->Int->List Int
 | 0,_=>[]
 | d+1,p=>if Lf short p then [code t short p] else code t short p::keyA d (p+1)
noncomputable def A1 (p:Int):List Int:=keyA t short (t.length-p).toNat p
noncomputable def B1 (p:Int):List Int:=if p<t.length then code t short p::A1 t short (p+1) else []
def keyT:Nat->Int->List Int
 | 0,_=>[]
 | d+1,p=>code t short p::keyT d (p+1)
def K2(p:Int):List Int:=keyT t short (t.length-p).toNat p
end
variable {t:List Int} {short:List Bool} {k:Nat}
theorem Zc7{p:Int}(h:t.length<=p):A1 t short p=[]:=by
 unfold A1
 rw [show (t.length-p).toNat=0 by omega]
 rfl
theorem Z4{p:Int}(p1:p<t.length)(h:Lf short p):A1 t short p=[code t short p]:=by
 unfold A1
 obtain⟨d,hd⟩:∃ d,(t.length-p).toNat=d+1:=⟨(t.length-p).toNat-1,by omega⟩
 rw [hd]
 simp only [keyA]
 rw [if_pos h]
theorem Z5{p:Int}(p1:p<t.length)(h:¬ Lf short p):A1 t short p=code t short p::A1 t short (p+1):=by
 unfold A1
 obtain⟨d,hd⟩:∃ d,(t.length-p).toNat=d+1:=⟨(t.length-p).toNat-1,by omega⟩
 rw [hd,show (t.length-(p+1)).toNat=d by omega]
 simp only [keyA]
 rw [if_neg h]
theorem Za9{p:Int}(p1:p<t.length):B1 t short p=code t short p::A1 t short (p+1):=by unfold B1; rw [if_pos p1]
theorem Zh4{p:Int}(p1:p<t.length)(h:¬ Lf short p):A1 t short p=B1 t short p:=by rw [Z5 p1 h,Za9 p1]
theorem Zgp{p:Int}(h:t.length<=p):K2 t short p=[]:=by
 unfold K2
 rw [show (t.length-p).toNat=0 by omega]
 rfl
theorem Zaf{p:Int}(p1:p<t.length):K2 t short p=code t short p::K2 t short (p+1):=by
 unfold K2
 obtain⟨d,hd⟩:∃ d,(t.length-p).toNat=d+1:=⟨(t.length-p).toNat-1,by omega⟩
 rw [hd,show (t.length-(p+1)).toNat=d by omega]
 rfl
theorem Zqv{p:Int}(h:S short p=false):¬ Lf short p:=fun hl=>by rw [hl.2.1] at h; simp at h
theorem Zow{p:Int}(h:S short p=true):¬ Lf short (p+1):=fun hl=>by
 have:=hl.2.2
 rw [show p+1-1=p by omega,h] at this
 simp at this
theorem Z54(sh:Short t short):Keys t short (A1 t short) (B1 t short):=by
 refine⟨Zc7 (by omega),fun p p0 p1 hs=>Z5 p1 (Zqv hs),fun p p0 p1 hl=>⟨[],Z4 p1 hl⟩,fun p p0 p1 hs=>(Zh4 p1 (Zqv hs)).symm,fun p p0 p1 hs=>?_⟩
 have h2:=sh.yes p0 p1 hs
 rw [Za9 p1,Zh4 h2.1 (Zow hs)]
theorem Z55(t:List Int)(short:List Bool):Keys t short (K2 t short) (K2 t short):=
 ⟨Zgp (by omega),fun p p0 p1 _=>Zaf p1,fun p p0 p1 _=>⟨_,Zaf p1⟩,fun _ _ _ _=>rfl,fun p p0 p1 _=>Zaf p1⟩
theorem Zcq{p q:Int}(h:code t short p=code t short q):rd t p=rd t q/\S short p=S short q:=by
 unfold code at h
 cases h1:S short p <;> cases h2:S short q <;> simp [h1,h2] at h ⊢ <;> omega
theorem Z3g(sh:Short t short)(d:Nat):∀ p q:Int,0<=p->p<t.length->0<=q->q<t.length->(t.length:Int)-p=d->rd t p=rd t q->S short p=false->S short q=true->sl t p q:=by
 induction d with
 | zero=>intro p q p0 p1 q0 q1 hd _ _ _; omega
 | succ d ih=>
  intro p q p0 p1 q0 q1 hd he hp hq
  obtain⟨q2,hq2⟩:=sh.yes q0 q1 hq
  rw [Zcc p0 p1 q0 q1]
  refine .inr ⟨he,?_⟩
  by_cases e:p+1=t.length
  ·exact Zyl (by omega) (by omega) q2
  ·have hp2:=sh.no p0 (by omega) hp
   by_cases hlt:rd t (p+1)<rd t (q+1)
   ·rw [Zcc (by omega) (by omega) (by omega) q2]
    exact .inl hlt
   ·rcases hp2 with h1 | ⟨h1,h2⟩
    ·rcases hq2 with h3 | ⟨h3,h4⟩ <;> omega
    ·rcases hq2 with h3 | ⟨h3,h4⟩
     ·omega
     ·exact ih (p+1) (q+1) (by omega) (by omega) (by omega) q2 (by omega) (by omega) h2 h4
theorem Z51(sh:Short t short)(d:Nat):∀ p q:Int,0<=p->p<=t.length->0<=q->q<=t.length->(t.length:Int)-p=d->llt (K2 t short p) (K2 t short q)->sl t p q:=by
 induction d with
 | zero=>
  intro p q p0 p1 q0 q1 hd h
  rw [Zgp (by omega)] at h
  by_cases e:q<t.length
  ·exact Zyl (by omega) q0 e
  ·rw [Zgp (by omega)] at h; simp [llt] at h
 | succ d ih=>
  intro p q p0 p1 q0 q1 hd h
  by_cases e:q<t.length
  ·rw [Zaf (by omega),Zaf e] at h
   simp only [llt] at h
   rw [Zcc p0 (by omega) q0 e]
   rcases h with h | ⟨h1,h2⟩
   ·by_cases hlt:rd t p<rd t q
    ·exact .inl hlt
    ·have:rd t p=rd t q/\S short p=false/\S short q=true:=by
      unfold code at h
      cases h1:S short p <;> cases h2:S short q <;> simp [h1,h2] at h ⊢ <;> omega
     have:=Z3g sh (t.length-p).toNat p q p0 (by omega) q0 e (by omega) this.1 this.2.1 this.2.2
     rw [Zcc p0 (by omega) q0 e] at this
     exact this
   ·obtain⟨h3,_⟩:=Zcq h1
    exact .inr ⟨h3,ih (p+1) (q+1) (by omega) (by omega) (by omega) (by omega) (by omega) h2⟩
  ·rw [Zgp (p:=q) (by omega)] at h
   cases hk:K2 t short p <;> rw [hk] at h <;> simp [llt] at h
theorem Z0h(sh:Short t short)(d:Nat):∀ p q:Int,0<=p->p<t.length->0<=q->q<t.length->(t.length:Int)-p=d->llt (B1 t short p) (B1 t short q)->llt (K2 t short p) (K2 t short q):=by
 induction d with
 | zero=>intro p q p0 p1 q0 q1 hd _; omega
 | succ d ih=>
  intro p q p0 p1 q0 q1 hd h
  rw [Za9 p1,Za9 q1] at h
  rw [Zaf p1,Zaf q1]
  simp only [llt] at h ⊢
  rcases h with h | ⟨hc,h⟩
  ·exact .inl h
  refine .inr ⟨hc,?_⟩
  obtain⟨_,hS⟩:=Zcq hc
  by_cases ep:p+1=t.length
  ·rw [Zc7 (p:=p+1) (by omega)] at h
   rw [Zgp (p:=p+1) (by omega)]
   by_cases eq:q+1=t.length
   ·rw [Zc7 (by omega)] at h; simp [llt] at h
   ·rw [Zaf (p:=q+1) (by omega)]; simp [llt]
  by_cases eq:q+1=t.length
  ·rw [Zc7 (p:=q+1) (by omega)] at h
   cases hk:A1 t short (p+1) <;> rw [hk] at h <;> simp [llt] at h
  by_cases lp:Lf short (p+1)
  ·have hSp:S short p=false:=by have:=lp.2.2; rwa [show p+1-1=p by omega] at this
   rw [Z4 (by omega) lp] at h
   rw [Zaf (p:=p+1) (by omega),Zaf (p:=q+1) (by omega)]
   by_cases lq:Lf short (q+1)
   ·rw [Z4 (by omega) lq] at h
    simp only [llt] at h ⊢
    rcases h with h | ⟨_,h⟩
    ·exact .inl h
    ·exact h.elim
   ·rw [Z5 (by omega) lq] at h
    simp only [llt] at h ⊢
    rcases h with h | ⟨h1,_⟩
    ·exact .inl h
    ·exfalso
     obtain⟨_,h2⟩:=Zcq h1
     rw [lp.2.1] at h2
     exact lq ⟨by omega,h2.symm,by rw [show q+1-1=q by omega,<-hS]; exact hSp⟩
  ·by_cases lq:Lf short (q+1)
   ·rw [Z5 (by omega) lp,Z4 (by omega) lq] at h
    rw [Zaf (p:=p+1) (by omega),Zaf (p:=q+1) (by omega)]
    simp only [llt] at h ⊢
    rcases h with h | ⟨_,h⟩
    ·exact .inl h
    ·cases hk:A1 t short (p+1+1) <;> rw [hk] at h <;> simp [llt] at h
   ·rw [Zh4 (by omega) lp,Zh4 (by omega) lq] at h
    exact ih (p+1) (q+1) (by omega) (by omega) (by omega) (by omega) (by omega) h
structure Next (t:List Int) (short:List Bool) (p p':Int):Prop where
 gt:p<p'
 lt:p'<t.length
 left:Lf short p'
 none_:∀ x:Int,p<x->x<p'->¬ Lf short x
theorem Z0g(sh:Short t short)(d:Nat):∀ p q:Int,0<=p->p<t.length->0<=q->q<t.length->(t.length:Int)-p=d->p≠q->B1 t short p=B1 t short q ->
  ∃ p' q',Next t short p p'/\Next t short q q'/\(llt (K2 t short p') (K2 t short q')->llt (K2 t short p) (K2 t short q)):=by
 induction d with
 | zero=>intro p q p0 p1 q0 q1 hd _ _; omega
 | succ d ih=>
  intro p q p0 p1 q0 q1 hd hne h
  rw [Za9 p1,Za9 q1] at h
  injection h with hc h
  obtain⟨_,hS⟩:=Zcq hc
  have hstep:llt (K2 t short (p+1)) (K2 t short (q+1))->llt (K2 t short p) (K2 t short q):=by
   intro hk
   rw [Zaf p1,Zaf q1]
   simp only [llt]
   exact .inr ⟨hc,hk⟩
  have hA:∀ x:Int,x<t.length->A1 t short x≠[]:=by
   intro x hx e
   by_cases lx:Lf short x
   ·rw [Z4 hx lx] at e; simp at e
   ·rw [Z5 hx lx] at e; simp at e
  by_cases ep:p+1=t.length
  ·rw [Zc7 (p:=p+1) (by omega)] at h
   by_cases eq:q+1=t.length
   ·omega
   ·exact absurd h.symm (hA _ (by omega))
  by_cases eq:q+1=t.length
  ·rw [Zc7 (p:=q+1) (by omega)] at h
   exact absurd h (hA _ (by omega))
  by_cases lp:Lf short (p+1)
  ·have hSp:S short p=false:=by have:=lp.2.2; rwa [show p+1-1=p by omega] at this
   have lq:Lf short (q+1):=by
    apply Qj
    intro lq
    rw [Z4 (by omega) lp,Z5 (by omega) lq] at h
    injection h with h1 _
    obtain⟨_,h2⟩:=Zcq h1
    rw [lp.2.1] at h2
    exact lq ⟨by omega,h2.symm,by rw [show q+1-1=q by omega,<-hS]; exact hSp⟩
   exact⟨p+1,q+1,⟨by omega,by omega,lp,fun x _ _=>by omega⟩,⟨by omega,by omega,lq,fun x _ _=>by omega⟩,hstep⟩
  ·have lq:¬ Lf short (q+1):=by
    intro lq
    have hSq:S short q=false:=by have:=lq.2.2; rwa [show q+1-1=q by omega] at this
    rw [Z4 (p:=q+1) (by omega) lq,Z5 (by omega) lp] at h
    injection h with h1 _
    obtain⟨_,h2⟩:=Zcq h1
    rw [lq.2.1] at h2
    exact lp ⟨by omega,h2,by rw [show p+1-1=p by omega,hS]; exact hSq⟩
   rw [Zh4 (by omega) lp,Zh4 (by omega) lq] at h
   obtain⟨p',q',n1,n2,hk⟩:=ih (p+1) (q+1) (by omega) (by omega) (by omega) (by omega) (by omega) (by omega) h
   refine⟨p',q',⟨by have:=n1.gt; omega,n1.lt,n1.left,fun x x0 x1=>?_⟩,⟨by have:=n2.gt; omega,n2.lt,n2.left,fun x x0 x1=>?_⟩,fun h=>hstep (hk h)⟩
   ·by_cases e:x=p+1
    ·rw [e]; exact lp
    ·exact n1.none_ x (by omega) x1
   ·by_cases e:x=q+1
    ·rw [e]; exact lq
    ·exact n2.none_ x (by omega) x1
structure Asc (t:List Int) (short:List Bool) (l:List Int):Prop extends Lefts t short l where
 asc:l.Pairwise (· < ·)
theorem Asc.lt{l:List Int}(h:Asc t short l){i j:Int}(i0:0<=i)(hij:i<j)(j1:j<l.length):rd l i<rd l j:=by
 obtain⟨i,rfl⟩:=Qh i0
 obtain⟨j,rfl⟩:=Qh (show 0<=j by omega)
 rw [Zb (by omega),Zb (by omega)]
 exact QI.1 h.asc i j (by omega) (by omega) (by omega)
theorem Asc.next{l:List Int}(h:Asc t short l){i p':Int}(i0:0<=i)(i1:i<l.length)(n:Next t short (rd l i) p'):i+1<l.length/\rd l (i+1)=p':=by
 have hi:=(h.mem _).1 (Ze (l:=l) i0 i1)
 have hm:p'∈l:=(h.mem p').2 ⟨⟨by have:=n.gt; omega,n.lt⟩,n.left⟩
 obtain⟨j,j0,j1,e⟩:=Zbl hm
 have hj:i<j:=by
  apply Qj
  intro hn
  by_cases e':j=i
  ·rw [e'] at e; have:=n.gt; omega
  ·have:=h.lt j0 (show j<i by omega) i1
   have:=n.gt
   omega
 by_cases e':j=i+1
 ·exact⟨by omega,by rw [<-e',e]⟩
 ·exfalso
  have h1:=h.lt i0 (show i<i+1 by omega) (show i+1<l.length by omega)
  have h2:=h.lt (i:=i+1) (by omega) (show i+1<j by omega) j1
  exact n.none_ (rd l (i+1)) h1 (by omega) ((h.mem _).1 (Ze (by omega) (by omega))).2
structure Names (t:List Int) (short:List Bool) (nm:List Int) (top:Int):Prop where
 rng:∀ p:Int,0<=p->p<t.length->Lf short p->0<=rd nm p/\rd nm p<=top
 lt:∀ p q:Int,0<=p->p<t.length->0<=q->q<t.length->Lf short p->Lf short q->(rd nm p<rd nm q ↔ llt (B1 t short p) (B1 t short q))
theorem Names.eq{nm:List Int}{top:Int}(h:Names t short nm top){p q:Int}(p0:0<=p)(p1:p<t.length)(q0:0<=q)(q1:q<t.length)(lp:Lf short p)(lq:Lf short q)(e:rd nm p=rd nm q):B1 t short p=B1 t short q:=by
 rcases Zds (B1 t short p) (B1 t short q) with hh | hh | hh
 ·have:=(h.lt p q p0 p1 q0 q1 lp lq).2 hh; omega
 ·exact hh
 ·have:=(h.lt q p q0 q1 p0 p1 lq lp).2 hh; omega
theorem Zvw(sh:Short t short){l nm:List Int}{top:Int}(h:Asc t short l)(hn:Names t short nm top)(r:List Int)(hr:r=l.map (rd nm))(d:Nat):∀ i j:Int,0<=i->i<l.length->0<=j->j<l.length->(l.length:Int)-i=d->sl r i j->llt (K2 t short (rd l i)) (K2 t short (rd l j)):=by
 have hrl:r.length=l.length:=by rw [hr]; simp
 have hrr:∀ x:Int,0<=x->x<l.length->rd r x=rd nm (rd l x):=by
  intro x x0 x1
  obtain⟨x,rfl⟩:=Qh x0
  rw [Zb (by omega),Zb (by omega)]
  simp [hr]
 induction d with
 | zero=>intro i j i0 i1 j0 j1 hd _; omega
 | succ d ih=>
  intro i j i0 i1 j0 j1 hd hs
  have hne:i≠j:=fun e=>by rw [e] at hs; exact Zaz _ _ hs
  rw [Zcc i0 (by omega) j0 (by omega),hrr i i0 i1,hrr j j0 j1] at hs
  have hi:=(h.mem _).1 (Ze (l:=l) i0 i1)
  have hj:=(h.mem _).1 (Ze (l:=l) j0 j1)
  rcases hs with hs | ⟨he,hs⟩
  ·exact Z0h sh (t.length-rd l i).toNat _ _ hi.1.1 hi.1.2 hj.1.1 hj.1.2 (by omega) ((hn.lt _ _ hi.1.1 hi.1.2 hj.1.1 hj.1.2 hi.2 hj.2).1 hs)
  ·have hB:=hn.eq hi.1.1 hi.1.2 hj.1.1 hj.1.2 hi.2 hj.2 he
   have hlne:rd l i≠rd l j:=fun e=>hne (Zcu h.nd i0 i1 j0 j1 e)
   obtain⟨p',q',n1,n2,hk⟩:=Z0g sh (t.length-rd l i).toNat _ _ hi.1.1 hi.1.2 hj.1.1 hj.1.2 (by omega) hlne hB
   obtain⟨i2,e1⟩:=h.next i0 i1 n1
   obtain⟨j2,e2⟩:=h.next j0 j1 n2
   refine hk ?_
   rw [<-e1,<-e2]
   exact ih (i+1) (j+1) (by omega) i2 (by omega) j2 (by omega) hs
theorem Zu1(hpos:0<t.length)(hrng:∀ x∈t,0<=x/\x<k)(sh:Short t short){l:List Int}(h:Lefts t short l) :
  ∃ sa,induce t short k l=some sa/\IsPerm t.length sa/\∀ i j:Int,0<=i->i<j->j<t.length->le (B1 t short (rd sa i)) (B1 t short (rd sa j)):=by
 refine Ziv ⟨hpos,hrng,sh,Z54 sh⟩ h ?_
 refine List.Pairwise.imp_of_mem (R:=fun _ _=>True) ?_ (QI.2 fun _ _ _ _ _=>trivial)
 intro p q hp hq _ he
 have mp:=(h.mem p).1 hp
 have mq:=(h.mem q).1 hq
 rw [Z4 mp.1.2 mp.2,Z4 mq.1.2 mq.2,Zb3 mp.2.2.1,Zb3 mq.2.2.1,he]
 exact le_refl _
theorem Zsg(hpos:0<t.length)(hrng:∀ x∈t,0<=x/\x<k)(sh:Short t short){l nm:List Int}{top:Int}(h:Asc t short l)(hn:Names t short nm top){sar:List Int}(hs:IsSA (l.map (rd nm)) sar) :
  ∃ sa,induce t short k (sar.map (rd l))=some sa/\IsSA t sa:=by
 have hlen:sar.length=l.length:=by rw [hs.perm.len]; simp
 have hL:Lefts t short (sar.map (rd l)):=by
  refine⟨?_,fun p=>?_⟩
  ·unfold Qat
   rw [QR]
   refine hs.perm.nd.imp_of_mem ?_
   intro a b ha hb hne e
   have ra:=hs.perm.rng a ha
   have rb:=hs.perm.rng b hb
   simp only [QC] at ra rb
   exact hne (Zcu h.nd ra.1 ra.2 rb.1 rb.2 e)
  ·rw [<-h.mem p,Qai]
   constructor
   ·rintro⟨i,hi,rfl⟩
    have ri:=hs.perm.rng i hi
    simp only [QC] at ri
    exact Ze ri.1 ri.2
   ·intro hp
    obtain⟨i,i0,i1,e⟩:=Zbl hp
    exact⟨i,hs.perm.mem i0 (by simpa using i1),e⟩
 obtain⟨sa,e1,hp,ho⟩:=Ziv (A:=K2 t short) (B:=K2 t short) ⟨hpos,hrng,sh,Z55 t short⟩ hL (by
  rw [QR]
  refine hs.ord.imp_of_mem ?_
  intro a b ha hb hab _
  have ra:=hs.perm.rng a ha
  have rb:=hs.perm.rng b hb
  simp only [QC] at ra rb
  exact Zxm (Zvw sh h hn _ rfl (l.length-a).toNat a b ra.1 ra.2 rb.1 rb.2 (by omega) hab))
 refine⟨sa,e1,IsSA.mk' hp fun i i1 i2=>?_⟩
 have hl:=hp.len
 have ra:=hp.rng _ (Ze (l:=sa) (i:=i-1) (by omega) (by omega))
 have rb:=hp.rng _ (Ze (l:=sa) (i:=i) (by omega) (by omega))
 have hle:=ho (i-1) i (by omega) (by omega) i2
 refine Z51 sh (t.length-rd sa (i-1)).toNat _ _ ra.1 (by omega) rb.1 (by omega) (by omega) ?_
 rcases Zds (K2 t short (rd sa (i-1))) (K2 t short (rd sa i)) with hh | hh | hh
 ·exact hh
 ·exfalso
  have hlen2:∀ (d:Nat) (p:Int),(keyT t short d p).length=d:=by
   intro d
   induction d with
   | zero=>intro p; rfl
   | succ d ih=>intro p; simp [keyT,ih]
  have:=congrArg Qae hh
  unfold K2 at this
  rw [hlen2,hlen2] at this
  have:=Zcu hp.nd (i:=i-1) (j:=i) (by omega) (by omega) (by omega) (by omega) (by omega)
  omega
 ·exact absurd hh hle
def name(lf:Int->Bool)(same:Int->Int->Bool):List Int->List Int->Int->Int->List Int×Int
 | [],nm,top,_=>(nm,top)
 | p::ps,nm,top,last=>
  if lf p=true then
   let top':=if last<0\/same last p=false then top+1 else top
   name lf same ps (nm.set p.toNat top') top' p
  else name lf same ps nm top last
structure NmInv (t:List Int) (short:List Bool) (done:List Int) (nm:List Int) (top last:Int):Prop where
 len:nm.length=t.length
 rng:∀ p∈done,Lf short p->0<=rd nm p/\rd nm p<=top
 lt:∀ p∈done,∀ q∈done,Lf short p->Lf short q->(rd nm p<rd nm q ↔ llt (B1 t short p) (B1 t short q))
 lst:(last<0/\top=-1/\∀ p∈done,¬ Lf short p)\/(last∈done/\Lf short last/\rd nm last=top/\∀ p∈done,Lf short p->le (B1 t short p) (B1 t short last))
 top_:-1<=top
theorem Zhn(lf:Int->Bool)(same:Int->Int->Bool)(hlf:∀ p:Int,0<=p->p<t.length->(lf p=true ↔ Lf short p))(hsame:∀ p q:Int,0<=p->p<t.length->0<=q->q<t.length->Lf short p->Lf short q->p≠q->(same p q=true ↔ B1 t short p=B1 t short q)) :
  ∀ (ps done:List Int) (nm:List Int) (top last:Int),(∀ p∈done++ps,0<=p/\p<t.length)->(done++ps).Nodup->(done++ps).Pairwise (fun p q=>le (B1 t short p) (B1 t short q))->NmInv t short done nm top last ->
   ∃ nm' top' last',name lf same ps nm top last=(nm',top')/\NmInv t short (done++ps) nm' top' last'/\top'<=top+ps.length
 | [],done,nm,top,last,_,_,_,h=>⟨nm,top,last,rfl,by simpa using h,by simp⟩
 | p::ps,done,nm,top,last,hr,hnd,hs,h=>by
  have hp:=hr p (by simp)
  have e:done++p::ps=(done++[p])++ps:=by simp
  have hpd:p ∉ done:=by
   intro hm
   have:=(QA.1 hnd).2.2 p hm p (QZ ..)
   exact this rfl
  have hle:∀ q∈done,le (B1 t short q) (B1 t short p):=fun q hq=>(Qan.1 hs).2.2 q hq p (QZ ..)
  rw [e] at hr hnd hs ⊢
  simp only [name]
  by_cases hl:lf p=true
  ·have hL:=(hlf p hp.1 hp.2).1 hl
   rw [if_pos hl]
   obtain⟨top',ht'⟩:∃ x,(if last<0\/same last p=false then top+1 else top)=x:=⟨_,rfl⟩
   rw [ht']
   have hrd:∀ q:Int,0<=q->rd (nm.set p.toNat top') q=if p=q then top' else rd nm q:=fun q q0=>Zs hp.1 (by rw [h.len]; exact hp.2) q0
   have hold:∀ q∈done,rd (nm.set p.toNat top') q=rd nm q:=fun q hq=>by
    have hq0:=hr q (by simp [hq])
    have hne:¬ p=q:=fun e=>hpd (e ▸ hq)
    rw [hrd q hq0.1,if_neg hne]
   have hnew:rd (nm.set p.toNat top') p=top':=by rw [hrd p hp.1,if_pos rfl]
   have key:top<=top'/\top'<=top+1/\0<=top'/\∀ q∈done,Lf short q->(rd nm q<top' ↔ llt (B1 t short q) (B1 t short p))/\rd nm q<=top':=by
    rcases h.lst with ⟨l0,l1,l2⟩ | ⟨l0,l1,l2,l3⟩
    ·rw [if_pos (.inl l0)] at ht'
     exact⟨by omega,by omega,by omega,fun q hq hLq=>absurd hLq (l2 q hq)⟩
    ·have hlast:=hr last (by simp [l0])
     have hne:last≠p:=fun e=>hpd (e ▸ l0)
     have hsm:=hsame last p hlast.1 hlast.2 hp.1 hp.2 l1 hL hne
     have hrl:=h.rng last l0 l1
     by_cases c:same last p=true
     ·have hB:=hsm.1 c
      rw [if_neg (by rw [c]; simp; omega)] at ht'
      refine⟨by omega,by omega,by omega,fun q hq hLq=>⟨?_,by have:=h.rng q hq hLq; omega⟩⟩
      rw [<-hB,<-h.lt q hq last l0 hLq l1,l2]
      omega
     ·have c':same last p=false:=by simpa using c
      rw [if_pos (.inr c')] at ht'
      refine⟨by omega,by omega,by omega,fun q hq hLq=>⟨⟨fun _=>?_,fun _=>by have:=h.rng q hq hLq; omega⟩,by have:=h.rng q hq hLq; omega⟩⟩
      have hlp:llt (B1 t short last) (B1 t short p):=by
       rcases Zds (B1 t short last) (B1 t short p) with x | x | x
       ·exact x
       ·exact absurd (hsm.2 x) c
       ·exact absurd x (hle last l0)
      rcases Zds (B1 t short q) (B1 t short last) with x | x | x
      ·exact Zeu x hlp
      ·rw [x]; exact hlp
      ·exact absurd x (l3 q hq hLq)
   obtain⟨k1,k2,k3,k4⟩:=key
   have h':NmInv t short (done++[p]) (nm.set p.toNat top') top' p:=by
    refine⟨by simpa using h.len,fun q hq hLq=>?_,fun q hq q' hq' hLq hLq'=>?_,.inr ⟨by simp,hL,hnew,fun q hq hLq=>?_⟩,by omega⟩
    ·rcases Qr.1 hq with hq | hq
     ·rw [hold q hq]
      have:=h.rng q hq hLq
      have:=(k4 q hq hLq).2
      omega
     ·rw [Qq] at hq
      rw [hq,hnew]; omega
    ·rcases Qr.1 hq with hq | hq
     ·rcases Qr.1 hq' with hq' | hq'
      ·rw [hold q hq,hold q' hq']
       exact h.lt q hq q' hq' hLq hLq'
      ·rw [Qq] at hq'
       rw [hq',hnew,hold q hq]
       exact (k4 q hq hLq).1
     ·rw [Qq] at hq
      rw [hq]
      rcases Qr.1 hq' with hq' | hq'
      ·rw [hnew,hold q' hq']
       constructor
       ·intro hlt
        have:=(k4 q' hq' hLq').2
        omega
       ·intro hlt
        exact absurd hlt (hle q' hq')
      ·rw [Qq] at hq'
       rw [hq']
       constructor
       ·intro hlt; omega
       ·intro hlt; exact absurd hlt (Zch _)
    ·rcases Qr.1 hq with hq | hq
     ·exact hle q hq
     ·rw [Qq] at hq
      rw [hq]; exact le_refl _
   obtain⟨nm',top'',last',e1,e2,e3⟩:=Zhn lf same hlf hsame ps (done++[p]) _ _ _ hr hnd hs h'
   exact⟨nm',top'',last',e1,e2,by simp only [Qz]; omega⟩
  ·have hL:¬ Lf short p:=fun x=>hl ((hlf p hp.1 hp.2).2 x)
   rw [if_neg hl]
   have h':NmInv t short (done++[p]) nm top last:=by
    have hmem:∀ q∈done++[p],Lf short q->q∈done:=by
     intro q hq hLq
     rcases Qr.1 hq with hq | hq
     ·exact hq
     ·rw [Qq] at hq
      rw [hq] at hLq
      exact absurd hLq hL
    refine⟨h.len,fun q hq hLq=>h.rng q (hmem q hq hLq) hLq,fun q hq q' hq' hLq hLq'=>h.lt q (hmem q hq hLq) q' (hmem q' hq' hLq') hLq hLq',?_,h.top_⟩
    rcases h.lst with ⟨l0,l1,l2⟩ | ⟨l0,l1,l2,l3⟩
    ·exact .inl ⟨l0,l1,fun q hq hLq=>l2 q (hmem q hq hLq) hLq⟩
    ·exact .inr ⟨by simp [l0],l1,l2,fun q hq hLq=>l3 q (hmem q hq hLq) hLq⟩
   obtain⟨nm',top'',last',e1,e2,e3⟩:=Zhn lf same hlf hsame ps (done++[p]) _ _ _ hr hnd hs h'
   exact⟨nm',top'',last',e1,e2,by simp only [Qz]; omega⟩
end Go.Ab.Sai

namespace Go.Ab
open Go Go.Proofs Go.Ab.Wd Go.Ab.Bs
theorem Store.Ints.rd{σ:Store}{h:Hdl}{l:List Int}(s:σ.Ints h l){i:Int}(h0:0<=i)(h1:i<l.length):σ.ldInt .i64 (h.idx i 1)=some (Wd.rd l i):=Store.Ints.ld s h0 h1
theorem Store.Bools.rd{σ:Store}{h:Hdl}{l:List Bool}(s:σ.Bools h l){i:Int}(h0:0<=i)(h1:i<l.length):σ.ldBool (h.idx i 1)=some (Wd.rdOf false l i):=Store.Bools.ld s h0 h1
structure Sorter (σ:Store) (p:Ptr) (ht hs ha:Hdl) (kk:Nat) (t:List Int) (sh:List Bool) (sa:List Int):Prop where
 nn:∃ x,p=some x
 t_:σ.ldSl (Qe p 0)=some ht
 k_:σ.ldInt .i64 (Qe p 1)=some (kk:Int)
 s_:σ.ldSl (Qe p 2)=some hs
 a_:σ.ldSl (Qe p 3)=some ha
 t:σ.Ints ht t
 s:σ.Bools hs sh
 a:σ.Ints ha sa
def lft(sh:List Bool)(i:Int):Bool:=decide (0<i)&&(rdOf false sh i&&!rdOf false sh (i-1))
theorem Zet{σ:Store}{p:Ptr}{ht hs ha:Hdl}{kk:Nat}{t:List Int}{sh:List Bool}{sa:List Int}(S:Sorter σ p ht hs ha kk t sh sa){i:Int}(h0:0<=i)(h1:i<sh.length)(hn:sh.length<2^62) :
  Runs Qc 172 [.ptr p,.int .i64 i] σ (.bool (lft sh i)) σ:=by
 refine rI Tryz.f172 (Ev.of fun k=>?_)
 obtain⟨x,rfl⟩:=S.nn
 have hl:=S.s.blen
 rw [Z2a]
 by_cases c:0<i
 ·have w1:Qa .i64 (i-1)=i-1:=Za (by omega) (by omega)
  simp only [c,decide_true,if_true,Qd,S.s_,w1]
  rw [if_pos (by omega),S.s.rd h0 h1]
  simp only [Qd,lft,c,decide_true,Bool.true_and]
  cases h:rdOf false sh i with
  | false=>simp only [Bool.false_and]; rfl
  | true=>
   rw [if_pos rfl,if_pos (by omega),S.s.rd (by omega) (by omega)]
   rfl
 ·simp [c,lft]
end Go.Ab

namespace Go.Ab
open Go Go.Proofs Go.Ab.Wd Go.Ab.Bs
structure Off2 (a b:Nat) (σ σ':Store):Prop where
 prot:σ'.prot=σ.prot
 len:σ'.objs.length=σ.objs.length
 off:∀ c,c≠a->c≠b->σ'.objs[c]?=σ.objs[c]?
theorem Off2.refl(a b:Nat)(σ:Store):Off2 a b σ σ:=⟨rfl,rfl,fun _ _ _=>rfl⟩
theorem Off2.trans{a b:Nat}{σ σ1 σ2:Store}(h:Off2 a b σ σ1)(k:Off2 a b σ1 σ2):Off2 a b σ σ2:=⟨k.prot.trans h.prot,k.len.trans h.len,fun c h1 h2=>(k.off c h1 h2).trans (h.off c h1 h2)⟩
theorem Off.two{a b:Nat}{σ σ1 σ2:Store}(h:Off a σ σ1)(k:Off b σ1 σ2):Off2 a b σ σ2:=⟨k.prot.trans h.prot,k.len.trans h.len,fun c h1 h2=>(k.off c h2).trans (h.off c h1)⟩
theorem Store.Wr.off{σ σ':Store}{h:Hdl}(w:σ.Wr h){b:Nat}(k:Off b σ σ')(hr:h.row≠some b):σ'.Wr h:=by
 obtain⟨c,o,cs,h1,h2,h3⟩:=w
 exact⟨c,o,cs,h1,(k.off c (fun e=>hr (by simp [Hdl.row,h1,e]))).trans h2,by rw [k.prot]; exact h3⟩
structure Ind (σ:Store) (c1 c2 p:Ptr) (ht hs ha hh:Hdl) (ba bh kk:Nat) (t:List Int) (sh:List Bool) (st:Sai.St):Prop where
 so:Sorter σ p ht hs ha kk t sh st.1
 e1:σ.ldPtr c1=some p
 e2:σ.ldSl c2=some hh
 h:σ.Ints hh st.2
 wa:σ.Wr ha
 wh:σ.Wr hh
 ra:ha.row=some ba
 rh:hh.row=some bh
 ab:ba≠bh
 far:∀ b,b=ba\/b=bh->p.row≠some b/\c1.row≠some b/\c2.row≠some b/\ht.row≠some b/\hs.row≠some b
theorem Sorter.off{σ σ':Store}{p:Ptr}{ht hs ha:Hdl}{kk:Nat}{t:List Int}{sh:List Bool}{sa:List Int}(S:Sorter σ p ht hs ha kk t sh sa){b:Nat}(k:Off b σ σ')(r1:p.row≠some b)(r2:ht.row≠some b)(r3:hs.row≠some b)
  {sa':List Int} (ha':σ'.Ints ha sa'):Sorter σ' p ht hs ha kk t sh sa':=
 ⟨S.nn,(Zz (Z6 k (by simpa using r1))).trans S.t_,(Zkp (Z6 k (by simpa using r1))).trans S.k_,(Zz (Z6 k (by simpa using r1))).trans S.s_,(Zz (Z6 k (by simpa using r1))).trans S.a_,S.t.off k r2,S.s.off k r3,ha'⟩
theorem Ind.seta{σ σ':Store}{c1 c2 p:Ptr}{ht hs ha hh:Hdl}{ba bh kk:Nat}{t:List Int}{sh:List Bool}{st:Sai.St}(I:Ind σ c1 c2 p ht hs ha hh ba bh kk t sh st)(k:Off ba σ σ'){sa':List Int}(ha':σ'.Ints ha sa')(w:σ'.Wr ha) :
  Ind σ' c1 c2 p ht hs ha hh ba bh kk t sh (sa',st.2):=by
 obtain⟨f1,f2,f3,f4,f5⟩:=I.far ba (.inl rfl)
 have hr:hh.row≠some ba:=by rw [I.rh]; intro e; injection e with e; exact I.ab e.symm
 exact⟨I.so.off k f1 f4 f5 ha',(Zao (Z6 k f2)).trans I.e1,(Zz (Z6 k f3)).trans I.e2,I.h.off k hr,w,I.wh.off k hr,I.ra,I.rh,I.ab,I.far⟩
theorem Ind.seth{σ σ':Store}{c1 c2 p:Ptr}{ht hs ha hh:Hdl}{ba bh kk:Nat}{t:List Int}{sh:List Bool}{st:Sai.St}(I:Ind σ c1 c2 p ht hs ha hh ba bh kk t sh st)(k:Off bh σ σ'){hd':List Int}(h':σ'.Ints hh hd')(w:σ'.Wr hh) :
  Ind σ' c1 c2 p ht hs ha hh ba bh kk t sh (st.1,hd'):=by
 obtain⟨f1,f2,f3,f4,f5⟩:=I.far bh (.inr rfl)
 have hr:ha.row≠some bh:=by rw [I.ra]; intro e; injection e with e; exact I.ab e
 exact⟨I.so.off k f1 f4 f5 (Store.Sl.off I.so.a k hr),(Zao (Z6 k f2)).trans I.e1,(Zz (Z6 k f3)).trans I.e2,h',I.wa.off k hr,w,I.ra,I.rh,I.ab,I.far⟩
theorem Zxf(l:List Int)(n:Nat)(x:Int):(intsL l).set n (.int .i64 x)=intsL (l.set n x):=by simp [intsL,List.map_set]
theorem Zb7{σ:Store}{h:Hdl}{l:List Int}(s:σ.Ints h l)(w:σ.Wr h){i:Int}(h0:0<=i)(h1:i<l.length)(x:Int){b:Nat}(hb:h.row=some b) :
  ∃ σ',σ.stL (h.idx i 1) [.int .i64 x] 0=some σ'/\Off b σ σ'/\σ'.Ints h (l.set i.toNat x)/\σ'.Wr h:=by
 obtain⟨σ',h1,h2,h3,h4⟩:=Z31 s w h0 (by simpa using h1) (v:=.int .i64 x) rfl hb
 rw [Zxf] at h3
 exact⟨σ',h1,h2,h3,h4⟩
theorem Zra{σ:Store}{c1 c2 p:Ptr}{ht hs ha hh:Hdl}{ba bh kk:Nat}{t:List Int}{sh:List Bool}{st st':Sai.St}(I:Ind σ c1 c2 p ht hs ha hh ba bh kk t sh st){i:Int}(hn:st.1.length<2^62)(h:Sai.put t sh st i=some st') :
  ∃ σ',Runs Qc 220 [.int .i64 i,.ptr c1,.ptr c2] σ (.tuple []) σ'/\Ind σ' c1 c2 p ht hs ha hh ba bh kk t sh st'/\Off2 ba bh σ σ':=by
 have run:∀ σ',(∀ k,Qx Qc (gm Qc k) Qi k Tryz.f220 [.int .i64 i,.ptr c1,.ptr c2] σ=some (.tuple [],σ'))->Runs Qc 220 [.int .i64 i,.ptr c1,.ptr c2] σ (.tuple []) σ':=
  fun σ' h=>rI Tryz.f220 (Ev.of h)
 obtain⟨x,hx⟩:=I.so.nn
 have l1:=I.so.s.blen
 have l2:=I.so.t.ilen
 have l3:=I.h.ilen
 have l4:=I.so.a.ilen
 unfold Sai.put at h
 by_cases c:0<=i
 ·rw [if_pos c] at h
  split at h
  ·rename_i hi
   cases hS:Sai.S sh i with
   | true=>
    rw [if_pos hS] at h; injection h with h; subst h
    refine⟨σ,run σ fun k=>?_,I,Off2.refl _ _ _⟩
    rw [Zl3]
    simp only [c,decide_true,if_true,I.e1,hx,Qd,true_and]
    rw [<-hx,I.so.s_]
    simp only [Qd]
    rw [if_pos (by omega),I.so.s.rd c (by omega)]
    have:rdOf false sh i=true:=hS
    simp [this]
   | false=>
    rw [if_neg (by rw [hS]; simp)] at h
    unfold Sai.upw at h
    split at h
    ·rename_i hc
     obtain⟨q1,q2,q3,q4,q5,q6⟩:=hc
     injection h with h; subst h
     obtain⟨σ1,s1,s2,s3,s4⟩:=Zb7 I.so.a I.wa q5 q6 i I.ra
     have I1:=I.seta s2 s3 s4
     obtain⟨σ2,u1,u2,u3,u4⟩:=Zb7 I1.h I1.wh q3 q4 (rd st.2 (rd t i)+1) I.rh
     have I2:=I1.seth u2 u3 u4
     refine⟨σ2,run σ2 fun k=>?_,I2,s2.two u2⟩
     have hSr:rdOf false sh i=false:=hS
     have w1:Qa .i64 (rd st.2 (rd t i)+1)=rd st.2 (rd t i)+1:=Za (by omega) (by omega)
     have e1':=I1.e1
     have e2':=I1.e2
     have t1':=I1.so.t_
     have so1:=I1.so.t.rd c (by omega)
     have h1':=I1.h.rd q3 q4
     have sa:=I.so.a_
     have ss:=I.so.s_
     have st0:=I.so.t_
     rw [hx] at e1' t1' sa ss st0
     rw [Zl3]
     simp only [c,decide_true,if_true,I.e1,hx,Qd,ss,sa,st0,I.e2,true_and]
     rw [if_pos (by omega),I.so.s.rd c (by omega)]
     simp only [hSr,Qd,Bool.not_false,if_true]
     rw [if_pos (by omega),I.so.t.rd c (by omega)]
     simp only [Qd]
     rw [if_pos (by omega),I.h.rd q3 q4]
     simp only [Qd]
     rw [if_pos (by omega),s1]
     simp only [Qd,e2',e1',t1']
     rw [if_pos (by omega),so1]
     simp only [Qd]
     rw [if_pos (by omega),h1']
     simp only [Qd]
     rw [if_pos (by omega),w1,u1]
     rfl
    ·cases h
  ·cases h
 ·rw [if_neg c] at h; injection h with h; subst h
  refine⟨σ,run σ fun k=>?_,I,Off2.refl _ _ _⟩
  rw [Zl3]
  simp [c]
end Go.Ab

namespace Go.Ab
open Go Go.Proofs Go.Ab.Wd Go.Ab.Bs
theorem Zwb{y:Nat}{c:Ptr}{h:Hdl}{l:List Int}(hn:l.length<2^62)(I:Int->Store->Prop)(hc:∀ i σ,I i σ->σ.ldSl c=some h/\σ.Ints h l)
  (step:∀ (i:Int) (σ:Store),0<=i->i<l.length->I i σ->∃ σ',RunsY Qc y [.int .i64 i,.int .i64 (rd l i)] σ (.bool true) σ'/\I (i-1) σ') (m:Nat) :
  ∀ (i:Int) (σ:Store),i+1=m->i<l.length->I i σ->∃ σ',EvI (fun k s=>QD Qc (gm Qc k) Qi k Tryz.f204 [1,0] [3,1,0] s) ([.int .i64 i,.ptr c,.yld y],σ) (Qm 0,[],σ')/\I (-1) σ':=by
 induction m with
 | zero=>
  intro i σ hi h1 hI
  have hi':i=-1:=by omega
  subst hi'
  exact⟨σ,EvI.done (Ev.of fun k=>by rw [Zd3]; rfl),hI⟩
 | succ m ih=>
  intro i σ hi h1 hI
  obtain⟨c1,c2⟩:=hc i σ hI
  obtain⟨σ1,⟨k0,r1⟩,hI1⟩:=step i σ (by omega) h1 hI
  obtain⟨σ',e,hI'⟩:=ih (i-1) σ1 (by omega) (by omega) hI1
  refine⟨σ',EvI.step ⟨k0,fun k hk=>?_⟩ e,hI'⟩
  have l1:=c2.ilen
  have w1:Qa .i64 (i-1)=i-1:=Za (by omega) (by omega)
  have r1:=r1 k hk
  simp only at r1 ⊢
  rw [Zd3,if_pos (by simp; omega),c1]
  simp only [Qd]
  rw [if_pos (by omega),c2.rd (by omega) h1]
  simp only [Qd,r1,Q6,w1]
  rfl
theorem Zwc{y:Nat}{c:Ptr}{h:Hdl}{l:List Int}(hn:l.length<2^62)(I:Int->Store->Prop)(hc:∀ i σ,I i σ->σ.ldSl c=some h/\σ.Ints h l)
  (step:∀ (i:Int) (σ:Store),0<=i->i<l.length->I i σ->∃ σ',RunsY Qc y [.int .i64 i,.int .i64 (rd l i)] σ (.bool true) σ'/\I (i-1) σ') {σ:Store} (h0:I (l.length-1) σ) :
  ∃ σ',Runs Qc 204 [.yld y,.ptr c] σ (.tuple []) σ'/\I (-1) σ':=by
 obtain⟨σ',e,hI⟩:=Zwb hn I hc step l.length (l.length-1) σ (by omega) (by omega) h0
 refine⟨σ',rI Tryz.f204 ?_,hI⟩
 obtain⟨c1,c2⟩:=hc _ σ h0
 have l1:=c2.ilen
 have w1:Qa .i64 ((l.length:Int)-1)=l.length-1:=Za (by omega) (by omega)
 refine (Ev.bind (Zc e) (Ev.of fun k=>Zj9 (gm Qc k) k σ')).congr fun k=>?_
 rw [Zl2,c1]
 simp only [Qd,l1,w1]
end Go.Ab

namespace Go.Ab
open Go Go.Proofs Go.Ab.Wd Go.Ab.Bs Go.Ab.Sai
theorem ext_rd{l m:List Int}(hl:l.length=m.length)(h:∀ c:Int,0<=c->c<l.length->rd l c=rd m c):l=m:=by
 refine Qag hl fun i h1 h2=>?_
 have:=h i (by omega) (by omega)
 rwa [Zb h1,Zb h2] at this
theorem Ztd(t:List Int){i:Int}(h0:0<=i)(h1:i<t.length)(c:Int):hd (t.take (i+1).toNat) c=hd (t.take i.toNat) c+if rd t i<c then 1 else 0:=by
 obtain⟨i,rfl⟩:=Qh h0
 have hi:i<t.length:=by omega
 rw [Zb hi,show ((i:Int)+1).toNat=i+1 by omega,show ((i:Int)).toNat=i by omega,show t.take (i+1)=t.take i++[t[i]] by rw [QX]; simp [hi]]
 unfold hd
 rw [Qaa]
 by_cases c':t[i]<c
 ·rw [if_pos c',Qu (by simpa using c')]; simp
 ·rw [if_neg c',Qv (by simpa using c')]; simp
def Cnt(t:List Int)(kk:Nat)(i:Int)(L:List Int):Prop:=L.length=kk/\∀ c:Int,0<=c->c<kk->rd L c=hd (t.take i.toNat) (c+1)-hd (t.take i.toNat) c
theorem Cnt.zero(t:List Int)(kk:Nat):Cnt t kk 0 (Qf kk 0):=by
 refine⟨by simp,fun c h0 h1=>?_⟩
 obtain⟨c,rfl⟩:=Qh h0
 rw [Zb (by simp; omega)]
 simp [hd]
theorem Cnt.step{t:List Int}{kk:Nat}{i:Int}{L:List Int}(h:Cnt t kk i L)(h0:0<=i)(h1:i<t.length)(hr:0<=rd t i/\rd t i<kk):Cnt t kk (i+1) (L.set (rd t i).toNat (rd L (rd t i)+1)):=by
 refine⟨by simp [h.1],fun c c0 c1=>?_⟩
 rw [Zs hr.1 (by rw [h.1]; omega) c0,Ztd t h0 h1,Ztd t h0 h1,h.2 _ hr.1 hr.2,h.2 c c0 c1]
 by_cases e:rd t i=c
 ·subst e; rw [if_pos rfl,if_pos (by omega),if_neg (by omega)]; omega
 ·rw [if_neg e]
  by_cases e2:rd t i<c
  ·rw [if_pos (by omega),if_pos e2]; omega
  ·rw [if_neg (by omega),if_neg e2]; omega
theorem Cnt.bound{t:List Int}{kk:Nat}{i:Int}{L:List Int}(h:Cnt t kk i L){c:Int}(c0:0<=c)(c1:c<kk):0<=rd L c/\rd L c<=t.length:=by
 rw [h.2 c c0 c1]
 have h1:=Zl9 (t.take i.toNat) (show c<=c+1 by omega)
 have h2:=Zb0 (t.take i.toNat) (c+1)
 have h3:=Zh (t.take i.toNat) c
 have h4:(t.take i.toNat).length<=t.length:=by rw [Qay]; omega
 omega
theorem Zuo{hb ht:Hdl}{b:Nat}{t:List Int}{kk:Nat}{e:Bool}(hn:t.length<2^62)(hrng:∀ x∈t,0<=x/\x<kk)(hr:hb.row=some b)(hrt:ht.row≠some b)(m:Nat) :
  ∀ (i:Int) (L:List Int) (σ:Store),i+m=t.length->0<=i->Cnt t kk i L->σ.Ints hb L->σ.Wr hb->σ.Ints ht t ->
  ∃ σ' L',EvI (fun k s=>QD Qc (gm Qc k) Qi k Tryz.f219 [1,1,0,1,0] [21,20,19,5,1] s) ([.int .i64 i,.int .i64 t.length,.slice ht,.slice hb,.bool e],σ) (Qm 0,[(5,.slice hb),(1,.bool e)],σ') /\
   Cnt t kk t.length L'/\σ'.Ints hb L'/\σ'.Wr hb/\Off b σ σ':=by
 induction m with
 | zero=>
  intro i L σ hi h0 hc hL hw hT
  have:i=t.length:=by omega
  subst this
  exact⟨σ,L,EvI.done (Ev.of fun k=>by rw [Zip]; simp),hc,hL,hw,Off.refl _ _⟩
 | succ m ih=>
  intro i L σ hi h0 hc hL hw hT
  have h1:i<t.length:=by omega
  have hx:=hrng _ (Ze h0 h1)
  obtain⟨b0,b1⟩:=hc.bound hx.1 hx.2
  have lb:=hL.ilen
  have lt:=hT.ilen
  have lc:=hc.1
  obtain⟨σ1,s1,s2,s3,s4⟩:=Zb7 hL hw hx.1 (by omega) (rd L (rd t i)+1) hr
  obtain⟨σ',L',r1,r2,r3,r4,r5⟩:=ih (i+1) _ σ1 (by omega) (by omega) (hc.step h0 h1 hx) s3 s4 (hT.off s2 hrt)
  refine⟨σ',L',EvI.step (Ev.of fun k=>?_) r1,r2,r3,r4,s2.trans r5⟩
  have w1:Qa .i64 (rd L (rd t i)+1)=rd L (rd t i)+1:=Za (by omega) (by omega)
  have w2:Qa .i64 (i+1)=i+1:=Za (by omega) (by omega)
  rw [Zip,if_pos (by simp; omega),if_pos (by omega),hT.rd h0 h1]
  simp only [Qd]
  rw [if_pos (by omega),hL.rd hx.1 (by omega)]
  simp only [Qd,w1,w2]
  rw [if_pos (by omega),s1]
  rfl
def Sums(t:List Int)(kk:Nat)(e:Bool)(i:Int)(M:List Int):Prop:=M.length=kk/\(∀ c:Int,0<=c->c<i->rd M c=if e=true then hd t (c+1) else hd t c)/\∀ c:Int,i<=c->0<=c->c<kk->rd M c=hd t (c+1)-hd t c
def bk(e:Bool)(t:List Int)(kk:Nat):List Int:=if e=true then tails t kk else heads t kk
theorem Zwj(e:Bool)(t:List Int)(kk:Nat):(bk e t kk).length=kk:=by unfold bk; split <;> simp [tails,heads]
theorem Sums.end{t:List Int}{kk:Nat}{e:Bool}{M:List Int}(h:Sums t kk e kk M):M=bk e t kk:=by
 refine ext_rd (by rw [h.1,Zwj]) fun c c0 c1=>?_
 rw [h.1] at c1
 rw [h.2.1 c c0 c1]
 cases e
 ·simp only [bk]; rw [if_neg (by simp),if_neg (by simp),Zee t kk c0 c1]
 ·simp only [bk,if_true]; rw [Zcx t kk c0 c1]
theorem Sums.step{t:List Int}{kk:Nat}{e:Bool}{i:Int}{M:List Int}(h:Sums t kk e i M)(h0:0<=i)(h1:i<kk):Sums t kk e (i+1) (M.set i.toNat (if e=true then hd t (i+1) else hd t i)):=by
 refine⟨by simp [h.1],fun c c0 c1=>?_,fun c c0 c1 c2=>?_⟩
 ·rw [Zs h0 (by rw [h.1]; omega) c0]
  by_cases e2:i=c
  ·subst e2; rw [if_pos rfl]
  ·rw [if_neg e2]; exact h.2.1 c c0 (by omega)
 ·rw [Zs h0 (by rw [h.1]; omega) c1,if_neg (by omega)]; exact h.2.2 c (by omega) c1 c2
theorem Z03{hb:Hdl}{b:Nat}{t:List Int}{kk:Nat}{e:Bool}(hn:t.length<2^62)(hk:kk<2^62)(hr:hb.row=some b)(m:Nat) :
  ∀ (i:Int) (M:List Int) (σ:Store),i+m=kk->0<=i->Sums t kk e i M->σ.Ints hb M->σ.Wr hb ->
  ∃ σ',EvI (fun k s=>QD Qc (gm Qc k) Qi k Tryz.f219 [1,1,1,1,0,1,0] [34,33,32,8,5,1] s) ([.int .i64 i,.int .i64 kk,.slice hb,.int .i64 (hd t i),.slice hb,.bool e],σ) (Qm 2,[(5,.slice hb)],σ') /\
   σ'.Ints hb (bk e t kk)/\σ'.Wr hb/\Off b σ σ':=by
 induction m with
 | zero=>
  intro i M σ hi h0 hc hL hw
  have:i=kk:=by omega
  subst this
  rw [hc.end] at hL
  exact⟨σ,EvI.done (Ev.of fun k=>by rw [Zgj]; simp),hL,hw,Off.refl _ _⟩
 | succ m ih=>
  intro i M σ hi h0 hc hL hw
  have h1:i<kk:=by omega
  have lb:=hL.ilen
  have lc:=hc.1
  have e1:=hc.2.2 i (by omega) h0 h1
  have n1:=Zh t i
  have n2:=Zb0 t (i+1)
  have n3:=Zl9 t (show i<=i+1 by omega)
  obtain⟨σ1,s1,s2,s3,s4⟩:=Zb7 hL hw h0 (by omega) (if e=true then hd t (i+1) else hd t i) hr
  obtain⟨σ',r1,r3,r4,r5⟩:=ih (i+1) _ σ1 (by omega) (by omega) (hc.step h0 h1) s3 s4
  refine⟨σ',EvI.step (Ev.of fun k=>?_) r1,r3,r4,s2.trans r5⟩
  have w1:Qa .i64 (hd t i+rd M i)=hd t (i+1):=by rw [Za (by omega) (by omega)]; omega
  have w2:Qa .i64 (i+1)=i+1:=Za (by omega) (by omega)
  rw [Zgj,if_pos (by simp; omega),if_pos (by omega),hL.rd h0 (by omega)]
  simp only [Qd,w1,w2]
  cases e with
  | true=>
   rw [if_pos rfl,if_pos (by omega)]
   rw [if_pos rfl] at s1
   rw [s1]
   rfl
  | false=>
   rw [if_neg (by simp),if_pos (by omega)]
   rw [if_neg (by simp)] at s1
   rw [s1]
   rfl
theorem Zac(n:Nat):mkCells [.int .i64 0] n=intsL (Qf n 0):=by simp [mkCells,intsL]
theorem Z5g{σ:Store}(l:List AV){n:Nat}(hn:l.length=n)(c:Option Nat)(hp:σ.prot<=σ.objs.length) :
  Store.Sl (σ.push l 1) ⟨some (σ.objs.length,0),n,c⟩ 1 l/\Store.Wr (σ.push l 1) ⟨some (σ.objs.length,0),n,c⟩:=by
 have hnew:(σ.push l 1).objs[σ.objs.length]?=some (.cells l true 1):=by simp [QP]
 exact⟨⟨by simp [hn],.inr ⟨_,0,l,true,rfl,hnew,by simp,by rw [Qa6,Q5 (Qn _)]⟩⟩,⟨_,0,l,rfl,hnew,hp⟩⟩
theorem Sorter.lt{σ:Store}{p:Ptr}{ht hs ha:Hdl}{kk:Nat}{t:List Int}{sh:List Bool}{sa:List Int}(S:Sorter σ p ht hs ha kk t sh sa):∀ b,p.row=some b->b<σ.objs.length:=by
 intro b hb
 have:=S.t_
 cases p with
 | none=>cases hb
 | some x=>
  obtain⟨c,o⟩:=x
  simp [Ptr.row] at hb; subst hb
  simp only [Qe,Qa2,QW,Store.cell] at this
  by_cases h:c<σ.objs.length
  ·exact h
  ·rw [List.getElem?_eq_none (by omega)] at this; cases this
theorem Zdz{σ:Store}{p:Ptr}{ht hs ha:Hdl}{kk:Nat}{t:List Int}{sh:List Bool}{sa:List Int}(S:Sorter σ p ht hs ha kk t sh sa)(e:Bool)(hn:t.length<2^62)(hk:kk*8<=281474976710656)(hrng:∀ x∈t,0<=x/\x<kk)
  (hp:σ.prot<=σ.objs.length) (hrt:ht.row≠some σ.objs.length) :
  ∃ σ',Runs Qc 219 [.ptr p,.bool e] σ (.slice ⟨some (σ.objs.length,0),kk,some kk⟩) σ'/\Kp σ.objs.length σ σ'/\σ'.objs.length=σ.objs.length+1/\σ'.Ints ⟨some (σ.objs.length,0),kk,some kk⟩ (bk e t kk)/\σ'.Wr ⟨some (σ.objs.length,0),kk,some kk⟩:=by
 obtain⟨x,hx⟩:=S.nn
 have hlt:=S.lt
 obtain⟨p1,p2⟩:=Z5g (σ:=σ) (intsL (Qf kk 0)) (n:=kk) (by simp) (some kk) hp
 have k1:Kp σ.objs.length σ (σ.push (intsL (Qf kk 0)) 1):=Kp.push _ _ (Qn _)
 have hT:(σ.push (intsL (Qf kk 0)) 1).Ints ht t:=Store.Sl.kp S.t k1
 have lt:=S.t.ilen
 obtain⟨σ1,L,c1,c2,c3,c4,c5⟩:=Zuo (e:=e) hn hrng (b:=σ.objs.length) rfl hrt t.length 0 _ _ (by omega) (QL _) (Cnt.zero t kk) p1 p2 hT
 have hs0:Sums t kk e 0 L:=by
  refine⟨c2.1,fun c h0 h1=>by omega,fun c h0 h1 h2=>?_⟩
  have:=c2.2 c h1 h2
  rwa [show ((t.length:Int)).toNat=t.length by omega,Q0] at this
 obtain⟨σ2,d1,d2,d3,d4⟩:=Z03 hn (by omega) (b:=σ.objs.length) rfl kk 0 L σ1 (by omega) (QL _) hs0 c3 c4
 rw [Zte fun x hx=>(hrng x hx).1] at d1
 have o1:=c5.trans d4
 refine⟨σ2,rI Tryz.f219 ?_,k1.trans (o1.kp (Qn _)),by rw [o1.len]; simp [QP],d2,d3⟩
 refine (Ev.bind (Zc c1) (?_:Ev (fun k=>QM Qc (gm Qc k) Qi k Tryz.f219 [1,1,0,1,0] (Qm 0,[(5,.slice ⟨some (σ.objs.length,0),kk,some kk⟩),(1,.bool e)],σ1)) _)).congr fun k=>?_
 ·exact (Ev.bind (Zc d1) (Ev.of fun k=>Zka (gm Qc k) k σ2 _)).congr fun k=>by rw [Zop]
 ·rw [Z2q]
  have e0:(σ.push (intsL (Qf kk 0)) 1).ldSl (Qe p 0)=some ht:=(Zz (Zdr k1 (by simpa using hlt))).trans S.t_
  have e1:=S.k_
  rw [hx] at e0 e1
  simp only [hx,Qd,e1,Zac,show ((kk:Int)).toNat=kk by omega]
  rw [if_pos (by omega)]
  simp only [e0,Qd,lt]
end Go.Ab

namespace Go.Ab
open Go Go.Proofs Go.Ab.Wd Go.Ab.Bs Go.Ab.Sai
theorem Zmn{t:List Int}{sh:List Bool}{st st':Sai.St}{i:Int}(h:Sai.put t sh st i=some st'):st'.1.length=st.1.length/\st'.2.length=st.2.length:=by
 unfold Sai.put at h
 split at h
 ·split at h
  ·split at h
   ·injection h with h; subst h; exact⟨rfl,rfl⟩
   ·unfold Sai.upw at h
    split at h
    ·injection h with h; subst h; simp
    ·cases h
  ·cases h
 ·injection h with h; subst h; exact⟨rfl,rfl⟩
theorem Zjg{t:List Int}{st st':Sai.St}{i:Int}(h:Sai.down t st i=some st'):st'.1.length=st.1.length/\st'.2.length=st.2.length:=by
 unfold Sai.down at h
 split at h
 ·injection h with h; subst h; simp
 ·cases h
theorem Zvp{c1 c2 c5 p:Ptr}{ht hs ha hh:Hdl}{ba bh kk:Nat}{t:List Int}{sh:List Bool}(hn:t.length<2^62)(m:Nat) :
  ∀ (i:Int) (st st':Sai.St) (σ:Store),i+m=t.length->0<=i->st.1.length=t.length->Ind σ c1 c2 p ht hs ha hh ba bh kk t sh st->Sai.pass2 t sh m i st=some st' ->
  (∀ x∈st.1,x<t.length) ->
  ∃ σ',EvI (fun k s=>QD Qc (gm Qc k) Qi k Tryz.f173 [1,1,1,1,1,1,1,0,1,0] [74,73,10,5,2] s) ([.int .i64 i,.int .i64 t.length,.func 220 [] [.ptr c1,.ptr c2],.ptr c5,.ptr c1],σ) (Qm 4,[(5,.ptr c5),(2,.ptr c1)],σ') /\
   Ind σ' c1 c2 p ht hs ha hh ba bh kk t sh st'/\Off2 ba bh σ σ':=by
 induction m with
 | zero=>
  intro i st st' σ hi h0 hl I h hx
  have:i=t.length:=by omega
  subst this
  simp only [Sai.pass2] at h
  injection h with h; subst h
  exact⟨σ,EvI.done (Ev.of fun k=>by rw [Zb4]; simp),I,Off2.refl _ _ _⟩
 | succ m ih=>
  intro i st st' σ hi h0 hl I h hx
  have la:=I.so.a.ilen
  obtain⟨x,hpx⟩:=I.so.nn
  have e1:=I.e1
  have ea:=I.so.a_
  rw [hpx] at e1 ea
  have hrd:=I.so.a.rd h0 (by omega)
  have hb:=hx _ (Ze h0 (show i<st.1.length by omega))
  have w2:Qa .i64 (i+1)=i+1:=Za (by omega) (by omega)
  simp only [Sai.pass2] at h
  split at h
  ·rename_i hpos
   obtain⟨st1,h1,h2⟩:=Qy.1 h
   obtain⟨σ1,⟨k0,r⟩,I1,o1⟩:=Zra I (by omega) h1
   have hpl:=Zmn h1
   obtain⟨σ',r1,I',o'⟩:=ih (i+1) st1 st' σ1 (by omega) (by omega) (by omega) I1 h2 (by
    unfold Sai.put at h1
    split at h1
    ·split at h1
     ·split at h1
      ·injection h1 with h1; subst h1; exact hx
      ·unfold Sai.upw at h1
       split at h1
       ·rename_i hc
        injection h1 with h1; subst h1
        intro y hy
        rcases Qad hy with hy | rfl
        ·exact hx y hy
        ·omega
       ·cases h1
     ·cases h1
    ·injection h1 with h1; subst h1; exact hx)
   refine⟨σ',EvI.step ⟨k0,fun k hk=>?_⟩ r1,I',o1.trans o'⟩
   have r:=r k hk
   have w1:Qa .i64 (rd st.1 i-1)=rd st.1 i-1:=Za (by omega) (by omega)
   simp only at r ⊢
   rw [Zb4,if_pos (by simp; omega)]
   simp only [e1,Qd,ea]
   rw [if_pos (by omega),hrd]
   simp only [Qd]
   rw [if_pos (by simpa using hpos),if_pos (by omega)]
   simp only [Qd,w1,w2,r]
  ·rename_i hpos
   obtain⟨σ',r1,I',o'⟩:=ih (i+1) st st' σ (by omega) (by omega) hl I h hx
   refine⟨σ',EvI.step (Ev.of fun k=>?_) r1,I',o'⟩
   rw [Zb4,if_pos (by simp; omega)]
   simp only [e1,Qd,ea]
   rw [if_pos (by omega),hrd]
   simp only [Qd]
   rw [if_neg (by simpa using hpos),w2]
end Go.Ab

namespace Go.Ab
open Go Go.Proofs Go.Ab.Wd Go.Ab.Bs Go.Ab.Sai
def Rng(t:List Int)(l:List Int):Prop:=∀ x∈l,-1<=x/\x<t.length
theorem Rng.set{t l:List Int}(h:Rng t l){p:Int}(p0:0<=p)(p1:p<t.length)(n:Nat):Rng t (l.set n p):=by
 intro x hx
 rcases Qad hx with hx | rfl
 ·exact h x hx
 ·omega
theorem Ztz{t:List Int}{sh:List Bool}{st st':Sai.St}{i:Int}(h:Sai.put t sh st i=some st')(hr:Rng t st.1):Rng t st'.1:=by
 unfold Sai.put at h
 split at h
 ·split at h
  ·split at h
   ·injection h with h; subst h; exact hr
   ·unfold Sai.upw at h
    split at h
    ·rename_i hc
     injection h with h; subst h; exact hr.set hc.1 hc.2.1 _
    ·cases h
  ·cases h
 ·injection h with h; subst h; exact hr
theorem Zpj{t:List Int}{st st':Sai.St}{i:Int}(h:Sai.down t st i=some st')(hr:Rng t st.1):Rng t st'.1:=by
 unfold Sai.down at h
 split at h
 ·rename_i hc
  injection h with h; subst h; exact hr.set hc.1 hc.2.1 _
 ·cases h
theorem Zm2{σ:Store}{c1 c2 p:Ptr}{ht hs ha hh:Hdl}{ba bh kk:Nat}{t:List Int}{sh:List Bool}{st st':Sai.St}(I:Ind σ c1 c2 p ht hs ha hh ba bh kk t sh st){i:Int}(hn:st.1.length<2^62)(h:Sai.down t st i=some st') :
  (0<=i/\i<t.length)/\(0<=rd t i/\rd t i<st.2.length)/\(0<=rd st.2 (rd t i)-1/\rd st.2 (rd t i)-1<st.1.length)/\Qa .i64 (rd st.2 (rd t i)-1)=rd st.2 (rd t i)-1 /\
  ∃ σ1 σ2,σ.stL (hh.idx (rd t i) 1) [.int .i64 (rd st.2 (rd t i)-1)] 0=some σ1/\Ind σ1 c1 c2 p ht hs ha hh ba bh kk t sh (st.1,st.2.set (rd t i).toNat (rd st.2 (rd t i)-1)) /\
   σ1.ldInt .i64 (hh.idx (rd t i) 1)=some (rd st.2 (rd t i)-1)/\σ1.stL (ha.idx (rd st.2 (rd t i)-1) 1) [.int .i64 i] 0=some σ2/\Ind σ2 c1 c2 p ht hs ha hh ba bh kk t sh st'/\Off2 ba bh σ σ2:=by
 unfold Sai.down at h
 split at h
 ·rename_i hc
  obtain⟨q1,q2,q3,q4,q5,q6⟩:=hc
  injection h with h; subst h
  obtain⟨σ1,s1,s2,s3,s4⟩:=Zb7 I.h I.wh q3 q4 (rd st.2 (rd t i)-1) I.rh
  have I1:=I.seth s2 s3 s4
  obtain⟨σ2,u1,u2,u3,u4⟩:=Zb7 I1.so.a I1.wa q5 q6 i I.ra
  have I2:=I1.seta u2 u3 u4
  have o:Off2 ba bh σ σ2:=⟨u2.prot.trans s2.prot,u2.len.trans s2.len,fun c h1 h2=>(u2.off c h1).trans (s2.off c h2)⟩
  have hld:=I1.h.rd q3 (by simpa using q4)
  rw [Zs q3 q4 q3,if_pos rfl] at hld
  exact⟨⟨q1,q2⟩,⟨q3,q4⟩,⟨q5,q6⟩,Za (by omega) (by omega),σ1,σ2,s1,I1,hld,u1,I2,o⟩
 ·cases h
theorem Zvr{c1 c2 p:Ptr}{ht hs ha hh:Hdl}{ba bh kk:Nat}{t:List Int}{sh:List Bool}(hn:t.length<2^62)(m:Nat) :
  ∀ (i:Int) (st st':Sai.St) (σ:Store),i+1=m->i<t.length->st.1.length=t.length->Ind σ c1 c2 p ht hs ha hh ba bh kk t sh st->Sai.pass3 t sh m i st=some st'->Rng t st.1 ->
  ∃ σ',EvI (fun k s=>QD Qc (gm Qc k) Qi k Tryz.f173 [1,1,1,1,1,1,1,1,1,1,0] [12,5,2] s) ([.int .i64 i,.ptr c2,.ptr c1],σ) (Qm 6,[],σ') /\
   Ind σ' c1 c2 p ht hs ha hh ba bh kk t sh st'/\Off2 ba bh σ σ':=by
 induction m with
 | zero=>
  intro i st st' σ hi h0 hl I h hx
  have:i=-1:=by omega
  subst this
  simp only [Sai.pass3] at h
  injection h with h; subst h
  exact⟨σ,EvI.done (Ev.of fun k=>by rw [Zat]; rfl),I,Off2.refl _ _ _⟩
 | succ m ih=>
  intro i st st' σ hi h1 hl I h hx
  have h0:0<=i:=by omega
  have la:=I.so.a.ilen
  have ls:=I.so.s.blen
  have lt:=I.so.t.ilen
  have lh:=I.h.ilen
  obtain⟨x,hpx⟩:=I.so.nn
  have e1:=I.e1
  have ea:=I.so.a_
  have es:=I.so.s_
  have et:=I.so.t_
  rw [hpx] at e1 ea es et
  have hrd:=I.so.a.rd h0 (by omega)
  have hb:=hx _ (Ze h0 (show i<st.1.length by omega))
  have w1:Qa .i64 (rd st.1 i-1)=rd st.1 i-1:=Za (by omega) (by omega)
  have w2:Qa .i64 (i-1)=i-1:=Za (by omega) (by omega)
  simp only [Sai.pass3] at h
  split at h
  ·rename_i hpos
   split at h
   ·rename_i hlt
    have hsh:=I.so.s.rd hpos hlt
    split at h
    ·rename_i hS
     obtain⟨st1,g1,g2⟩:=Qy.1 h
     obtain⟨⟨q1,q2⟩,⟨q3,q4⟩,⟨q5,q6⟩,q7,σ1,σ2,d1,I1,d2,d3,I2,o2⟩:=Zm2 I (by omega) g1
     have hdl:=Zjg g1
     obtain⟨σ',r1,I',o'⟩:=ih (i-1) st1 st' σ2 (by omega) (by omega) (by omega) I2 g2 (Zpj g1 hx)
     refine⟨σ',EvI.step (Ev.of fun k=>?_) r1,I',o2.trans o'⟩
     have e1':=I1.e1
     have ea':=I1.so.a_
     have et':=I1.so.t_
     have e2':=I1.e2
     have hrt:=I.so.t.rd q1 q2
     have hrt':=I1.so.t.rd q1 q2
     rw [hpx] at e1' ea' et'
     have hSr:rdOf false sh (rd st.1 i-1)=true:=hS
     rw [Zat,if_pos (by simpa using h0)]
     simp only [e1,Qd,ea]
     rw [if_pos (by omega),hrd]
     simp only [Qd,w1]
     rw [if_pos (by simpa using hpos)]
     simp only [es,Qd]
     rw [if_pos (by omega),hsh]
     simp only [Qd,hSr,if_true,I.e2,et]
     rw [if_pos (by omega),hrt]
     simp only [Qd]
     rw [if_pos (by omega),I.h.rd q3 q4]
     simp only [Qd]
     rw [if_pos (by omega),q7,d1]
     simp only [Qd,e1',ea',e2',et']
     rw [if_pos (by omega),hrt']
     simp only [Qd]
     rw [if_pos (by omega),d2]
     simp only [Qd]
     rw [if_pos (by omega),d3,w2]
     rfl
    ·rename_i hS
     obtain⟨σ',r1,I',o'⟩:=ih (i-1) st st' σ (by omega) (by omega) hl I h hx
     refine⟨σ',EvI.step (Ev.of fun k=>?_) r1,I',o'⟩
     have hSr:rdOf false sh (rd st.1 i-1)=false:=by simpa [Sai.S] using hS
     rw [Zat,if_pos (by simpa using h0)]
     simp only [e1,Qd,ea]
     rw [if_pos (by omega),hrd]
     simp only [Qd,w1]
     rw [if_pos (by simpa using hpos)]
     simp only [es,Qd]
     rw [if_pos (by omega),hsh]
     simp only [Qd,hSr,w2]
     rfl
   ·cases h
  ·rename_i hpos
   obtain⟨σ',r1,I',o'⟩:=ih (i-1) st st' σ (by omega) (by omega) hl I h hx
   refine⟨σ',EvI.step (Ev.of fun k=>?_) r1,I',o'⟩
   rw [Zat,if_pos (by simpa using h0)]
   simp only [e1,Qd,ea]
   rw [if_pos (by omega),hrd]
   simp only [Qd,w1]
   rw [if_neg (by simpa using hpos),w2]
end Go.Ab

namespace Go.Ab
open Go Go.Proofs Go.Ab.Wd Go.Ab.Bs Go.Ab.Sai
abbrev rp:List Nat:=[1,1,1,0,1,0]
noncomputable abbrev rxI:Code:=codeAt (fnCode Tryz.f173) (rp++[0])
noncomputable abbrev ryI:Code:=codeAt (fnCode Tryz.f173) (rp++[1])
noncomputable abbrev robj (c1 c2:Ptr) (st:LSt):AObj:=.loop [(5,.ptr c2),(2,.ptr c1)] [33,34] rxI ryI (Func.ntmps Tryz.f173) st
theorem Ind.aside{σ σ':Store}{c1 c2 p:Ptr}{ht hs ha hh:Hdl}{ba bh kk:Nat}{t:List Int}{sh:List Bool}{st:Sai.St}(I:Ind σ c1 c2 p ht hs ha hh ba bh kk t sh st){y:Nat}(k:Off y σ σ')
  (r1:p.row≠some y) (r2:c1.row≠some y) (r3:c2.row≠some y) (r4:ht.row≠some y) (r5:hs.row≠some y) (r6:ba≠y) (r7:bh≠y):Ind σ' c1 c2 p ht hs ha hh ba bh kk t sh st:=by
 have ra:ha.row≠some y:=by rw [I.ra]; intro e; injection e with e; exact r6 e
 have rh:hh.row≠some y:=by rw [I.rh]; intro e; injection e with e; exact r7 e
 exact⟨I.so.off k r1 r4 r5 (Store.Sl.off I.so.a k ra),(Zao (Z6 k r2)).trans I.e1,(Zz (Z6 k r3)).trans I.e2,I.h.off k rh,I.wa.off k ra,I.wh.off k rh,I.ra,I.rh,I.ab,I.far⟩
theorem Z5l{σ:Store}{c1 c2 p:Ptr}{ht hs ha hh:Hdl}{ba bh kk y:Nat}{t:List Int}{sh:List Bool}{st st':Sai.St}(I:Ind σ c1 c2 p ht hs ha hh ba bh kk t sh st){j i:Int}(hn:st.1.length<2^62)(h:Sai.down t st i=some st')
  (hy:σ.objs[y]?=some (robj c1 c2 .ready)) (hp:σ.prot<=y) (r1:p.row≠some y) (r2:c1.row≠some y) (r3:c2.row≠some y) (r4:ht.row≠some y) (r5:hs.row≠some y) (r6:ba≠y) (r7:bh≠y) :
  ∃ σ',RunsY Qc y [.int .i64 j,.int .i64 i] σ (.bool true) σ'/\Ind σ' c1 c2 p ht hs ha hh ba bh kk t sh st'/\Off2 ba bh σ σ':=by
 have hlt:y<σ.objs.length:=(Q8.1 hy).1
 have ob:=Zeh σ y (robj c1 c2 .busy) hlt
 have Ib:=I.aside ob r1 r2 r3 r4 r5 r6 r7
 obtain⟨⟨q1,q2⟩,⟨q3,q4⟩,⟨q5,q6⟩,q7,σ1,σ2,d1,I1,d2,d3,I2,o2⟩:=Zm2 Ib hn h
 have hy2:σ2.objs[y]?=some (robj c1 c2 .busy):=by rw [o2.off y (Ne.symm r6) (Ne.symm r7),Zcy σ y _ hlt,if_pos rfl]
 have hlt2:y<σ2.objs.length:=(Q8.1 hy2).1
 have or:=Zeh σ2 y (robj c1 c2 .ready) hlt2
 have hx:∀ k,evCode Qc (gm Qc k) Qi k (Func.ntmps Tryz.f173) false rxI ⟨liveC ryI ⟨0,0,[]⟩,0,[]⟩ (roundFr [33,34] [.int .i64 j,.int .i64 i] [(5,.ptr c2),(2,.ptr c1)]) σ (fun e φ1 σ1=>some ((e,φ1,σ1):LX)) =
   some (.normal,[(7,Qb .i64 i),(34,Qb .i64 i),(33,Qb .i64 j),(5,Qg c2),(2,Qg c1)],σ):=fun k=>Zom (gm Qc k) k σ c2 c1 j i
 refine⟨σ2.setO y (robj c1 c2 .ready),RunsY.intro hy hp rfl (by kernel_rfl) hx (Ev.of fun k=>?_) hy2,I2.aside or r1 r2 r3 r4 r5 r6 r7,?_⟩
 ·have hsel:Fr.sel [(7,Qb .i64 i),(34,Qb .i64 i),(33,Qb .i64 j),(5,Qg c2),(2,Qg c1)] (liveC ryI ⟨0,0,[]⟩) (Func.ntmps Tryz.f173)=[(7,Qb .i64 i),(5,Qg c2),(2,Qg c1)]:=by kernel_rfl
  rw [hsel]
  refine Eq.trans (Zon (gm Qc k) k (σ.setO y (robj c1 c2 .busy)) i c2 c1) ?_
  obtain⟨x,hpx⟩:=I.so.nn
  have lt:=Ib.so.t.ilen
  have lh:=Ib.h.ilen
  have la:=Ib.so.a.ilen
  have e1:=Ib.e1
  have et:=Ib.so.t_
  have e1':=I1.e1
  have ea':=I1.so.a_
  have e2':=I1.e2
  rw [hpx] at e1 et e1' ea'
  simp only [e1,Qd,et,Ib.e2]
  rw [if_pos (by omega),Ib.so.t.rd q1 q2]
  simp only [Qd]
  rw [if_pos (by omega),Ib.h.rd q3 q4]
  simp only [Qd]
  rw [if_pos (by omega),q7,d1]
  simp only [Qd,e1',ea',e2']
  rw [if_pos (by omega),d2]
  simp only [Qd]
  rw [if_pos (by omega),d3]
  rfl
 ·refine⟨or.prot.trans (o2.prot.trans ob.prot),or.len.trans (o2.len.trans ob.len),fun c h1 h2=>?_⟩
  by_cases e:c=y
  ·subst e; rw [Zcy σ2 c _ hlt2,if_pos rfl,hy]
  ·exact (or.off c e).trans ((o2.off c h1 h2).trans (ob.off c e))
end Go.Ab

namespace Go.Ab
open Go Go.Proofs Go.Ab.Wd Go.Ab.Bs Go.Ab.Sai
theorem Zw5{c1 p:Ptr}{ht hs ha hl:Hdl}{ba kk:Nat}{t:List Int}{sh:List Bool}(hn:t.length<2^62)(ra:ha.row=some ba)(r1:p.row≠some ba)(r2:c1.row≠some ba)(r3:ht.row≠some ba)(r4:hs.row≠some ba)(m:Nat) :
  ∀ (i:Int) (sa:List Int) (σ:Store),i+m=t.length->0<=i->sa.length=t.length->(∀ j:Int,0<=j->j<i->rd sa j=-1)->Sorter σ p ht hs ha kk t sh sa->σ.Wr ha->σ.ldPtr c1=some p ->
  ∃ σ',EvI (fun k s=>QD Qc (gm Qc k) Qi k Tryz.f173 [1,0,1,0] [19,18,2,1] s) ([.int .i64 i,.int .i64 t.length,.ptr c1,.slice hl],σ) (Qm 0,[(2,.ptr c1),(1,.slice hl)],σ') /\
   Sorter σ' p ht hs ha kk t sh (Qf t.length (-1))/\σ'.Wr ha/\Off ba σ σ':=by
 induction m with
 | zero=>
  intro i sa σ hi h0 hl' hj S w e
  have:i=t.length:=by omega
  subst this
  have:sa=Qf t.length (-1):=by
   refine ext_rd (by simp [hl']) fun c c0 c1'=>?_
   rw [hj c c0 (by omega)]
   obtain⟨c,rfl⟩:=Qh c0
   rw [Zb (by simp; omega)]
   simp
  subst this
  exact⟨σ,EvI.done (Ev.of fun k=>by rw [Zj8]; simp),S,w,Off.refl _ _⟩
 | succ m ih=>
  intro i sa σ hi h0 hl' hj S w e
  have la:=S.a.ilen
  obtain⟨x,hpx⟩:=S.nn
  obtain⟨σ1,s1,s2,s3,s4⟩:=Zb7 S.a w h0 (by omega) (-1) ra
  have S1:=S.off s2 r1 r3 r4 s3
  obtain⟨σ',g1,g2,g3,g4⟩:=ih (i+1) _ σ1 (by omega) (by omega) (by simpa using hl') (fun j j0 j1=>by
   rw [Zs h0 (by omega) j0]
   split
   ·rfl
   ·exact hj j j0 (by omega)) S1 s4 ((Zao (Z6 s2 r2)).trans e)
  refine⟨σ',EvI.step (Ev.of fun k=>?_) g1,g2,g3,s2.trans g4⟩
  have w2:Qa .i64 (i+1)=i+1:=Za (by omega) (by omega)
  have ea:=S.a_
  rw [hpx] at e ea
  rw [Zj8,if_pos (by simp; omega)]
  simp only [e,Qd,ea]
  rw [if_pos (by omega),s1,w2]
  rfl
theorem pass1_spec{σ:Store}{c1 c2 c p:Ptr}{ht hs ha hh hl:Hdl}{ba bh kk y:Nat}{t:List Int}{sh:List Bool}{lf:List Int}{st st':Sai.St}(I:Ind σ c1 c2 p ht hs ha hh ba bh kk t sh st)(hn:t.length<2^62)(hlf:lf.length<2^62)(hst:st.1.length=t.length)
  (h:Sai.pass1 t lf.reverse st=some st') (hc:σ.ldSl c=some hl) (hL:σ.Ints hl lf) (rc:∀ b,b=ba\/b=bh->c.row≠some b/\hl.row≠some b)
  (hy:σ.objs[y]?=some (robj c1 c2 .ready)) (hp:σ.prot<=y) (r1:p.row≠some y) (r2:c1.row≠some y) (r3:c2.row≠some y) (r4:ht.row≠some y) (r5:hs.row≠some y) (r6:ba≠y) (r7:bh≠y) :
  ∃ σ',Runs Qc 204 [.yld y,.ptr c] σ (.tuple []) σ'/\Ind σ' c1 c2 p ht hs ha hh ba bh kk t sh st'/\Off2 ba bh σ σ':=by
 obtain⟨σ',h1,s,h2,h3,h4,_⟩:=Zwc (y:=y) (c:=c) (h:=hl) (l:=lf) hlf
  (fun i σ1=>∃ s:Sai.St,Sai.pass1 t (lf.take (i+1).toNat).reverse s=some st'/\Ind σ1 c1 c2 p ht hs ha hh ba bh kk t sh s/\Off2 ba bh σ σ1/\s.1.length=t.length)
  (by
   rintro i σ1 ⟨s,_,_,o,_⟩
   have ka:∀ b,c.row=some b->σ1.objs[b]?=σ.objs[b]?:=fun b hb=>o.off b (fun e=>(rc ba (.inl rfl)).1 (by rw [hb,e])) (fun e=>(rc bh (.inr rfl)).1 (by rw [hb,e]))
   refine⟨?_,hL.keep fun b o' hb=>o.off b (fun e=>(rc ba (.inl rfl)).2 (by simp [Hdl.row,hb,e])) (fun e=>(rc bh (.inr rfl)).2 (by simp [Hdl.row,hb,e]))⟩
   rw [<-hc]
   refine Zz ?_
   cases c with
   | none=>rfl
   | some x=>obtain⟨b,o'⟩:=x; simp only [Store.cell]; rw [ka b rfl])
  (by
   rintro i σ1 i0 i1 ⟨s,g1,g2,g3,g4⟩
   have e1:(lf.take (i+1).toNat).reverse=rd lf i::(lf.take i.toNat).reverse:=by
    obtain⟨i,rfl⟩:=Qh i0
    have hi:i<lf.length:=by omega
    rw [Zb hi,show ((i:Int)+1).toNat=i+1 by omega,show ((i:Int)).toNat=i by omega,show lf.take (i+1)=lf.take i++[lf[i]] by rw [QX]; simp [hi]]
    simp
   rw [e1] at g1
   simp only [Sai.pass1] at g1
   obtain⟨s1,d1,d2⟩:=Qy.1 g1
   have hy1:σ1.objs[y]?=some (robj c1 c2 .ready):=(g3.off y (Ne.symm r6) (Ne.symm r7)).trans hy
   obtain⟨σ2,u1,u2,u3⟩:=Z5l (j:=i) g2 (by omega) d1 hy1 (by rw [g3.prot]; exact hp) r1 r2 r3 r4 r5 r6 r7
   exact⟨σ2,u1,s1,by rw [show i-1+1=i by omega]; exact d2,u2,g3.trans u3,(Zjg d1).1.trans g4⟩)
  (σ:=σ) ⟨st,by rw [show ((lf.length:Int)-1+1).toNat=lf.length by omega,Q0]; exact h,I,Off2.refl _ _ _,hst⟩
 refine⟨σ',h1,?_,h4⟩
 simp only [show ((-1:Int)+1).toNat=0 by rfl,List.take_zero,List.reverse_nil,Sai.pass1] at h2
 injection h2 with h2
 subst h2
 exact h3
end Go.Ab

namespace Go.Ab
open Go Go.Proofs Go.Ab.Wd Go.Ab.Bs Go.Ab.Sai
theorem Zo6{σ:Store}(hp:σ.prot<=σ.objs.length)(v0 v:AV)(hv:v.one=true):(σ.push [v0] 1).stL (some (σ.objs.length,0)) [v] 0=some (σ.push [v] 1):=by
 rw [Zfo]
 have hg:(σ.push [v0] 1).objs[σ.objs.length]?=some (.cells [v0] true 1):=by simp [QP]
 have hp':(σ.push [v0] 1).prot<=σ.objs.length:=hp
 simp only [Store.st,hg]
 rw [if_pos ⟨⟨hp',by simp⟩,hv⟩]
 simp [QP]
theorem Zda(σ:Store)(v:AV):(σ.push [v] 1).cell (some (σ.objs.length,0))=some v:=by simp [Store.cell,QP]
theorem Zoa(σ:Store)(h:Hdl):Runs Qc 147 [.slice h] σ (.func 204 [] [.ptr (some (σ.objs.length,0))]) (σ.push [.slice h] 1):=by
 refine rI Tryz.f147 (Ev.of fun k=>?_)
 rw [Zs7]
structure Env (σ:Store) (c1 p:Ptr) (ht hs ha:Hdl) (ba kk:Nat) (t:List Int) (sh:List Bool) (sa:List Int):Prop where
 so:Sorter σ p ht hs ha kk t sh sa
 e1:σ.ldPtr c1=some p
 wa:σ.Wr ha
 ra:ha.row=some ba
 pr:σ.prot<=σ.objs.length
 lt:∀ b,p.row=some b\/c1.row=some b\/ht.row=some b\/hs.row=some b\/b=ba->b<σ.objs.length
 far:p.row≠some ba/\c1.row≠some ba/\ht.row≠some ba/\hs.row≠some ba
theorem Sorter.kp{σ σ':Store}{p:Ptr}{ht hs ha:Hdl}{kk:Nat}{t:List Int}{sh:List Bool}{sa:List Int}(S:Sorter σ p ht hs ha kk t sh sa)(k:Kp σ.objs.length σ σ'):Sorter σ' p ht hs ha kk t sh sa:=by
 have hl:=S.lt
 have hc:∀ n,σ'.cell (Qe p n)=σ.cell (Qe p n):=fun n=>Zdr k (by simpa using hl)
 exact⟨S.nn,(Zz (hc 0)).trans S.t_,(Zkp (hc 1)).trans S.k_,(Zz (hc 2)).trans S.s_,(Zz (hc 3)).trans S.a_,Store.Sl.kp S.t k,Store.Sl.kp S.s k,Store.Sl.kp S.a k⟩
theorem Store.Wr.kp{σ σ':Store}{h:Hdl}(w:σ.Wr h)(k:Kp σ.objs.length σ σ'):σ'.Wr h:=by
 obtain⟨b,o,cs,h1,h2,h3⟩:=w
 exact⟨b,o,cs,h1,(k.keep b (Q8.1 h2).1).trans h2,by rw [k.prot]; exact h3⟩
theorem Env.kp{σ σ':Store}{c1 p:Ptr}{ht hs ha:Hdl}{ba kk:Nat}{t:List Int}{sh:List Bool}{sa:List Int}(E:Env σ c1 p ht hs ha ba kk t sh sa)(k:Kp σ.objs.length σ σ'):Env σ' c1 p ht hs ha ba kk t sh sa:=
 ⟨E.so.kp k,(Zao (Zdr k fun b hb=>E.lt b (.inr (.inl hb)))).trans E.e1,E.wa.kp k,E.ra,by rw [k.prot]; exact Qa8 E.pr k.len,fun b hb=>Qab (E.lt b hb) k.len,E.far⟩
end Go.Ab

namespace Go.Ab
open Go Go.Proofs Go.Ab.Wd Go.Ab.Bs Go.Ab.Sai
theorem Z5q{σ:Store}{b:Nat}{v0 v:AV}(h:σ.objs[b]?=some (.cells [v0] true 1))(hp:σ.prot<=b)(hv:v.one=true):σ.stL (some (b,0)) [v] 0=some (σ.setO b (.cells [v] true 1)):=by
 rw [Zfo]
 simp only [Store.st,h]
 rw [if_pos ⟨⟨hp,by simp⟩,hv⟩]
 rfl
theorem Env.ind{σ:Store}{c1 p:Ptr}{ht hs ha:Hdl}{ba kk:Nat}{t:List Int}{sh:List Bool}{sa:List Int}(E:Env σ c1 p ht hs ha ba kk t sh sa){c2:Ptr}{hh:Hdl}{bh:Nat}{hd':List Int}
  (e2:σ.ldSl c2=some hh) (h:σ.Ints hh hd') (wh:σ.Wr hh) (rh:hh.row=some bh) (ab:ba≠bh) (n1:p.row≠some bh) (n2:c1.row≠some bh) (n3:ht.row≠some bh) (n4:hs.row≠some bh) (r2:c2.row≠some ba) (r3:c2.row≠some bh) :
  Ind σ c1 c2 p ht hs ha hh ba bh kk t sh (sa,hd'):=by
 refine⟨E.so,E.e1,e2,h,E.wa,wh,E.ra,rh,ab,fun b hb=>?_⟩
 obtain⟨f1,f2,f3,f4⟩:=E.far
 rcases hb with rfl | rfl
 ·exact⟨f1,f2,r2,f3,f4⟩
 ·exact⟨n1,n2,r3,n3,n4⟩
theorem Env.of_ind{σ σ0:Store}{c1 p:Ptr}{ht hs ha:Hdl}{ba kk:Nat}{t:List Int}{sh:List Bool}{sa:List Int}(E:Env σ0 c1 p ht hs ha ba kk t sh sa){c2:Ptr}{hh:Hdl}{bh:Nat}{st:Sai.St}
  (I:Ind σ c1 c2 p ht hs ha hh ba bh kk t sh st) (hp:σ.prot=σ0.prot) (hl:σ0.objs.length<=σ.objs.length):Env σ c1 p ht hs ha ba kk t sh st.1:=
 ⟨I.so,I.e1,I.wa,I.ra,by rw [hp]; exact Qa8 E.pr hl,fun b hb=>Qab (E.lt b hb) hl,E.far⟩
theorem Zu4{σ:Store}{c1 p:Ptr}{ht hs ha:Hdl}{ba kk b5:Nat}{t:List Int}{sh:List Bool}{sa:List Int}(E:Env σ c1 p ht hs ha ba kk t sh sa)(hn:t.length<2^62)(hk:kk*8<=281474976710656)(hrng:∀ x∈t,0<=x/\x<kk)
  (hsa:sa.length=t.length) (hr:Rng t sa) {v5:AV} (h5:σ.objs[b5]?=some (.cells [v5] true 1)) (p5:σ.prot<=b5) (n0:ba≠b5) (n1:p.row≠some b5) (n2:c1.row≠some b5) (n3:ht.row≠some b5) (n4:hs.row≠some b5)
  {st':Sai.St} (h:Sai.pass3 t sh t.length (t.length-1) (sa,tails t kk)=some st') :
  ∃ σ',Ev (fun k=>QM Qc (gm Qc k) Qi k Tryz.f173 [1,1,1,1,1,1,1,0,1,0] (Qm 4,[(5,.ptr (some (b5,0))),(2,.ptr c1)],σ)) (.tuple [],σ')/\Env σ' c1 p ht hs ha ba kk t sh st'.1 /\
   σ'.prot=σ.prot/\σ.objs.length<=σ'.objs.length/\∀ c,c<σ.objs.length->c≠ba->c≠b5->σ'.objs[c]?=σ.objs[c]?:=by
 have b5l:b5<σ.objs.length:=(Q8.1 h5).1
 have ne:∀ {r:Option Nat},(∀ b,r=some b->b<σ.objs.length)->r≠some σ.objs.length:=fun h e=>by have:=h _ e; omega
 have lp:=ne fun b hb=>E.lt b (.inl hb)
 have lc:=ne fun b hb=>E.lt b (.inr (.inl hb))
 have lt':=ne fun b hb=>E.lt b (.inr (.inr (.inl hb)))
 have ls:=ne fun b hb=>E.lt b (.inr (.inr (.inr (.inl hb))))
 have lba:=E.lt ba (.inr (.inr (.inr (.inr rfl))))
 obtain⟨σ1,⟨k1,r1⟩,kp1,len1,hI1,hW1⟩:=Zdz E.so true hn hk hrng E.pr lt'
 obtain⟨hh,hhe⟩:∃ hh:Hdl,hh=⟨some (σ.objs.length,0),kk,some kk⟩:=⟨_,rfl⟩
 rw [<-hhe] at r1 hI1 hW1
 have hhr:hh.row=some σ.objs.length:=by rw [hhe]; rfl
 have E1:=E.kp kp1
 have h51:σ1.objs[b5]?=some (.cells [v5] true 1):=(kp1.keep b5 b5l).trans h5
 have hst:=Z5q (v:=.slice hh) h51 (by rw [kp1.prot]; exact p5) rfl
 have o2:=Zeh σ1 b5 (.cells [.slice hh] true 1) (by omega)
 generalize hσ2:σ1.setO b5 (.cells [.slice hh] true 1)=σ2 at hst o2
 have hc2:σ2.cell (some (b5,0))=some (.slice hh):=by
  rw [<-hσ2]; simp only [Store.cell]; rw [Zcy σ1 b5 _ (by omega),if_pos rfl]; rfl
 have ra:ha.row≠some b5:=by rw [E.ra]; intro e; injection e with e; exact n0 e
 have rh:hh.row≠some b5:=by rw [hhr]; intro e; injection e with e; omega
 have E2:Env σ2 c1 p ht hs ha ba kk t sh sa:=
  ⟨E1.so.off o2 n1 n3 n4 (Store.Sl.off E1.so.a o2 ra),(Zao (Z6 o2 n2)).trans E1.e1,E1.wa.off o2 ra,E.ra,by rw [o2.prot,o2.len]; exact E1.pr,fun b hb=>by rw [o2.len]; exact E1.lt b hb,E.far⟩
 have e2':σ2.ldSl (some (b5,0))=some hh:=by simp only [QW,hc2]
 have I2:=E2.ind (c2:=some (b5,0)) (bh:=σ.objs.length) e2' (Store.Sl.off hI1 o2 rh) (hW1.off o2 rh) hhr (by omega) lp lc lt' ls (by simp [Ptr.row]; omega) (by simp [Ptr.row]; omega)
 obtain⟨σ3,g1,I3,o3⟩:=Zvr hn t.length (t.length-1) (sa,tails t kk) st' σ2 (by omega) (by omega) hsa I2 h hr
 refine⟨σ3,?_,E2.of_ind I3 o3.prot (by rw [o3.len]; exact Qn _),by rw [o3.prot,o2.prot,kp1.prot],by rw [o3.len,o2.len]; exact kp1.len,fun c hc c1' c2'=>?_⟩
 ·obtain⟨k2,g2⟩:=Zc g1
  refine⟨max k1 k2,fun k hk=>?_⟩
  have r1:=r1 k (by omega)
  have g2:=g2 k (by omega)
  simp only at r1 g2 ⊢
  obtain⟨x,hpx⟩:=E.so.nn
  have e1:=I2.e1
  have ea:=I2.so.a_
  have la:ha.len=sa.length:=I2.so.a.ilen
  rw [hpx] at e1 ea
  have w1:Qa .i64 ((ha.len:Int)-1)=(t.length:Int)-1:=by rw [Za (by omega) (by omega)]; omega
  rw [Zg3]
  simp only [E.e1,Qd,r1,Qa4,hst,e1,ea,w1,g2,Zgo]
 ·rw [o3.off c c1' (by omega),o2.off c c2',kp1.keep c hc]
end Go.Ab

namespace Go.Ab
open Go Go.Proofs Go.Ab.Wd Go.Ab.Bs Go.Ab.Sai
theorem Zx2{t:List Int}{sh:List Bool}(m:Nat):∀ {i:Int} {st st':Sai.St},Sai.pass2 t sh m i st=some st'->Rng t st.1->Rng t st'.1/\st'.1.length=st.1.length:=by
 induction m with
 | zero=>intro i st st' h hr; simp only [Sai.pass2] at h; injection h with h; subst h; exact⟨hr,rfl⟩
 | succ m ih=>
  intro i st st' h hr
  simp only [Sai.pass2] at h
  split at h
  ·obtain⟨s1,h1,h2⟩:=Qy.1 h
   obtain⟨g1,g2⟩:=ih h2 (Ztz h1 hr)
   exact⟨g1,g2.trans (Zmn h1).1⟩
  ·exact ih h hr
theorem Zu5{σ:Store}{c1 p:Ptr}{ht hs ha:Hdl}{ba kk b5:Nat}{t:List Int}{sh:List Bool}{sa:List Int}(E:Env σ c1 p ht hs ha ba kk t sh sa)(hn:t.length<2^62)(hk:kk*8<=281474976710656)(hrng:∀ x∈t,0<=x/\x<kk)
  (hsa:sa.length=t.length) (hr:Rng t sa) {v5:AV} (h5:σ.objs[b5]?=some (.cells [v5] true 1)) (p5:σ.prot<=b5) (n0:ba≠b5) (n1:p.row≠some b5) (n2:c1.row≠some b5) (n3:ht.row≠some b5) (n4:hs.row≠some b5)
  {st1 st2 st3:Sai.St} (h1:Sai.put t sh (sa,heads t kk) (t.length-1)=some st1) (h2:Sai.pass2 t sh t.length 0 st1=some st2) (h3:Sai.pass3 t sh t.length (t.length-1) (st2.1,tails t kk)=some st3) :
  ∃ σ',Ev (fun k=>QM Qc (gm Qc k) Qi k Tryz.f173 [1,1,1,0,1,0] (AX.normal,[(5,.ptr (some (b5,0))),(2,.ptr c1)],σ)) (.tuple [],σ')/\Env σ' c1 p ht hs ha ba kk t sh st3.1 /\
   σ'.prot=σ.prot/\σ.objs.length<=σ'.objs.length/\∀ c,c<σ.objs.length->c≠ba->c≠b5->σ'.objs[c]?=σ.objs[c]?:=by
 have b5l:b5<σ.objs.length:=(Q8.1 h5).1
 have ne:∀ {r:Option Nat} (m:Nat),σ.objs.length<=m->(∀ b,r=some b->b<σ.objs.length)->r≠some m:=fun m hm h e=>by have:=h _ e; omega
 have lba:=E.lt ba (.inr (.inr (.inr (.inr rfl))))
 obtain⟨σ1,⟨k1,r1⟩,kp1,len1,hI1,hW1⟩:=Zdz E.so false hn hk hrng E.pr (ne _ (Qn _) fun b hb=>E.lt b (.inr (.inr (.inl hb))))
 obtain⟨hh,hhe⟩:∃ hh:Hdl,hh=⟨some (σ.objs.length,0),kk,some kk⟩:=⟨_,rfl⟩
 rw [<-hhe] at r1 hI1 hW1
 have hhr:hh.row=some σ.objs.length:=by rw [hhe]; rfl
 have E1:=E.kp kp1
 have hbox:=Zo6 E1.pr (.slice QO) (.slice hh) rfl
 have kp2:Kp σ1.objs.length σ1 (σ1.push [.slice hh] 1):=Kp.push _ _ (Qn _)
 have E2:=E1.kp kp2
 have hc2:(σ1.push [.slice hh] 1).cell (some (σ1.objs.length,0))=some (.slice hh):=Zda _ _
 have e2':(σ1.push [.slice hh] 1).ldSl (some (σ1.objs.length,0))=some hh:=by simp only [QW,hc2]
 have I2:=E2.ind (c2:=some (σ1.objs.length,0)) (bh:=σ.objs.length) e2' (Store.Sl.kp hI1 kp2) (hW1.kp kp2) hhr (by omega)
  (ne _ (Qn _) fun b hb=>E.lt b (.inl hb)) (ne _ (Qn _) fun b hb=>E.lt b (.inr (.inl hb))) (ne _ (Qn _) fun b hb=>E.lt b (.inr (.inr (.inl hb)))) (ne _ (Qn _) fun b hb=>E.lt b (.inr (.inr (.inr (.inl hb))))) (by simp [Ptr.row]; omega) (by simp [Ptr.row]; omega)
 obtain⟨σ3,⟨k3,r3⟩,I3,o3⟩:=Zra I2 (show sa.length<2^62 by omega) h1
 have l1:=(Zmn h1).1
 have rg1:=Ztz h1 hr
 obtain⟨σ4,g4,I4,o4⟩:=Zvp (c5:=some (b5,0)) hn t.length 0 st1 st2 σ3 (by omega) (QL _) (l1.trans hsa) I3 h2 (fun x hx=>(rg1 x hx).2)
 have o34:=o3.trans o4
 obtain⟨rg2,l2⟩:=Zx2 _ h2 rg1
 have E4:=E2.of_ind I4 o34.prot (by rw [o34.len]; exact Qn _)
 have h54:σ4.objs[b5]?=some (.cells [v5] true 1):=by rw [o34.off b5 (Ne.symm n0) (by omega),kp2.keep b5 (by omega),kp1.keep b5 b5l]; exact h5
 have pr4:σ4.prot=σ.prot:=by rw [o34.prot,kp2.prot,kp1.prot]
 have len4:σ4.objs.length=σ1.objs.length+1:=by rw [o34.len]; simp [QP]
 obtain⟨σ5,⟨k5,r5⟩,E5,pr5,len5,off5⟩:=Zu4 E4 hn hk hrng (l2.trans (l1.trans hsa)) rg2 h54 (by rw [pr4]; exact p5) n0 n1 n2 n3 n4 h3
 refine⟨σ5,?_,E5,pr5.trans pr4,by omega,fun c hc c1' c2'=>?_⟩
 ·obtain⟨k4,g4⟩:=Zc g4
  refine⟨k1+k3+k4+k5,fun k hk=>?_⟩
  have r1:=r1 k (by omega)
  have r3:=r3 k (by omega)
  have g4:=g4 k (by omega)
  have r5:=r5 k (by omega)
  simp only at r1 r3 g4 r5 ⊢
  obtain⟨x,hpx⟩:=E.so.nn
  have e1:=I2.e1
  have et:=I2.so.t_
  have lt:ht.len=t.length:=I2.so.t.ilen
  have e1':=I3.e1
  have ea:=I3.so.a_
  have la:ha.len=st1.1.length:=I3.so.a.ilen
  rw [hpx] at e1 et e1' ea
  have w1:Qa .i64 ((ht.len:Int)-1)=(t.length:Int)-1:=by rw [Za (by omega) (by omega)]; omega
  have w2:((ha.len:Nat):Int)=(t.length:Int):=by rw [la,l1]; exact congrArg _ hsa
  rw [Zol]
  simp only [E.e1,Qd,r1,Qa4,hbox,e1,et,w1,r3,e1',ea,w2,g4,r5]
 ·rw [off5 c (by omega) c1' c2',o34.off c c1' (by omega),kp2.keep c (by omega),kp1.keep c hc]
end Go.Ab

namespace Go.Ab
open Go Go.Proofs Go.Ab.Wd Go.Ab.Bs Go.Ab.Sai
theorem Z3c(σ:Store)(o:AObj):Kp σ.objs.length σ { σ with objs:=σ.objs++[o] }:=⟨rfl,by simp,fun b hb=>by simp only []; rw [List.getElem?_append_left hb]⟩
theorem Zkk{σ:Store}{p:Ptr}{ht hs ha hl:Hdl}{ba kk:Nat}{t:List Int}{sh:List Bool}{sa lf sa':List Int}(S:Sorter σ p ht hs ha kk t sh sa)(wa:σ.Wr ha)(ra:ha.row=some ba)(pr:σ.prot<=σ.objs.length)
  (far:p.row≠some ba/\ht.row≠some ba/\hs.row≠some ba/\hl.row≠some ba) (lt:∀ b,p.row=some b\/ht.row=some b\/hs.row=some b\/hl.row=some b\/b=ba->b<σ.objs.length) (hn:t.length<2^62) (hk:kk*8<=281474976710656)
  (hrng:∀ x∈t,0<=x/\x<kk) (hsa:sa.length=t.length) (hL:σ.Ints hl lf) (hlf:lf.length<2^62) (h:Sai.induce t sh kk lf=some sa') :
  ∃ σ',Runs Qc 173 [.ptr p,.slice hl] σ (.tuple []) σ'/\Sorter σ' p ht hs ha kk t sh sa'/\σ'.Wr ha/\σ'.prot=σ.prot/\σ.objs.length<=σ'.objs.length/\∀ c,c<σ.objs.length->c≠ba->σ'.objs[c]?=σ.objs[c]?:=by
 obtain⟨st1,h1,h⟩:=Qy.1 h
 obtain⟨st2,h2,h⟩:=Qy.1 h
 obtain⟨st3,h3,h⟩:=Qy.1 h
 obtain⟨st4,h4,h⟩:=Option.map_eq_some_iff.1 h
 subst h
 obtain⟨f1,f2,f3,f4⟩:=far
 have ne:∀ {r:Option Nat} (m:Nat),σ.objs.length<=m->(∀ b,r=some b->b<σ.objs.length)->r≠some m:=fun m hm h e=>by have:=h _ e; omega
 have lp:∀ b,p.row=some b->b<σ.objs.length:=fun b hb=>lt b (.inl hb)
 have lt':∀ b,ht.row=some b->b<σ.objs.length:=fun b hb=>lt b (.inr (.inl hb))
 have ls:∀ b,hs.row=some b->b<σ.objs.length:=fun b hb=>lt b (.inr (.inr (.inl hb)))
 have ll:∀ b,hl.row=some b->b<σ.objs.length:=fun b hb=>lt b (.inr (.inr (.inr (.inl hb))))
 have lba:ba<σ.objs.length:=lt ba (.inr (.inr (.inr (.inr rfl))))
 have k1:Kp σ.objs.length σ (σ.push [.ptr p] 1):=Kp.push _ _ (Qn _)
 have len1:(σ.push [.ptr p] 1).objs.length=σ.objs.length+1:=by simp [QP]
 have ec1:(σ.push [.ptr p] 1).ldPtr (some (σ.objs.length,0))=some p:=by simp only [Store.ldPtr,Zda]
 obtain⟨σ1,hσ1⟩:∃ x,x=σ.push [.ptr p] 1:=⟨_,rfl⟩
 rw [<-hσ1] at k1 len1 ec1
 have S1:=S.kp k1
 have c1f:Ptr.row (some (σ.objs.length,0))≠some ba:=by simp [Ptr.row]; omega
 obtain⟨σ2,g2,S2,w2,o2⟩:=Zw5 (hl:=hl) hn ra f1 c1f f2 f3 t.length 0 sa σ1 (by omega) (QL _) hsa (fun j j0 j1=>by omega) S1 (wa.kp k1) ec1
 have len2:=o2.len
 have E2:Env σ2 (some (σ.objs.length,0)) p ht hs ha ba kk t sh (Qf t.length (-1)):=by
  refine⟨S2,(Zao (Z6 o2 c1f)).trans ec1,w2,ra,by rw [o2.prot,k1.prot]; omega,fun b hb=>?_,f1,c1f,f2,f3⟩
  rcases hb with hb | hb | hb | hb | hb
  ·have:=lp b hb; omega
  ·simp [Ptr.row] at hb; omega
  ·have:=lt' b hb; omega
  ·have:=ls b hb; omega
  ·omega
 obtain⟨σ3,⟨k3,r3⟩,kp3,len3,hI3,hW3⟩:=Zdz E2.so true hn hk hrng E2.pr (ne _ (by omega) lt')
 obtain⟨hh,hhe⟩:∃ hh:Hdl,hh=⟨some (σ2.objs.length,0),kk,some kk⟩:=⟨_,rfl⟩
 rw [<-hhe] at r3 hI3 hW3
 have hhr:hh.row=some σ2.objs.length:=by rw [hhe]; rfl
 have E3:=E2.kp kp3
 have hbox:=Zo6 E3.pr (.slice QO) (.slice hh) rfl
 have kp4:Kp σ3.objs.length σ3 (σ3.push [.slice hh] 1):=Kp.push _ _ (Qn _)
 have e4:(σ3.push [.slice hh] 1).ldSl (some (σ3.objs.length,0))=some hh:=by simp only [QW,Zda]
 have len4:(σ3.push [.slice hh] 1).objs.length=σ3.objs.length+1:=by simp [QP]
 obtain⟨σ4,hσ4⟩:∃ x,x=σ3.push [.slice hh] 1:=⟨_,rfl⟩
 rw [<-hσ4] at hbox kp4 e4 len4
 have E4:=E3.kp kp4
 obtain⟨k5,r5⟩:=Zoa σ4 hl
 have kp5:Kp σ4.objs.length σ4 (σ4.push [.slice hl] 1):=Kp.push _ _ (Qn _)
 have e5:(σ4.push [.slice hl] 1).ldSl (some (σ4.objs.length,0))=some hl:=by simp only [QW,Zda]
 have len5:(σ4.push [.slice hl] 1).objs.length=σ4.objs.length+1:=by simp [QP]
 obtain⟨σ5,hσ5⟩:∃ x,x=σ4.push [.slice hl] 1:=⟨_,rfl⟩
 rw [<-hσ5] at r5 kp5 e5 len5
 have E5:=E4.kp kp5
 have kp6:=Z3c σ5 (robj (some (σ.objs.length,0)) (some (σ3.objs.length,0)) .ready)
 have hy6:({ σ5 with objs:=σ5.objs++[robj (some (σ.objs.length,0)) (some (σ3.objs.length,0)) .ready] }:Store).objs[σ5.objs.length]?=some (robj (some (σ.objs.length,0)) (some (σ3.objs.length,0)) .ready):=by simp
 have len6:({ σ5 with objs:=σ5.objs++[robj (some (σ.objs.length,0)) (some (σ3.objs.length,0)) .ready] }:Store).objs.length=σ5.objs.length+1:=by simp
 obtain⟨σ6,hσ6⟩:∃ x,x=({ σ5 with objs:=σ5.objs++[robj (some (σ.objs.length,0)) (some (σ3.objs.length,0)) .ready] }:Store):=⟨_,rfl⟩
 rw [<-hσ6] at kp6 hy6 len6
 have E6:=E5.kp kp6
 have k36:Kp σ3.objs.length σ3 σ6:=kp4.trans ((kp5.trans (kp6.mono (by omega))).mono (by omega))
 have k26:Kp σ2.objs.length σ2 σ6:=kp3.trans (k36.mono (by omega))
 have k46:Kp σ4.objs.length σ4 σ6:=kp5.trans (kp6.mono (by omega))
 have I6:Ind σ6 (some (σ.objs.length,0)) (some (σ3.objs.length,0)) p ht hs ha hh ba σ2.objs.length kk t sh (Qf t.length (-1),tails t kk):=
  E6.ind (c2:=some (σ3.objs.length,0)) (bh:=σ2.objs.length)
   ((Zz (Zdr k46 (by intro b hb; simp [Ptr.row] at hb; omega))).trans e4) (Store.Sl.kp hI3 k36) (hW3.kp k36) hhr (by omega)
   (ne _ (by omega) lp) (by simp [Ptr.row]; omega) (ne _ (by omega) lt') (ne _ (by omega) ls) (by simp [Ptr.row]; omega) (by simp [Ptr.row]; omega)
 have e6:σ6.ldSl (some (σ4.objs.length,0))=some hl:=(Zz (Zdr kp6 (by intro b hb; simp [Ptr.row] at hb; omega))).trans e5
 have hL6:σ6.Ints hl lf:=hL.keep fun b o hb=>by
  have hr:hl.row=some b:=by simp [Hdl.row,hb]
  have hb':=ll b hr
  rw [k26.keep b (by omega),o2.off b (fun e=>f4 (by rw [hr,e])),k1.keep b hb']
 obtain⟨σ7,r7,I7,o7⟩:=pass1_spec I6 hn hlf (by simp) h1 e6 hL6 (by
   intro b hb
   rcases hb with rfl | rfl
   ·exact⟨by simp [Ptr.row]; omega,f4⟩
   ·exact⟨by simp [Ptr.row]; omega,ne _ (by omega) ll⟩) hy6 (by rw [k26.prot,o2.prot,k1.prot]; omega)
  (ne _ (by omega) lp) (by simp [Ptr.row]; omega) (by simp [Ptr.row]; omega) (ne _ (by omega) lt') (ne _ (by omega) ls) (by omega) (by omega)
 have hy7:σ7.objs[σ5.objs.length]?=some (robj (some (σ.objs.length,0)) (some (σ3.objs.length,0)) .ready):=(o7.off _ (by omega) (by omega)).trans hy6
 obtain⟨k7,g7⟩:=Zre (P:=Qc) (g:=204) (a:=[]) (b:=[.ptr (some (σ4.objs.length,0))]) (σ:=σ5) (σ':=σ7) (by rw [<-hσ6]; exact r7) hy7
 have o8:=Zeh σ7 σ5.objs.length .dead (by have:=o7.len; omega)
 obtain⟨σ8,hσ8⟩:∃ x,x=σ7.setO σ5.objs.length .dead:=⟨_,rfl⟩
 rw [<-hσ8] at o8
 have len7:=o7.len
 have len8:=o8.len
 have I8:=I7.aside o8 (ne _ (by omega) lp) (by simp [Ptr.row]; omega) (by simp [Ptr.row]; omega) (ne _ (by omega) lt') (ne _ (by omega) ls) (by omega) (by omega)
 have E8:=E6.of_ind I8 (o8.prot.trans o7.prot) (by omega)
 have h58:σ8.objs[σ3.objs.length]?=some (.cells [.slice hh] true 1):=by
  rw [o8.off _ (by omega),o7.off _ (by omega) (by omega),k46.keep _ (by omega),hσ4]
  simp [QP]
 have pr8:σ8.prot=σ.prot:=by rw [o8.prot,o7.prot,k26.prot,o2.prot,k1.prot]
 have d1:st1.1.length=t.length/\Rng t st1.1:=by
  have key:∀ (l:List Int) (s s':Sai.St),Sai.pass1 t l s=some s'->s.1.length=t.length->Rng t s.1->s'.1.length=t.length/\Rng t s'.1:=by
   intro l
   induction l with
   | nil=>intro s s' h h1 h2; simp only [Sai.pass1] at h; injection h with h; subst h; exact⟨h1,h2⟩
   | cons x l ih=>
    intro s s' h h1 h2
    simp only [Sai.pass1] at h
    obtain⟨s1,a1,a2⟩:=Qy.1 h
    exact ih s1 s' a2 ((Zjg a1).1.trans h1) (Zpj a1 h2)
  refine key _ _ _ h1 (by simp) fun x hx=>?_
  have:=(List.mem_replicate.1 hx)
  omega
 obtain⟨σ9,⟨k9,g9⟩,E9,pr9,len9,off9⟩:=Zu5 E8 hn hk hrng d1.1 d1.2 h58 (by omega) (by omega) (ne _ (by omega) lp) (by simp [Ptr.row]; omega) (ne _ (by omega) lt') (ne _ (by omega) ls) h2 h3 h4
 refine⟨σ9,rI Tryz.f173 ?_,E9.so,E9.wa,pr9.trans pr8,by omega,fun c hc c1=>?_⟩
 ·obtain⟨k2,g2⟩:=Zc g2
  refine⟨k2+k3+k5+k7+k9,fun k hk'=>?_⟩
  have g2:=g2 k (by omega)
  have r3:=r3 k (by omega)
  have r5:=r5 k (by omega)
  have g7:=g7 k (by omega)
  have g9:=g9 k (by omega)
  simp only at g2 r3 r5 g7 g9
  obtain⟨x,hpx⟩:=S.nn
  have ea:=S1.a_
  have la:ha.len=sa.length:=S.a.ilen
  have w:((ha.len:Nat):Int)=(t.length:Int):=by rw [la,hsa]
  rw [hpx] at ea
  show Qx Qc (gm Qc k) Qi k Tryz.f173 [.ptr p,.slice hl] σ=_
  rw [Z2b,<-hσ1]
  simp only [ec1,hpx,Qd,ea]
  rw [w,g2]
  simp only [Qd]
  rw [Zpx]
  simp only [E2.e1,Qd,r3,Qa4,hbox,r5,AV.asFn]
  refine (congrArg (fun z=>QF z _) g7).trans ?_
  simp only [Qd,<-hσ8]
  exact g9
 ·rw [off9 c (by omega) c1 (by omega),o8.off c (by omega),o7.off c c1 (by omega),k26.keep c (by omega),o2.off c c1,k1.keep c hc]
end Go.Ab

namespace Go.Ab.Sai
open Go.Ab.Wd Go.Ab.Bs
def lfB(short:List Bool)(p:Int):Bool:=decide (0<p)&&(rdOf false short p&&!rdOf false short (p-1))
theorem Zca(short:List Bool)(p:Int):lfB short p=true ↔ Lf short p:=by simp [lfB,Lf,S]
def sm(t:List Int)(short:List Bool)(a b:Int):Nat->Int->Bool
 | 0,_=>false
 | m+1,i=>
  if a+i<t.length/\b+i<t.length/\rd t (a+i)=rd t (b+i)/\S short (a+i)=S short (b+i) then
   if 0<i/\(lfB short (a+i)=true\/lfB short (b+i)=true) then lfB short (a+i)&&lfB short (b+i) else sm t short a b m (i+1)
  else false
theorem Zd0(t:List Int)(short:List Bool)(p q:Int):code t short p=code t short q ↔ rd t p=rd t q/\S short p=S short q:=by
 constructor
 ·exact Zcq
 ·rintro⟨h1,h2⟩; unfold code; rw [h1,h2]
theorem Zt5{t:List Int}{short:List Bool}(sh:Short t short){a b:Int}(a0:0<=a)(b0:0<=b)(hne:a≠b):∀ (m:Nat) (i:Int),0<=i->a+i<=t.length->b+i<=t.length->(t.length:Int)<max a b+i+m ->
  (sm t short a b m i=true ↔ if i=0 then B1 t short a=B1 t short b else A1 t short (a+i)=A1 t short (b+i))
 | 0,i,i0,ha,hb,hm=>by omega
 | m+1,i,i0,ha,hb,hm=>by
  have ih:=Zt5 sh a0 b0 hne m (i+1) (by omega)
  simp only [sm]
  rw [if_neg (show ¬ i+1=0 by omega)] at ih
  have key:∀ x y:Int,x=a+i->y=b+i->(x<t.length->y<t.length->(code t short x=code t short y ↔ rd t x=rd t y/\S short x=S short y)):=fun x y _ _ _ _=>Zd0 t short x y
  obtain⟨x,hx⟩:∃ x,a+i=x:=⟨_,rfl⟩
  obtain⟨y,hy⟩:∃ y,b+i=y:=⟨_,rfl⟩
  rw [show a+(i+1)=x+1 by omega,show b+(i+1)=y+1 by omega] at ih
  simp only [hx,hy] at ha hb ⊢
  have hnn:∀ {p:Int},p<t.length->A1 t short p≠[]:=fun {p} hp=>by
   by_cases hl:Lf short p
   ·rw [Z4 hp hl]; simp
   ·rw [Z5 hp hl]; simp
  have hhd:∀ {p:Int},p<t.length->(A1 t short p).head?=some (code t short p):=fun {p} hp=>by
   by_cases hl:Lf short p
   ·rw [Z4 hp hl]; simp
   ·rw [Z5 hp hl]; simp
  by_cases i00:i=0
  ·rw [if_pos i00]
   have ea:x=a:=by omega
   have eb:y=b:=by omega
   rw [<-ea,<-eb] at ih ⊢
   by_cases cx:x<t.length
   ·by_cases cy:y<t.length
    ·rw [Za9 cx,Za9 cy]
     by_cases ce:rd t x=rd t y/\S short x=S short y
     ·rw [if_pos ⟨cx,cy,ce⟩,if_neg (by omega),ih (by omega) (by omega) (by omega),List.cons.injEq,(Zd0 t short x y).2 ce]
      simp
     ·rw [if_neg (by rintro⟨_,_,h⟩; exact ce h),List.cons.injEq,Zd0]
      simp [ce]
    ·have:y=t.length:=by omega
     rw [if_neg (by rintro⟨_,h,_⟩; exact cy h),Za9 cx]
     unfold B1
     rw [if_neg cy]
     simp
   ·rw [if_neg (by rintro⟨h,_⟩; exact cx h)]
    have cy:y<t.length:=by omega
    rw [Za9 cy]
    unfold B1
    rw [if_neg cx]
    simp
  ·rw [if_neg i00]
   by_cases cx:x<t.length
   ·by_cases cy:y<t.length
    ·by_cases ce:rd t x=rd t y/\S short x=S short y
     ·rw [if_pos ⟨cx,cy,ce⟩]
      have hcode:=(Zd0 t short x y).2 ce
      have hlast:∀ p q:Int,q<t.length->S short p=true->S short p=S short q->A1 t short (q+1)≠[]:=fun p q hq h1 h2 h3=>by
       have:¬ q+1<t.length:=fun h=>hnn h h3
       have e:q=t.length-1:=by omega
       rw [h1,e,sh.last] at h2
       cases h2
      by_cases l1:Lf short x
      ·have b1:=(Zca short x).2 l1
       by_cases l2:Lf short y
       ·have b2:=(Zca short y).2 l2
        rw [if_pos ⟨by omega,.inl b1⟩,b1,b2,Z4 cx l1,Z4 cy l2,hcode]
        simp
       ·have b2:lfB short y=false:=by rw [QS]; exact fun h=>l2 ((Zca short y).1 h)
        rw [if_pos ⟨by omega,.inl b1⟩,b1,b2,Z4 cx l1,Z5 cy l2,hcode]
        have:=hlast x y cy l1.2.1 ce.2
        simp [Ne.symm this]
      ·have b1:lfB short x=false:=by rw [QS]; exact fun h=>l1 ((Zca short x).1 h)
       by_cases l2:Lf short y
       ·have b2:=(Zca short y).2 l2
        rw [if_pos ⟨by omega,.inr b2⟩,b1,b2,Z5 cx l1,Z4 cy l2,hcode]
        have:=hlast y x cx l2.2.1 ce.2.symm
        simp [this]
       ·have b2:lfB short y=false:=by rw [QS]; exact fun h=>l2 ((Zca short y).1 h)
        rw [if_neg (by rw [b1,b2]; simp),ih (by omega) (by omega) (by omega),Z5 cx l1,Z5 cy l2,hcode]
        simp
     ·rw [if_neg (by rintro⟨_,_,h⟩; exact ce h)]
      have:A1 t short x≠A1 t short y:=fun e=>by
       have h1:=hhd cx
       rw [e,hhd cy] at h1
       injection h1 with h1
       exact ce ((Zd0 t short x y).1 h1.symm)
      simp [this]
    ·rw [if_neg (by rintro⟨_,h,_⟩; exact cy h),Zc7 (show (t.length:Int)<=y by omega)]
     have:=hnn cx
     simp [this]
   ·rw [if_neg (by rintro⟨h,_⟩; exact cx h),Zc7 (show (t.length:Int)<=x by omega)]
    have cy:y<t.length:=by omega
    have:=hnn cy
    simp [Ne.symm this]
def shF:List Int->List Bool
 | []=>[]
 | [_]=>[false]
 | x::y::r=>(decide (x<y) || (decide (x=y)&&(shF (y::r)).headD false))::shF (y::r)
theorem Zlb:∀ t:List Int,(shF t).length=t.length
 | []=>rfl
 | [_]=>rfl
 | x::y::r=>by simp [shF,Zlb (y::r)]
theorem Zry(b:Bool)(l:List Bool):S (b::l) 0=b:=by simp [S,rdOf]
theorem Zc0(b:Bool)(l:List Bool){p:Int}(hp:0<=p):S (b::l) (p+1)=S l p:=by
 unfold S rdOf
 rw [show (p+1).toNat=p.toNat+1 by omega]
 simp
theorem Zrk(t:List Int):S (shF t) 0=(shF t).headD false:=by cases h:shF t <;> simp [S,rdOf]
theorem Zhx(x:Int)(l:List Int):rd (x::l) 0=x:=by simp [rd]
theorem Zed(x:Int)(l:List Int){p:Int}(hp:0<=p):rd (x::l) (p+1)=rd l p:=by
 unfold rd
 rw [show (p+1).toNat=p.toNat+1 by omega]
 simp
theorem Znz:∀ t:List Int,0<t.length->Short t (shF t)
 | [],h=>absurd h (by simp)
 | [x],_=>⟨rfl,by simp [shF,S,rdOf],fun p p0 p1=>by simp at p1; omega⟩
 | x::y::r,_=>by
  have ih:=Znz (y::r) (by simp)
  refine⟨Zlb _,?_,fun p p0 p1=>?_⟩
  ·have e:((x::y::r).length:Int)-1=(((y::r).length:Int)-1)+1:=by simp
   rw [e,shF,Zc0 _ _ (by simp)]
   exact ih.last
  ·by_cases h:p=0
   ·subst h
    rw [shF,Zry,show (0:Int)+1=0+1 from rfl,Zc0 _ _ (by omega),Zrk,Zhx,Zed _ _ (by omega),Zhx]
   ·obtain⟨q,rfl⟩:∃ q,p=q+1:=⟨p-1,by omega⟩
    have:=ih.step q (by omega) (by simp at p1 ⊢; omega)
    rw [shF,Zc0 _ _ (by omega),Zed _ _ (by omega),Zed _ _ (by omega),Zc0 _ _ (by omega)]
    exact this
def shU(t:List Int)(j:Nat):List Bool:=Qf j false++shF (t.drop j)
theorem Z0t(t:List Int):shU t 0=shF t:=by simp [shU]
theorem Z0s{t:List Int}(h:0<t.length):shU t (t.length-1)=Qf t.length false:=by
 obtain⟨m,hm⟩:∃ m,t.length=m+1:=⟨t.length-1,by omega⟩
 have:t.drop (t.length-1)=[t[t.length-1]]:=by
  rw [Q9 (by omega),Qak (by omega)]
 unfold shU
 rw [this,shF,hm]
 simp [Qao]
theorem Z52{t:List Int}{j:Nat}{p:Int}(hp:(j:Int)<=p):S (shU t j) p=S (shF (t.drop j)) (p-j):=by
 unfold S rdOf shU
 rw [Qac,Qac,List.getElem?_append_right (by simp; omega)]
 congr 2
 simp
theorem Zrl{t:List Int}{j:Nat}(hj:j+1<t.length):(shU t (j+1)).set j (decide (rd t j<rd t (j+1)) || (decide (rd t j=rd t (j+1))&&S (shU t (j+1)) (j+1)))=shU t j:=by
 have e1:t.drop j=t[j]::t[j+1]::t.drop (j+2):=by rw [Q9 (by omega),Q9 (by omega)]
 have e2:t.drop (j+1)=t[j+1]::t.drop (j+2):=by rw [Q9 (by omega)]
 have h1:rd t j=t[j]:=Zb (by omega)
 have h2:rd t ((j:Int)+1)=t[j+1]:=by have:=Zb (l:=t) (i:=j+1) (by omega); rw [<-this]; congr 1
 rw [Z52 (by omega),show ((j:Int)+1-((j+1:Nat):Int))=0 by omega,Zrk,h1,h2]
 unfold shU
 rw [Qao,List.append_assoc,List.set_append_right _ _ (by simp),List.length_replicate,Nat.sub_self,e1,shF,e2]
 simp
def lefU(short:List Bool)(j:Nat):List Int:=(places j).filter fun p=>lfB short p
theorem places_succ(j:Nat):places (j+1)=places j++[(j:Int)]:=by simp [places,List.range_succ]
theorem Zz6{short:List Bool}{j:Nat}(h:lfB short j=true):lefU short (j+1)=lefU short j++[(j:Int)]:=by
 unfold lefU; rw [places_succ,Qaa]; simp [h]
theorem Z3e{short:List Bool}{j:Nat}(h:lfB short j=false):lefU short (j+1)=lefU short j:=by
 unfold lefU; rw [places_succ,Qaa]; simp [h]
theorem Zi2(short:List Bool)(j:Nat):(lefU short j).length<=j:=by
 have:=QY (fun p=>lfB short p) (places j)
 rw [Zv] at this
 exact this
theorem Zd7{short:List Bool}{j:Nat}{p:Int}:p∈lefU short j ↔ (0<=p/\p<j)/\Lf short p:=by
 unfold lefU; rw [Qal,Zo,Zca]
theorem Zvt(n:Nat):(places n).Pairwise (· < ·):=by
 unfold places; rw [QR]; exact Qaj.imp fun h=>by simpa using h
theorem Zz5(t:List Int)(short:List Bool):Asc t short (lefU short t.length):=
 ⟨⟨(Zaw _).filter _,fun p=>by rw [Zd7]⟩,(Zvt _).filter _⟩
theorem Z3d{short:List Bool}{n:Nat}(h:0<n):(lefU short n).length<n:=by
 have h1:=Zu (l:=0::lefU short n) (m:=places n) (QQ.2 ⟨fun h=>by
  have:=(Zd7.1 h).2.1; omega,(Zaw _).filter _⟩) (fun p hp=>by
   rcases Qa7.1 hp with rfl | hp
   ·exact Zo.2 ⟨by omega,by omega⟩
   ·exact Zo.2 (Zd7.1 hp).1)
 rw [Zv,Qz] at h1
 omega
def smB(t:List Int)(short:List Bool)(a b:Int):Bool:=sm t short a b (t.length+1) 0
theorem Zv0{t:List Int}{kk:Nat}(hpos:0<t.length)(hrng:∀ x∈t,0<=x/\x<kk) :
  ∃ sa1 nm top,induce t (shF t) kk (lefU (shF t) t.length)=some sa1/\IsPerm t.length sa1/\name (lfB (shF t)) (smB t (shF t)) sa1 (Qf t.length 0) (-1) (-1)=(nm,top)/\nm.length=t.length/\-1<=top/\top<t.length /\
   (∀ x∈(lefU (shF t) t.length).map (rd nm),0<=x/\x<=top)/\induce t (shF t) kk ((saOf ((lefU (shF t) t.length).map (rd nm))).map (rd (lefU (shF t) t.length)))=some (saOf t):=by
 have sh:=Znz t hpos
 have asc:=Zz5 t (shF t)
 obtain⟨sa1,e1,hp,ho⟩:=Zu1 hpos hrng sh asc.toLefts
 have hord:sa1.Pairwise (fun p q=>le (B1 t (shF t) p) (B1 t (shF t) q)):=by
  rw [QI]
  intro i j hi hj hij
  have:=ho i j (by omega) (by omega) (by have:=hp.len; omega)
  rwa [Zb hi,Zb hj] at this
 obtain⟨nm,top,last,e2,inv,ht⟩:=Zhn (t:=t) (short:=shF t) (lfB (shF t)) (smB t (shF t)) (fun p _ _=>Zca _ p) (fun p q p0 p1 q0 q1 _ _ hne=>by
   have:=Zt5 sh p0 q0 hne (t.length+1) 0 (QL _) (by omega) (by omega) (by omega)
   rwa [if_pos rfl] at this) sa1 [] (Qf t.length 0) (-1) (-1) (fun p hp'=>hp.rng p (by simpa using hp')) (by simpa using hp.nd) (by simpa using hord)
   ⟨by simp,by simp,by simp,.inl ⟨by omega,rfl,by simp⟩,by omega⟩
 rw [List.nil_append] at inv
 have hn:Names t (shF t) nm top:=⟨fun p p0 p1 hl=>inv.rng p (hp.mem p0 p1) hl,fun p q p0 p1 q0 q1 hlp hlq=>inv.lt p (hp.mem p0 p1) q (hp.mem q0 q1) hlp hlq⟩
 obtain⟨sa2,e3,hsa⟩:=Zsg hpos hrng sh asc hn (Zi _)
 rw [Z3w hsa]
 refine⟨sa1,nm,top,e1,hp,e2,inv.len,inv.top_,by have:=hp.len; omega,fun x hx=>?_,e3⟩
 obtain⟨p,hp',rfl⟩:=Qai.1 hx
 have:=Zd7.1 hp'
 exact hn.rng p this.1.1 this.1.2 this.2
end Go.Ab.Sai

namespace Go.Ab
open Go Go.Proofs Go.Ab.Wd Go.Ab.Bs Go.Ab.Sai
set_option maxHeartbeats 1000000 in
theorem Zyj{σ:Store}{p:Ptr}{ht hs ha:Hdl}{kk:Nat}{t:List Int}{sh:List Bool}{sa:List Int}(S:Sorter σ p ht hs ha kk t sh sa)(hn:t.length<2^61)(hl:sh.length=t.length){a b:Int}(a0:0<=a)(b0:0<=b)(m:Nat) :
  ∀ i:Int,0<=i->a+i<=t.length->b+i<=t.length->(t.length:Int)<max a b+i+m ->
   EvI (fun k s=>QD Qc (gm Qc k) Qi k Tryz.f174 [1,1,0] [7,2,1,0] s) ([.int .i64 i,.int .i64 b,.int .i64 a,.ptr p],σ) (QH,[(6,.bool (sm t sh a b m i))],σ):=by
 induction m with
 | zero=>intro i i0 ia ib im; omega
 | succ m ih=>
  intro i i0 ia ib im
  obtain⟨x,rfl⟩:=S.nn
  have w1:Qa .i64 (a+i)=a+i:=Za (by omega) (by omega)
  have w2:Qa .i64 (b+i)=b+i:=Za (by omega) (by omega)
  have w3:Qa .i64 (i+1)=i+1:=Za (by omega) (by omega)
  have lt:=S.t.ilen
  have ls:=S.s.blen
  have eq:=fun (Γ:Gam) k=>Zwu Γ k σ i b a (some x)
  by_cases c1:a+i<t.length
  ·by_cases c2:b+i<t.length
   ·obtain⟨k1,r1⟩:=Zet S (show 0<=a+i by omega) (by omega) (by omega)
    obtain⟨k2,r2⟩:=Zet S (show 0<=b+i by omega) (by omega) (by omega)
    have n1:0<=a+i:=by omega
    have n2:0<=b+i:=by omega
    have i1:=ih (i+1) (by omega) (by omega) (by omega) (by omega)
    have hA:lft sh (a+i)=lfB sh (a+i):=rfl
    have hB:lft sh (b+i)=lfB sh (b+i):=rfl
    rw [hA] at r1
    rw [hB] at r2
    have main:∀ k,k1+k2<=k->QD Qc (gm Qc k) Qi k Tryz.f174 [1,1,0] [7,2,1,0] ([.int .i64 i,.int .i64 b,.int .i64 a,.ptr (some x)],σ) =
      if rd t (a+i)=rd t (b+i)/\Sai.S sh (a+i)=Sai.S sh (b+i) then
       if 0<i/\(lfB sh (a+i)=true\/lfB sh (b+i)=true) then some (.inr (QH,[(6,.bool (lfB sh (a+i)&&lfB sh (b+i)))],σ)) else some (.inl ([.int .i64 (i+1),.int .i64 b,.int .i64 a,.ptr (some x)],σ))
      else some (.inr (QH,[(6,.bool false)],σ)):=by
     intro k hk
     have r1:=r1 k (by omega)
     have r2:=r2 k (by omega)
     simp only at r1 r2
     have hta:=S.t.rd (show 0<=a+i by omega) c1
     have htb:=S.t.rd (show 0<=b+i by omega) c2
     have hsa:=S.s.rd (show 0<=a+i by omega) (by omega)
     have hsb:=S.s.rd (show 0<=b+i by omega) (by omega)
     rw [eq]
     have eS:∀ q,Sai.S sh q=rdOf false sh q:=fun _=>rfl
     rw [eS,eS]
     by_cases c3:rd t (a+i)=rd t (b+i)
     ·cases h3:rdOf false sh (a+i) <;> cases h4:rdOf false sh (b+i) <;> rw [h3] at hsa <;> rw [h4] at hsb
      all_goals try (simp only [stp,S.t_,S.s_,w1,w2,w3,hta,htb,hsa,hsb,lt,ls,c1,c2,n1,n2,c3,hl]<;> done)
      all_goals
       by_cases c5:0<i
       ·cases h1:lfB sh (a+i) <;> cases h2:lfB sh (b+i) <;> rw [h1] at r1 <;> rw [h2] at r2 <;>
        simp only [stp,S.t_,S.s_,w1,w2,w3,hta,htb,hsa,hsb,lt,ls,c1,c2,n1,n2,c3,c5,r1,r2,hl,or_true,true_or,or_false,or_self]
       ·simp only [stp,S.t_,S.s_,w1,w2,w3,hta,htb,hsa,hsb,lt,ls,c1,c2,n1,n2,c3,c5,hl]
     ·simp only [stp,S.t_,S.s_,w1,w2,w3,hta,htb,hsa,hsb,lt,ls,c1,c2,n1,n2,c3,hl]
    by_cases d1:rd t (a+i)=rd t (b+i)/\Sai.S sh (a+i)=Sai.S sh (b+i)
    ·by_cases d2:0<i/\(lfB sh (a+i)=true\/lfB sh (b+i)=true)
     ·have:sm t sh a b (m+1) i=(lfB sh (a+i)&&lfB sh (b+i)):=by simp only [sm]; rw [if_pos ⟨c1,c2,d1⟩,if_pos d2]
      rw [this]
      exact EvI.done ⟨k1+k2,fun k hk=>by simp only [main k hk]; rw [if_pos d1,if_pos d2]⟩
     ·have:sm t sh a b (m+1) i=sm t sh a b m (i+1):=by simp only [sm]; rw [if_pos ⟨c1,c2,d1⟩,if_neg d2]
      rw [this]
      exact EvI.step ⟨k1+k2,fun k hk=>by simp only [main k hk]; rw [if_pos d1,if_neg d2]⟩ i1
    ·have:sm t sh a b (m+1) i=false:=by simp only [sm]; rw [if_neg (by rintro⟨_,_,h⟩; exact d1 h)]
     rw [this]
     exact EvI.done ⟨k1+k2,fun k hk=>by simp only [main k hk]; rw [if_neg d1]⟩
   ·have:sm t sh a b (m+1) i=false:=by simp only [sm]; rw [if_neg (by rintro⟨_,h,_⟩; exact c2 h)]
    rw [this]
    refine EvI.done (Ev.of fun k=>?_)
    rw [eq]
    simp [S.t_,w1,w2,lt,c1,c2]
  ·have:sm t sh a b (m+1) i=false:=by simp only [sm]; rw [if_neg (by rintro⟨h,_⟩; exact c1 h)]
   rw [this]
   refine EvI.done (Ev.of fun k=>?_)
   rw [eq]
   simp [S.t_,w1,w2,lt,c1]
theorem Zyk{σ:Store}{p:Ptr}{ht hs ha:Hdl}{kk:Nat}{t:List Int}{sh:List Bool}{sa:List Int}(S:Sorter σ p ht hs ha kk t sh sa)(hn:t.length<2^61)(hl:sh.length=t.length){a b:Int}(a0:0<=a)(a1:a<t.length)(b0:0<=b)(b1:b<t.length) :
  Runs Qc 174 [.ptr p,.int .i64 a,.int .i64 b] σ (.bool (smB t sh a b)) σ:=by
 refine rI Tryz.f174 ?_
 refine (Ev.bind (Zc (Zyj S hn hl a0 b0 (t.length+1) 0 (QL _) (by omega) (by omega) (by omega))) (Ev.of fun k=>Zr7 (gm Qc k) k σ _)).congr fun k=>?_
 rw [Z2c]
end Go.Ab

namespace Go.Ab
open Go Go.Proofs Go.Ab.Wd Go.Ab.Bs Go.Ab.Sai
theorem Store.Row.ld_ints{σ:Store}{b:Nat}{l:List Int}(r:σ.Row b 1 (intsL l)){i:Int}(h0:0<=i)(h1:i<l.length){len:Nat}{cp:Option Nat}:σ.ldInt .i64 (Ql ⟨some (b,0),len,cp⟩ i 1)=some (rd l i):=by
 have:σ.Ints ⟨some (b,0),l.length,cp⟩ l:=r.sl (by simp)
 have:=this.rd h0 h1
 simpa [Ql] using this
abbrev hdS (N n:Nat):Hdl:=⟨some (N,0),n,some n⟩
structure SS (σ0 σ:Store) (h:Hdl) (kk:Nat) (t:List Int) (sh:List Bool) (sa:List Int):Prop where
 kp:Kp σ0.objs.length σ0 σ
 ht:σ0.Ints h t
 rs:σ.Row σ0.objs.length 1 (boolsL sh)
 rg:σ.Row (σ0.objs.length+2) 4 [.slice h,.int .i64 kk,.slice (hdS σ0.objs.length t.length),.slice (hdS (σ0.objs.length+1) t.length)]
 a:σ.Ints (hdS (σ0.objs.length+1) t.length) sa
 wa:σ.Wr (hdS (σ0.objs.length+1) t.length)
 ls:sh.length=t.length
 la:sa.length=t.length
 pr:σ0.prot<=σ0.objs.length
 hh:∀ b,h.row=some b->b<σ0.objs.length
section
variable {σ0 σ σ':Store} {h:Hdl} {kk:Nat} {t:List Int} {sh:List Bool} {sa:List Int}
theorem SS.len(S:SS σ0 σ h kk t sh sa):σ0.objs.length+3<=σ.objs.length:=by have:=S.rg.lt; omega
theorem SS.prot(S:SS σ0 σ h kk t sh sa):σ.prot<=σ0.objs.length:=by rw [S.kp.prot]; exact S.pr
theorem SS.sorter(S:SS σ0 σ h kk t sh sa):Sorter σ (some (σ0.objs.length+2,0)) h (hdS σ0.objs.length t.length) (hdS (σ0.objs.length+1) t.length) kk t sh sa:=by
 have c:=S.rg.cell
 refine⟨⟨_,rfl⟩,?_,?_,?_,?_,Store.Sl.kp S.ht S.kp,S.rs.sl (by simp [S.ls]),S.a⟩
 ·simp [QW,Qe,c]
 ·simp [Qa9,Qe,c]
 ·simp [QW,Qe,c]
 ·simp [QW,Qe,c]
theorem SS.keep(S:SS σ0 σ h kk t sh sa){n:Nat}(hn:σ0.objs.length+3<=n)(k:Kp n σ σ'):SS σ0 σ' h kk t sh sa:=by
 refine⟨S.kp.then k (by omega),S.ht,S.rs.kp k (by omega),S.rg.kp k (by omega),S.a.keep fun b o e=>k.keep b ?_,?_,S.ls,S.la,S.pr,S.hh⟩
 ·simp [hdS] at e; omega
 ·obtain⟨b,o,cs,h1,h2,h3⟩:=S.wa
  have:b<n:=by simp [hdS] at h1; omega
  exact⟨b,o,cs,h1,(k.keep b this).trans h2,by rw [k.prot]; exact h3⟩
theorem Zvz(hn:t.length<2^61)(m:Nat):∀ (σ:Store),m<t.length->SS σ0 σ h kk t (shU t m) sa ->
  ∃ σ',EvI (fun k s=>QD Qc (gm Qc k) Qi k Tryz.f117 [1,1,1,1,0,1,0] [7,6,5,0] s) ([.int .i64 (m-1),.ptr (some (σ0.objs.length+2,0)),.int .i64 t.length,.slice h],σ)
    (Qm 0,[(6,.ptr (some (σ0.objs.length+2,0))),(5,.int .i64 t.length),(0,.slice h)],σ')/\SS σ0 σ' h kk t (shF t) sa/\σ'.objs.length=σ.objs.length:=by
 induction m with
 | zero=>
  intro σ hm S
  rw [Z0t] at S
  exact⟨σ,EvI.done (Ev.of fun k=>by rw [Zgg]; simp),S,rfl⟩
 | succ m ih=>
  intro σ hm S
  have So:=S.sorter
  have es:=So.s_
  have ht:=So.t
  have lt:=ht.ilen
  have ls:=S.ls
  have i0:(0:Int)<=m:=by omega
  have r1:=ht.rd i0 (by omega)
  have r2:=ht.rd (show (0:Int)<=m+1 by omega) (by omega)
  have r3:=So.s.rd (show (0:Int)<=m+1 by omega) (by omega)
  have st:=fun x=>Z00 (x:=x) (len:=t.length) (cp:=some t.length) S.rs S.prot i0 (by omega)
  have w1:Qa .i64 ((m:Int)+1)=m+1:=Za (by omega) (by omega)
  have w2:Qa .i64 ((m:Int)-1)=m-1:=Za (by omega) (by omega)
  have S':∀ x,SS σ0 (σ.setO σ0.objs.length (.cells (boolsL ((shU t (m+1)).set m x)) true 1)) h kk t ((shU t (m+1)).set m x) sa:=by
   intro x
   have hl:=S.rs.lt
   refine⟨S.kp.setO (Qn _),S.ht,Store.Row.setO_eq hl,S.rg.setO_ne (by omega),S.a.keep fun b o e=>?_,?_,by simpa using S.ls,S.la,S.pr,S.hh⟩
   ·simp [hdS] at e
    show (σ.objs.set _ _)[b]?=_; rw [List.getElem?_set,if_neg (by omega)]
   ·exact S.wa.off (Zeh σ _ _ hl) (by simp [Hdl.row,hdS])
  obtain⟨σ',g1,g2,g3⟩:=ih _ (by omega) (by have:=S' (decide (rd t m<rd t (m+1)) || (decide (rd t m=rd t (m+1))&&Sai.S (shU t (m+1)) (m+1))); rwa [Zrl (by omega)] at this)
  refine⟨σ',EvI.step (Ev.of fun k=>?_) g1,g2,by simpa using g3⟩
  have c1:(m:Int)<t.length:=by omega
  have c2:(m:Int)+1<t.length:=by omega
  have c3:(0:Int)<=m+1:=by omega
  rw [<-Zrl (by omega)]
  have e1:((m+1:Nat):Int)-1=m:=by omega
  have eS:Sai.S (shU t (m+1)) (m+1)=rdOf false (shU t (m+1)) (m+1):=rfl
  have es':σ.ldSl (Qe (some (σ0.objs.length+2,0)) 2)=some (hdS σ0.objs.length t.length):=es
  rw [Zgg,e1,eS]
  by_cases d1:rd t m<rd t (m+1)
  ·simp only [stp,es',r1,r2,r3,st,w1,w2,lt,c1,c2,c3,i0,d1,QB]
  ·by_cases d2:rd t m=rd t (m+1)
   ·simp only [stp,es',r1,r2,r3,st,w1,w2,lt,c1,c2,c3,i0,d2,Q3,QB]
   ·simp only [stp,es',r1,r2,r3,st,w1,w2,lt,c1,c2,c3,i0,d1,d2,QB]
theorem Zxn(hn:t.length<2^41)(S:SS σ0 σ h kk t sh sa):∃ hl σ',EvI (fun k s=>QD Qc (gm Qc k) Qi k Tryz.f117 [1,1,1,1,1,1,0,1,0] [83,82,8,6,5] s)
   ([.int .i64 0,.int .i64 t.length,.slice QO,.ptr (some (σ0.objs.length+2,0)),.int .i64 t.length],σ) (Qm 2,[(8,.slice hl),(6,.ptr (some (σ0.objs.length+2,0))),(5,.int .i64 t.length)],σ') /\
   SS σ0 σ' h kk t sh sa/\GrowI σ' σ.objs.length hl (lefU sh t.length)/\Kp σ.objs.length σ σ':=by
 have key:=EvI.up (f:=fun k s=>QD Qc (gm Qc k) Qi k Tryz.f117 [1,1,1,1,1,1,0,1,0] [83,82,8,6,5] s) t.length
  (fun i s=>∃ hl σ1,s=([.int .i64 i,.int .i64 t.length,.slice hl,.ptr (some (σ0.objs.length+2,0)),.int .i64 t.length],σ1)/\SS σ0 σ1 h kk t sh sa/\GrowI σ1 σ.objs.length hl (lefU sh i)/\Kp σ.objs.length σ σ1)
  (fun r=>∃ hl σ',r=(Qm 2,[(8,.slice hl),(6,.ptr (some (σ0.objs.length+2,0))),(5,.int .i64 t.length)],σ')/\SS σ0 σ' h kk t sh sa/\GrowI σ' σ.objs.length hl (lefU sh t.length)/\Kp σ.objs.length σ σ')
  (by
   rintro i s hi ⟨hl,σ1,rfl,S1,g,k1⟩
   have hlen:=S1.len
   have hpr:=S1.prot
   have i1:(i:Int)<t.length:=by omega
   have w1:Qa .i64 ((i:Int)+1)=(i+1:Nat):=Za (by omega) (by omega)
   obtain⟨k0,r0⟩:=Zet S1.sorter (show (0:Int)<=i by omega) (by have:=S1.ls; omega) (by have:=S1.ls; omega)
   have hA:lft sh i=lfB sh i:=rfl
   rw [hA] at r0
   cases hb:lfB sh i with
   | false=>
    rw [hb] at r0
    refine⟨_,⟨k0,fun k hk=>?_⟩,hl,σ1,rfl,S1,by rw [Z3e hb]; exact g,k1⟩
    have r0:=r0 k hk
    simp only at r0
    simp only [Zce]
    simp only [stp,i1,r0,w1]
   | true=>
    rw [hb] at r0
    have:=Zi2 sh i
    obtain⟨hl',σ2,e2,k2,g2⟩:=g.app (by have:=k1.prot; have:=S.prot; have:=S.len; omega) k1.len (i:Int) (by omega)
    refine⟨_,⟨k0,fun k hk=>?_⟩,hl',σ2,rfl,S1.keep (by have:=S.len; omega) k2,by rw [Zz6 hb]; exact g2,k1.trans k2⟩
    have r0:=r0 k hk
    simp only at r0
    simp only [Zce]
    simp only [stp,i1,r0,w1,Zbf,e2])
  (by
   rintro s ⟨hl,σ1,rfl,S1,g,k1⟩
   exact⟨_,Ev.of fun k=>by simp only [Zce]; simp only [stp,Q3],hl,σ1,rfl,S1,g,k1⟩)
  (s:=([.int .i64 0,.int .i64 t.length,.slice QO,.ptr (some (σ0.objs.length+2,0)),.int .i64 t.length],σ)) ⟨Hdl.nil,σ,rfl,S,Grow.nil _ _ _,Kp.refl _ _⟩
 obtain⟨r,e,hl,σ',rfl,h1,h2,h3⟩:=key
 exact⟨hl,σ',e,h1,h2,h3⟩
end
end Go.Ab

namespace Go.Ab
open Go Go.Proofs Go.Ab.Wd Go.Ab.Bs Go.Ab.Sai
theorem Zh8{l:List Int}{i:Nat}(h:i<l.length):l.drop i=rd l i::l.drop (i+1):=by rw [Q9 h,Zb h]
theorem Zj{l:List Int}{i:Nat}(h:i<l.length):l.take (i+1)=l.take i++[rd l i]:=by rw [QX,Zb h]; simp [h]
section
variable {σ0 σ σ':Store} {h:Hdl} {kk:Nat} {t:List Int} {sh:List Bool} {sa:List Int}
theorem Zxu(hn:t.length<2^41)(S:SS σ0 σ h kk t sh sa)(hsa:∀ x∈sa,0<=x/\x<t.length){hl:Hdl}{nmF:List Int}{topF:Int}(hF:name (lfB sh) (smB t sh) sa (Qf t.length 0) (-1) (-1)=(nmF,topF)) :
  ∃ σ',EvI (fun k s=>QD Qc (gm Qc k) Qi k Tryz.f117 [1,1,1,1,1,1,1,1,1,1,0,1,0] [104,103,102,12,11,10,8,6] s)
   ([.int .i64 0,.int .i64 t.length,.slice (hdS (σ0.objs.length+1) t.length),.int .i64 (-1),.int .i64 (-1),.slice (hdS σ.objs.length t.length),.slice hl,.ptr (some (σ0.objs.length+2,0))],σ.push (intsL (Qf t.length 0)) 1)
   (Qm 4,[(11,.int .i64 topF),(10,.slice (hdS σ.objs.length t.length)),(8,.slice hl),(6,.ptr (some (σ0.objs.length+2,0)))],σ') /\
   Kp σ.objs.length σ σ'/\σ'.Row σ.objs.length 1 (intsL nmF):=by
 have key:=EvI.up (f:=fun k s=>QD Qc (gm Qc k) Qi k Tryz.f117 [1,1,1,1,1,1,1,1,1,1,0,1,0] [104,103,102,12,11,10,8,6] s) t.length
  (fun i s=>∃ last top nm σ1,s=([.int .i64 i,.int .i64 t.length,.slice (hdS (σ0.objs.length+1) t.length),.int .i64 last,.int .i64 top,.slice (hdS σ.objs.length t.length),.slice hl,.ptr (some (σ0.objs.length+2,0))],σ1) /\
   Kp σ.objs.length σ σ1/\σ1.Row σ.objs.length 1 (intsL nm)/\nm.length=t.length/\name (lfB sh) (smB t sh) (sa.drop i) nm top last=(nmF,topF)/\-1<=top/\top<i/\-1<=last/\last<t.length)
  (fun r=>∃ σ',r=(Qm 4,[(11,.int .i64 topF),(10,.slice (hdS σ.objs.length t.length)),(8,.slice hl),(6,.ptr (some (σ0.objs.length+2,0)))],σ')/\Kp σ.objs.length σ σ'/\σ'.Row σ.objs.length 1 (intsL nmF))
  (by
   rintro i s hi ⟨last,top,nm,σ1,rfl,k1,rn,ln,hN,t0,t1,l0,l1⟩
   have hlen:=S.len
   have S1:=S.keep hlen k1
   have hpr:=S1.prot
   have la:=S.la
   have i0:(0:Int)<=i:=by omega
   have i1:(i:Int)<t.length:=by omega
   have w1:Qa .i64 ((i:Int)+1)=(i+1:Nat):=Za (by omega) (by omega)
   have w2:Qa .i64 (top+1)=top+1:=Za (by omega) (by omega)
   have ra:=S1.sorter.a.rd i0 (by omega)
   obtain⟨x,hx⟩:∃ x,rd sa i=x:=⟨_,rfl⟩
   obtain⟨x0,x1⟩:=hsa _ (Ze i0 (show (i:Int)<sa.length by omega))
   rw [Zh8 (by omega),hx] at hN
   rw [hx] at ra x0 x1
   have st:=fun y=>Zcz (x:=y) (len:=t.length) (cp:=some t.length) rn (by omega) x0 (by omega)
   have next:∀ y,Kp σ.objs.length σ (σ1.setO σ.objs.length (.cells (intsL (nm.set x.toNat y)) true 1))/\(σ1.setO σ.objs.length (.cells (intsL (nm.set x.toNat y)) true 1)).Row σ.objs.length 1 (intsL (nm.set x.toNat y))/\(nm.set x.toNat y).length=t.length:=
    fun y=>⟨k1.setO (Qn _),Store.Row.setO_eq rn.lt,by simpa using ln⟩
   obtain⟨k0,r0⟩:=Zet S1.sorter x0 (by have:=S1.ls; omega) (by have:=S1.ls; omega)
   have hA:lft sh x=lfB sh x:=rfl
   rw [hA] at r0
   simp only [name] at hN
   cases hb:lfB sh x with
   | false=>
    rw [hb,if_neg (by simp)] at hN
    rw [hb] at r0
    refine⟨_,⟨k0,fun k hk=>?_⟩,last,top,nm,σ1,rfl,k1,rn,ln,hN,t0,by omega,l0,l1⟩
    have r0:=r0 k hk
    simp only at r0
    simp only [Z3]
    simp only [stp,i0,i1,ra,r0,w1]
   | true=>
    rw [hb,if_pos rfl] at hN
    rw [hb] at r0
    by_cases c1:last<0
    ·rw [if_pos (.inl c1)] at hN
     obtain⟨n1,n2,n3⟩:=next (top+1)
     refine⟨_,⟨k0,fun k hk=>?_⟩,x,top+1,_,_,rfl,n1,n2,n3,hN,by omega,by omega,by omega,x1⟩
     have r0:=r0 k hk
     simp only at r0
     simp only [Z3]
     simp only [stp,i0,i1,ra,r0,w1,w2,c1,x0,x1,st]
    ·obtain⟨k2,r2⟩:=Zyk S1.sorter (by omega) S.ls (show 0<=last by omega) l1 x0 x1
     cases hs:smB t sh last x with
     | false=>
      rw [if_pos (.inr hs)] at hN
      rw [hs] at r2
      obtain⟨n1,n2,n3⟩:=next (top+1)
      refine⟨_,⟨k0+k2,fun k hk=>?_⟩,x,top+1,_,_,rfl,n1,n2,n3,hN,by omega,by omega,by omega,x1⟩
      have r0:=r0 k (by omega)
      have r2:=r2 k (by omega)
      simp only at r0 r2
      simp only [Z3]
      simp only [stp,i0,i1,ra,r0,r2,w1,w2,c1,x0,x1,st]
     | true=>
      rw [if_neg (by rintro (h | h); exact c1 h; rw [hs] at h; cases h)] at hN
      rw [hs] at r2
      obtain⟨n1,n2,n3⟩:=next top
      refine⟨_,⟨k0+k2,fun k hk=>?_⟩,x,top,_,_,rfl,n1,n2,n3,hN,by omega,by omega,by omega,x1⟩
      have r0:=r0 k (by omega)
      have r2:=r2 k (by omega)
      simp only at r0 r2
      simp only [Z3]
      simp only [stp,i0,i1,ra,r0,r2,w1,w2,c1,x0,x1,st])
  (by
   rintro s ⟨last,top,nm,σ1,rfl,k1,rn,ln,hN,t0,t1,l0,l1⟩
   have la:=S.la
   rw [Qak (by omega),name] at hN
   injection hN with e1 e2
   subst e1 e2
   exact⟨_,Ev.of fun k=>by simp only [Z3]; simp only [stp,Q3],σ1,rfl,k1,rn⟩)
  (s:=([.int .i64 0,.int .i64 t.length,.slice (hdS (σ0.objs.length+1) t.length),.int .i64 (-1),.int .i64 (-1),.slice (hdS σ.objs.length t.length),.slice hl,.ptr (some (σ0.objs.length+2,0))],σ.push (intsL (Qf t.length 0)) 1))
  ⟨-1,-1,_,_,rfl,Kp.push _ _ (Qn _),Store.Row.new,by simp,by rw [Qa6]; exact hF,by omega,by omega,by omega,by omega⟩
 obtain⟨r,e,σ',rfl,h1,h2⟩:=key
 exact⟨σ',e,h1,h2⟩
theorem Zxp{hl hm:Hdl}{lf nm:List Int}{top:Int}{q:Ptr}(hL:σ.Ints hl lf)(hM:σ.Ints hm nm)(hp:σ.prot<=σ.objs.length)(hn:lf.length<2^41)(hr:∀ x∈lf,0<=x/\x<nm.length) :
  ∃ h' σ',EvI (fun k s=>QD Qc (gm Qc k) Qi k Tryz.f117 [1,1,1,1,1,1,1,1,1,1,1,1,0,1,0] [131,130,129,15,11,10,8,6] s)
   ([.int .i64 0,.int .i64 lf.length,.slice hl,.slice QO,.int .i64 top,.slice hm,.slice hl,.ptr q],σ) (Qm 6,[(15,.slice h'),(11,.int .i64 top),(8,.slice hl),(6,.ptr q)],σ')/\Kp σ.objs.length σ σ'/\GrowI σ' σ.objs.length h' (lf.map (rd nm)):=by
 have key:=EvI.up (f:=fun k s=>QD Qc (gm Qc k) Qi k Tryz.f117 [1,1,1,1,1,1,1,1,1,1,1,1,0,1,0] [131,130,129,15,11,10,8,6] s) lf.length
  (fun i s=>∃ h' σ1,s=([.int .i64 i,.int .i64 lf.length,.slice hl,.slice h',.int .i64 top,.slice hm,.slice hl,.ptr q],σ1)/\Kp σ.objs.length σ σ1/\GrowI σ1 σ.objs.length h' ((lf.take i).map (rd nm)))
  (fun r=>∃ h' σ',r=(Qm 6,[(15,.slice h'),(11,.int .i64 top),(8,.slice hl),(6,.ptr q)],σ')/\Kp σ.objs.length σ σ'/\GrowI σ' σ.objs.length h' (lf.map (rd nm)))
  (by
   rintro i s hi ⟨h',σ1,rfl,k1,g⟩
   have i0:(0:Int)<=i:=by omega
   have i1:(i:Int)<lf.length:=by omega
   have w1:Qa .i64 ((i:Int)+1)=(i+1:Nat):=Za (by omega) (by omega)
   have ll:=hL.ilen
   have lm:=hM.ilen
   have r1:=Store.Ints.rd (Store.Sl.kp hL k1) i0 i1
   obtain⟨x0,x1⟩:=hr _ (Ze i0 i1)
   have r2:=Store.Ints.rd (Store.Sl.kp hM k1) x0 x1
   obtain⟨h2,σ2,e2,k2,g2⟩:=g.app (by have:=k1.prot; omega) k1.len (rd nm (rd lf i)) (by simp; omega)
   refine⟨_,Ev.of fun k=>?_,h2,σ2,rfl,k1.trans k2,by rw [Zj (by omega),Qa3]; exact g2⟩
   simp only [Zb8]
   simp only [stp,i0,i1,ll,lm,r1,r2,x0,x1,w1,Zbf,e2])
  (by
   rintro s ⟨h',σ1,rfl,k1,g⟩
   rw [Q0] at g
   exact⟨_,Ev.of fun k=>by simp only [Zb8]; simp only [stp,Q3],h',σ1,rfl,k1,g⟩)
  (s:=([.int .i64 0,.int .i64 lf.length,.slice hl,.slice QO,.int .i64 top,.slice hm,.slice hl,.ptr q],σ)) ⟨_,_,rfl,Kp.refl _ _,Grow.nil _ _ _⟩
 obtain⟨r,e,h',σ',rfl,h1,h2⟩:=key
 exact⟨h',σ',e,h1,h2⟩
theorem Zyr{hl hm:Hdl}{lf nm:List Int}{q:Ptr}(hL:σ.Ints hl lf)(hM:σ.Ints hm nm)(hp:σ.prot<=σ.objs.length)(hn:lf.length<2^41)(hr:∀ x∈lf,0<=x/\x<nm.length) :
  ∃ h' σ',EvI (fun k s=>QD Qc (gm Qc k) Qi k Tryz.f117 [1,1,1,1,1,1,1,1,1,1,1,1,1,1,0,1,0] [148,147,146,18,8,6] s)
   ([.int .i64 0,.int .i64 lf.length,.slice hl,.slice QO,.slice hm,.ptr q],σ) (Qm 8,[(18,.slice h'),(6,.ptr q)],σ')/\Kp σ.objs.length σ σ'/\GrowI σ' σ.objs.length h' (lf.map (rd nm)):=by
 have key:=EvI.up (f:=fun k s=>QD Qc (gm Qc k) Qi k Tryz.f117 [1,1,1,1,1,1,1,1,1,1,1,1,1,1,0,1,0] [148,147,146,18,8,6] s) lf.length
  (fun i s=>∃ h' σ1,s=([.int .i64 i,.int .i64 lf.length,.slice hl,.slice h',.slice hm,.ptr q],σ1)/\Kp σ.objs.length σ σ1/\GrowI σ1 σ.objs.length h' ((lf.take i).map (rd nm)))
  (fun r=>∃ h' σ',r=(Qm 8,[(18,.slice h'),(6,.ptr q)],σ')/\Kp σ.objs.length σ σ'/\GrowI σ' σ.objs.length h' (lf.map (rd nm)))
  (by
   rintro i s hi ⟨h',σ1,rfl,k1,g⟩
   have i0:(0:Int)<=i:=by omega
   have i1:(i:Int)<lf.length:=by omega
   have w1:Qa .i64 ((i:Int)+1)=(i+1:Nat):=Za (by omega) (by omega)
   have ll:=hL.ilen
   have lm:=hM.ilen
   have r1:=Store.Ints.rd (Store.Sl.kp hL k1) i0 i1
   obtain⟨x0,x1⟩:=hr _ (Ze i0 i1)
   have r2:=Store.Ints.rd (Store.Sl.kp hM k1) x0 x1
   obtain⟨h2,σ2,e2,k2,g2⟩:=g.app (by have:=k1.prot; omega) k1.len (rd nm (rd lf i)) (by simp; omega)
   refine⟨_,Ev.of fun k=>?_,h2,σ2,rfl,k1.trans k2,by rw [Zj (by omega),Qa3]; exact g2⟩
   simp only [Zbs]
   simp only [stp,i0,i1,ll,lm,r1,r2,x0,x1,w1,Zbf,e2])
  (by
   rintro s ⟨h',σ1,rfl,k1,g⟩
   rw [Q0] at g
   exact⟨_,Ev.of fun k=>by simp only [Zbs]; simp only [stp,Q3],h',σ1,rfl,k1,g⟩)
  (s:=([.int .i64 0,.int .i64 lf.length,.slice hl,.slice QO,.slice hm,.ptr q],σ)) ⟨_,_,rfl,Kp.refl _ _,Grow.nil _ _ _⟩
 obtain⟨r,e,h',σ',rfl,h1,h2⟩:=key
 exact⟨h',σ',e,h1,h2⟩
end
end Go.Ab

namespace Go.Ab
open Go Go.Proofs Go.Ab.Wd Go.Ab.Bs Go.Ab.Sai
theorem Z7(t:List Int):(saOf t).length=t.length:=(Zi t).perm.len
theorem Z0o{t:List Int}{x:Int}(h:x∈saOf t):0<=x/\x<t.length:=(Zi t).perm.rng x h
theorem Grow.row{σ:Store}{n:Nat}{h:Hdl}{es:Nat}{l:List AV}(g:Grow σ n h es l):∀ b,h.row=some b->n<=b/\b<σ.objs.length:=fun b e=>by
 cases ha:h.a with
 | none=>simp [Hdl.row,ha] at e
 | some bo=>obtain⟨c,o⟩:=bo; simp [Hdl.row,ha] at e; subst e; exact g.rowLt c o ha
theorem Z0x(n:Nat):∀ (t:List Int) (kk:Nat) (h:Hdl) (σ:Store),t.length<=n->t.length<=4194304->kk<=4194304->(∀ x∈t,0<=x/\x<kk)->σ.Ints h t->σ.prot<=σ.objs.length->(∀ b,h.row=some b->b<σ.objs.length) ->
  ∃ σ',Runs Qc 117 [.slice h,.int .i64 kk] σ (.slice (hdS (σ.objs.length+1) t.length)) σ'/\Kp σ.objs.length σ σ'/\σ.objs.length+3<=σ'.objs.length/\σ'.Ints (hdS (σ.objs.length+1) t.length) (saOf t)/\σ'.Wr (hdS (σ.objs.length+1) t.length):=by
 induction n using Nat.strongRecOn with
 | ind n IH=>
 intro t kk h σ hn hmax hk hrng hT hpr hh
 have lh:=hT.ilen
 obtain⟨σ1,hσ1⟩:∃ x,x=((σ.push (boolsL (Qf t.length false)) 1).push (intsL (Qf t.length 0)) 1).push [.slice h,.int .i64 kk,.slice (hdS σ.objs.length t.length),.slice (hdS (σ.objs.length+1) t.length)] 4:=⟨_,rfl⟩
 have len1:σ1.objs.length=σ.objs.length+3:=by rw [hσ1]; simp
 have k1:Kp σ.objs.length σ σ1:=by
  rw [hσ1]; exact ((Kp.push _ _ (Qn _)).push' (by simp)).push' (by simp; omega)
 have r0:σ1.Row σ.objs.length 1 (boolsL (Qf t.length false)):=by rw [hσ1]; exact Store.Row.new.push.push
 have r1:σ1.Row (σ.objs.length+1) 1 (intsL (Qf t.length 0)):=by
  rw [hσ1]; have:=(Store.Row.new (σ:=σ.push (boolsL (Qf t.length false)) 1) (es:=1) (l:=intsL (Qf t.length 0))).push (l':=[.slice h,.int .i64 kk,.slice (hdS σ.objs.length t.length),.slice (hdS (σ.objs.length+1) t.length)]) (es':=4)
  simpa using this
 have r2:σ1.Row (σ.objs.length+2) 4 [.slice h,.int .i64 kk,.slice (hdS σ.objs.length t.length),.slice (hdS (σ.objs.length+1) t.length)]:=by
  rw [hσ1]; have:=(Store.Row.new (σ:=(σ.push (boolsL (Qf t.length false)) 1).push (intsL (Qf t.length 0)) 1) (es:=4) (l:=[.slice h,.int .i64 kk,.slice (hdS σ.objs.length t.length),.slice (hdS (σ.objs.length+1) t.length)]))
  simpa using this
 have S1:SS σ σ1 h kk t (Qf t.length false) (Qf t.length 0):=⟨k1,hT,r0,r2,r1.sl (by simp),⟨_,0,_,rfl,r1,by rw [k1.prot]; omega⟩,by simp,by simp,hpr,hh⟩
 have start:∀ (Γ:Gam) (k:Nat),Qx Qc Γ Qi k Tryz.f117 [.slice h,.int .i64 kk] σ=if (t.length:Int)=0 then (σ1.ldSl (some (σ.objs.length+2,3))).bind fun x=>some (.slice x,σ1) else
   QF (Qap Qc Γ Qi k Tryz.f117 [1,1,1,1,0,1,0] [7,6,5,0] ([.int .i64 (Qa .i64 ((t.length:Int)-2)),.ptr (some (σ.objs.length+2,0)),.int .i64 t.length,.slice h],σ1)) (QM Qc Γ Qi k Tryz.f117 [1,1,1,1,0,1,0]):=by
  intro Γ k
  rw [Z1u]
  simp only [lh,QB,Zqt,Zbv,push_len,<-hσ1,Qe,Qa2,decide_eq_true_eq,show σ.objs.length+1+1=σ.objs.length+2 from rfl,Nat.zero_add]
  rw [if_pos (by omega),if_pos (by omega)]
 by_cases h0:t.length=0
 ·have ht0:t=[]:=List.eq_nil_of_length_eq_zero h0
  subst ht0
  refine⟨σ1,rI Tryz.f117 (Ev.of fun k=>?_),k1,by omega,S1.a,S1.wa⟩
  rw [start,if_pos (by simp)]
  have:σ1.ldSl (some (σ.objs.length+2,3))=some (hdS (σ.objs.length+1) ([]:List Int).length):=S1.sorter.a_
  rw [this]; rfl
 ·have hpos:0<t.length:=by omega
  obtain⟨sa1,nm,top,p1,p2,p3,p4,p5,p6,p7,p8⟩:=Zv0 hpos hrng
  have q61:t.length<2^61:=by omega
  have q62:t.length<2^62:=by omega
  have q41:t.length<2^41:=by omega
  have qk:kk*8<=281474976710656:=by omega
  obtain⟨σ2,g2,S2,len2⟩:=Zvz q61 (t.length-1) σ1 (by omega) (by rw [Z0s hpos]; exact S1)
  obtain⟨hl,σ3,g3,S3,G3,k3⟩:=Zxn q41 S2
  have len3:=k3.len
  have a3:=fun b hb=>(G3.row b hb)
  obtain⟨σ4,⟨n4,g4⟩,So4,w4,pr4,len4,off4⟩:=Zkk (ba:=σ.objs.length+1) (lf:=lefU (shF t) t.length) S3.sorter S3.wa rfl (by have:=S3.prot; have:=S3.len; omega)
   ⟨by simp [Ptr.row],fun e=>by have:=hh (σ.objs.length+1) e; omega,by simp [Hdl.row],fun e=>by have:=a3 (σ.objs.length+1) e; omega⟩
   (by
    intro b hb
    rcases hb with hb | hb | hb | hb | hb
    ·simp [Ptr.row] at hb; omega
    ·have:=hh _ hb; omega
    ·simp [Hdl.row] at hb; omega
    ·exact (a3 b hb).2
    ·omega) q62 qk hrng S3.la G3.ints (by have:=Zi2 (shF t) t.length; omega) p1
  have S4:SS σ σ4 h kk t (shF t) sa1:=⟨⟨pr4.trans S3.kp.prot,by omega,fun c hc=>(off4 c (by omega) (by omega)).trans (S3.kp.keep c hc)⟩,hT,(off4 _ (by omega) (by omega)).trans S3.rs,(off4 _ (by omega) (by omega)).trans S3.rg,So4.a,w4,S3.ls,by have:=p2.len; omega,hpr,hh⟩
  have G4:GrowI σ4 σ2.objs.length hl (lefU (shF t) t.length):=G3.keep fun b o e=>off4 b (G3.rowLt b o e).2 (by have:=(G3.rowLt b o e).1; omega)
  obtain⟨σ5,g5,k5,r5⟩:=Zxu (hl:=hl) q41 S4 (fun x hx=>p2.rng x hx) p3
  have len5:=k5.len
  have S5:=S4.keep (by omega) k5
  have G5:=G4.kp k5
  have M5:σ5.Ints (hdS σ4.objs.length t.length) nm:=r5.sl (by simp [p4])
  have lfr:∀ x∈lefU (shF t) t.length,0<=x/\x<nm.length:=fun x hx=>by have:=(Zd7.1 hx).1; omega
  have lfl:=Z3d (short:=shF t) hpos
  have ll5:=G5.ints.ilen
  obtain⟨h6,σ6,g6,k6,G6⟩:=Zxp (top:=top) (q:=some (σ.objs.length+2,0)) G5.ints M5 (by have:=S5.prot; omega) (by omega) lfr
  have S6:=S5.keep (by omega) k6
  have len6:=k6.len
  have w6:Qa .i64 (top+1)=((top+1).toNat:Nat):=by rw [Za (by omega) (by omega)]; omega
  obtain⟨σ7,⟨n7,g7⟩,k7,len7,I7,_⟩:=IH ((lefU (shF t) t.length).map (rd nm)).length (by simp; omega) ((lefU (shF t) t.length).map (rd nm)) (top+1).toNat h6 σ6 (Qn _) (by simp; omega) (by omega)
   (fun x hx=>by have:=p7 x hx; omega) G6.ints (by have:=S6.prot; omega) (fun b hb=>(G6.row b hb).2)
  have S7:=S6.keep (by omega) k7
  have G7:=(G5.kp k6).kp k7
  have ll7:=G7.ints.ilen
  obtain⟨h8,σ8,g8,k8,G8⟩:=Zyr (q:=some (σ.objs.length+2,0)) I7 G7.ints (by have:=S7.prot; omega) (by rw [Z7]; simp; omega) (fun x hx=>by have:=Z0o hx; simpa using this)
  have S8:=S7.keep (by omega) k8
  have len8:=k8.len
  have a8:=fun b hb=>(G8.row b hb)
  obtain⟨σ9,⟨n9,g9⟩,So9,w9,pr9,len9,off9⟩:=Zkk (ba:=σ.objs.length+1) S8.sorter S8.wa rfl (by have:=S8.prot; have:=S8.len; omega)
   ⟨by simp [Ptr.row],fun e=>by have:=hh (σ.objs.length+1) e; omega,by simp [Hdl.row],fun e=>by have:=a8 (σ.objs.length+1) e; omega⟩
   (by
    intro b hb
    rcases hb with hb | hb | hb | hb | hb
    ·simp [Ptr.row] at hb; omega
    ·have:=hh _ hb; omega
    ·simp [Hdl.row] at hb; omega
    ·exact (a8 b hb).2
    ·omega) q62 qk hrng S8.la G8.ints (by rw [QC,Z7]; simp; omega) p8
  refine⟨σ9,rI Tryz.f117 ?_,⟨pr9.trans S8.kp.prot,by omega,fun c hc=>(off9 c (by omega) (by omega)).trans (S8.kp.keep c hc)⟩,by omega,So9.a,w9⟩
  obtain⟨n2,g2⟩:=Zc g2
  obtain⟨n3,g3⟩:=Zc g3
  obtain⟨n5,g5⟩:=Zc g5
  obtain⟨n6,g6⟩:=Zc g6
  obtain⟨n8,g8⟩:=Zc g8
  refine⟨n2+n3+n4+n5+n6+n7+n8+n9,fun k hk=>?_⟩
  have g2:=g2 k (by omega)
  have g3:=g3 k (by omega)
  have g4:=g4 k (by omega)
  have g5:=g5 k (by omega)
  have g6:=g6 k (by omega)
  have g7:=g7 k (by omega)
  have g8:=g8 k (by omega)
  have g9:=g9 k (by omega)
  simp only at g2 g3 g4 g5 g6 g7 g8 g9
  have ew:Qa .i64 ((t.length:Int)-2)=((t.length-1:Nat):Int)-1:=by rw [Za (by omega) (by omega)]; omega
  have ea4:(σ4.push (intsL (Qf t.length 0)) 1).ldSl (Qe (some (σ.objs.length+2,0)) 3)=some (hdS (σ.objs.length+1) t.length):=(S4.keep (Qn _) (Kp.push _ _ (by have:=S4.len; omega))).sorter.a_
  have ea9:σ9.ldSl (Qe (some (σ.objs.length+2,0)) 3)=some (hdS (σ.objs.length+1) t.length):=So9.a_
  have b1:(0:Int)<=t.length:=by omega
  have b2:(t.length:Int)*((8:Nat):Int)<=281474976710656:=by omega
  simp only [start,ew]
  rw [if_neg (by omega),g2]
  simp only [Qd]
  rw [Zj4,lh,g3]
  simp only [Qd]
  rw [Zii,g4]
  simp only [stp,QB,Zbv,b1,b2,QL,ea4,g5]
  rw [Zfd,ll5,g6]
  simp only [Qd]
  rw [Zen,w6,g7]
  simp only [stp]
  have e7:(((hdS (σ6.objs.length+1) ((lefU (shF t) t.length).map (rd nm)).length).len:Nat):Int)=((saOf ((lefU (shF t) t.length).map (rd nm))).length:Nat):=by rw [Z7]
  rw [e7,g8]
  simp only [Qd]
  rw [Zdl,g9]
  simp only [stp,ea9]
end Go.Ab

namespace Go.Ab
open Go Go.Proofs Go.Ab.Wd Go.Ab.Bs Go.Ab.Sai
theorem Zq{i n:Nat}(hi:i<n)(hn:n<2^62):Qa .i64 ((i:Int)+1)=(i+1:Nat):=Za (by omega) (by omega)
theorem Z0p{σ:Store}{h h':Hdl}{a b:List Int}(ha:σ.Ints h a)(hb:σ.Ints h' b)(hn:a.length<2^62):Runs Qc 22 [.slice h,.slice h'] σ (.bool (decide (a=b))) σ:=by
 refine rI Tryz.f22 ?_
 have la:=ha.ilen
 have lb:=hb.ilen
 by_cases c:a.length=b.length
 ·obtain⟨r,e,q⟩:=EvI.upX (f:=fun k s=>QD Qc (gm Qc k) Qi k Tryz.f22 [1,1,0,1,0] [13,12,1,0] s) a.length
   (fun i s=>s=([.int .i64 i,.int .i64 a.length,.slice h',.slice h],σ)/\a.take i=b.take i)
   (fun r=>(r=(QH,[(4,.bool false)],σ)/\a≠b)\/(r=(Qm 0,[],σ)/\a=b))
   (by
    rintro i s hi ⟨rfl,hp⟩
    have i0:(0:Int)<=i:=by omega
    have i1:(i:Int)<a.length:=by omega
    have i2:(i:Int)<b.length:=by omega
    have w:=Zq hi hn
    by_cases e:rd a i=rd b i
    ·exact .inl ⟨_,Ev.of fun k=>by simp only [Zfz]; simp only [stp,la,lb,i0,i1,i2,ha.rd i0 i1,hb.rd i0 i2,e,w],rfl,by rw [Zj hi,Zj (by omega),hp,e]⟩
    ·exact .inr ⟨_,Ev.of fun k=>by simp only [Zfz]; simp only [stp,la,lb,i0,i1,i2,ha.rd i0 i1,hb.rd i0 i2,e,w],.inl ⟨rfl,fun h=>e (by rw [h])⟩⟩)
   (by
    rintro s ⟨rfl,hp⟩
    refine⟨_,Ev.of fun k=>by simp only [Zfz]; simp only [stp,Q3],.inr ⟨rfl,?_⟩⟩
    rw [Q5 (Qn _),Q5 (by omega)] at hp; exact hp)
   (Qaf _) (s:=([.int .i64 0,.int .i64 a.length,.slice h',.slice h],σ)) ⟨rfl,by simp⟩
  rcases q with ⟨rfl,q⟩ | ⟨rfl,q⟩
  ·rw [decide_eq_false q]
   refine (Ev.bind (Zc e) (Ev.of fun k=>Zpz (gm Qc k) k σ _)).congr fun k=>?_
   rw [Zp1]; simp only [stp,la,lb,c]
  ·rw [decide_eq_true q]
   refine (Ev.bind (Zc e) (Ev.of fun k=>Zp0 (gm Qc k) k σ)).congr fun k=>?_
   rw [Zp1]; simp only [stp,la,lb,c]
 ·have:¬ a=b:=fun h=>c (by rw [h])
  rw [decide_eq_false this]
  refine Ev.of fun k=>?_
  have c':¬ (a.length:Int)=b.length:=by omega
  rw [Zp1]; simp only [stp,la,lb,c']
theorem Zou{σ:Store}{h:Hdl}{l:List Int}{g:FuncId}{a c:List AV}{p:Int->Bool}(hl:σ.Ints h l)(hn:l.length<2^62)(hp:∀ x∈l,Runs Qc g (a++[.int .i64 x]++c) σ (.bool (p x)) σ) :
  ∃ i:Int,Runs Qc 171 [.slice h,.func g a c] σ (.int .i64 i) σ/\decide (0<=i)=l.any p:=by
 have ll:=hl.ilen
 obtain⟨r,e,q⟩:=EvI.upX (f:=fun k s=>QD Qc (gm Qc k) Qi k Tryz.f171 [1,0,1,0] [8,7,1,0] s) l.length
  (fun i s=>s=([.int .i64 i,.int .i64 l.length,.func g a c,.slice h],σ)/\∀ x∈l.take i,p x=false)
  (fun r=>(∃ i:Nat,r=(QH,[(4,.int .i64 i)],σ)/\l.any p=true)\/(r=(Qm 0,[],σ)/\l.any p=false))
  (by
   rintro i s hi ⟨rfl,hq⟩
   have i0:(0:Int)<=i:=by omega
   have i1:(i:Int)<l.length:=by omega
   have w:=Zq hi hn
   obtain⟨k0,r0⟩:=hp _ (Ze i0 i1)
   cases e:p (rd l i) with
   | false=>
    rw [e] at r0
    refine .inl ⟨_,⟨k0,fun k hk=>?_⟩,rfl,fun x hx=>?_⟩
    ·have r0:=r0 k hk
     simp only at r0
     simp only [Zfx]; simp only [stp,ll,i0,i1,hl.rd i0 i1,r0,w]
    ·rw [Zj hi] at hx
     rcases Qr.1 hx with hx | hx
     ·exact hq x hx
     ·rw [Qq] at hx; rw [hx]; exact e
   | true=>
    rw [e] at r0
    refine .inr ⟨_,⟨k0,fun k hk=>?_⟩,.inl ⟨i,rfl,Qaz.2 ⟨_,Ze i0 i1,e⟩⟩⟩
    have r0:=r0 k hk
    simp only at r0
    simp only [Zfx]; simp only [stp,ll,i0,i1,hl.rd i0 i1,r0,w])
  (by
   rintro s ⟨rfl,hq⟩
   refine⟨_,Ev.of fun k=>by simp only [Zfx]; simp only [stp,Q3],.inr ⟨rfl,?_⟩⟩
   rw [Q0] at hq
   rw [QS]; intro h
   obtain⟨x,hx,hp⟩:=Qaz.1 h
   rw [hq x hx] at hp; cases hp)
  (Qaf _) (s:=([.int .i64 0,.int .i64 l.length,.func g a c,.slice h],σ)) ⟨rfl,by simp⟩
 rcases q with ⟨i,rfl,q⟩ | ⟨rfl,q⟩
 ·refine⟨i,rI Tryz.f171 ((Ev.bind (Zc e) (Ev.of fun k=>Zpv (gm Qc k) k σ _)).congr fun k=>by rw [Zs8,ll]),?_⟩
  rw [q]; simp
 ·refine⟨-1,rI Tryz.f171 ((Ev.bind (Zc e) (Ev.of fun k=>Zpw (gm Qc k) k σ)).congr fun k=>by rw [Zs8,ll]),?_⟩
  rw [q]; rfl
theorem Za0{σ:Store}{h:Hdl}{l:List Int}{g:FuncId}{a c:List AV}{p:Int->Bool}(hl:σ.Ints h l)(hn:l.length<2^62)(hp:∀ x∈l,Runs Qc g (a++[.int .i64 x]++c) σ (.bool (p x)) σ) :
  Runs Qc 115 [.slice h,.func g a c] σ (.bool (l.any p)) σ:=by
 obtain⟨i,⟨k0,r⟩,e⟩:=Zou hl hn hp
 refine rI Tryz.f115 ⟨k0,fun k hk=>?_⟩
 have r:=r k hk
 simp only at r
 simp only [Z1s]
 simp only [stp,r,e]
end Go.Ab

namespace Go.Ab
open Go Go.Proofs Go.Ab.Wd Go.Ab.Bs Go.Ab.Sai
def okT(t:List Int)(al:Int):Bool:=decide (0<=al)&&decide (al<=4194304)&&decide (t.length<=4194304)&&!(t.any fun c=>decide (c<0) || decide (al<=c))
theorem Zmg{t:List Int}{al:Int}:okT t al=true ↔ 0<=al/\al<=4194304/\t.length<=4194304/\∀ x∈t,0<=x/\x<al:=by
 simp only [okT,Qa0,decide_eq_true_eq,Bool.not_eq_true',List.any_eq_false,Bool.or_eq_true,and_assoc]
 refine and_congr_right fun _=>and_congr_right fun _=>and_congr_right fun _=>?_
 exact⟨fun h x hx=>by have:=h x hx; omega,fun h x hx=>by have:=h x hx; omega⟩
theorem Zo3{σ:Store}{b:Nat}{al:Int}(h:σ.ldInt .i64 (some (b,0))=some al)(x:Int):Runs Qc 116 [.int .i64 x,.ptr (some (b,0))] σ (.bool (decide (x<0) || decide (al<=x))) σ:=by
 refine rI Tryz.f116 (Ev.of fun k=>?_)
 rw [Z1t]
 by_cases c:x<0
 ·simp [c]
 ·simp [c,h]
theorem Zgq{σ:Store}{h:Hdl}{t:List Int}{al:Int}(hT:σ.Ints h t)(hH:σ.Has h)(hp:σ.prot<=σ.objs.length)(hn:t.length<2^62) :
  ∃ ho σ',Runs Qc 63 [.slice h,.int .i64 al] σ (.tuple [.slice ho,.int .i64 (if okT t al=true then 0 else 2)]) σ'/\Kp σ.objs.length σ σ'/\σ'.Ints ho (if okT t al=true then saOf t else [])/\σ'.Has ho/\∀ b,ho.row=some b->σ.objs.length<=b:=by
 have ll:=hT.ilen
 obtain⟨σ1,h1⟩:∃ x,x=σ.push [.int .i64 al] 1:=⟨_,rfl⟩
 have k1:Kp σ.objs.length σ σ1:=by rw [h1]; exact Kp.push _ _ (Qn _)
 have e1:σ1.ldInt .i64 (some (σ.objs.length,0))=some al:=by rw [h1]; simp only [Qa9,Zda]; simp
 have hT1:σ1.Ints h t:=Store.Sl.kp hT k1
 have bad:okT t al=false->(∃ k0,∀ k,k0<=k->Qx Qc (gm Qc k) Qi k Tryz.f63 [.slice h,.int .i64 al] σ=some (.tuple [.slice QO,.int .i64 2],σ1)) ->
   ∃ ho σ',Runs Qc 63 [.slice h,.int .i64 al] σ (.tuple [.slice ho,.int .i64 (if okT t al=true then 0 else 2)]) σ'/\Kp σ.objs.length σ σ'/\σ'.Ints ho (if okT t al=true then saOf t else [])/\σ'.Has ho/\∀ b,ho.row=some b->σ.objs.length<=b:=by
  intro hb hr
  rw [if_neg (by rw [hb]; simp),if_neg (by rw [hb]; simp)]
  exact⟨Hdl.nil,σ1,rI Tryz.f63 hr,k1,Zd6 _,Store.Has.nil _,fun b hb=>by simp [Hdl.row,QO] at hb⟩
 by_cases c1:al<0
 ·exact bad (by simp [okT]; omega) ⟨0,fun k _=>by rw [Zg6,<-h1]; simp only [stp,e1,c1]⟩
 by_cases c2:4194304<al
 ·exact bad (by simp [okT]; omega) ⟨0,fun k _=>by rw [Zg6,<-h1]; simp only [stp,e1,c1,c2]⟩
 by_cases c3:4194304<t.length
 ·have c3':(4194304:Int)<t.length:=by omega
  exact bad (by simp [okT]; omega) ⟨0,fun k _=>by rw [Zg6,<-h1]; simp only [stp,e1,c1,c2,ll,c3']⟩
 have c3':¬ (4194304:Int)<t.length:=by omega
 obtain⟨k2,r2⟩:=Za0 (g:=116) (a:=[]) (c:=[.ptr (some (σ.objs.length,0))]) hT1 hn (fun x _=>Zo3 e1 x)
 by_cases c4:(t.any fun c=>decide (c<0) || decide (al<=c))=true
 ·rw [c4] at r2
  refine bad (by simp only [okT,c4]; simp) ⟨k2,fun k hk=>?_⟩
  have r2:=r2 k hk
  simp only at r2
  rw [Zg6,<-h1]; simp only [stp,e1,c1,c2,ll,c3',r2]
 ·have c4':(t.any fun c=>decide (c<0) || decide (al<=c))=false:=by simpa using c4
  have hok:okT t al=true:=by simp only [okT,c4']; simp; omega
  obtain⟨g1,g2,g3,g4⟩:=Zmg.1 hok
  rw [if_pos hok,if_pos hok]
  obtain⟨σ2,⟨k3,r3⟩,k,l3,i3,w3⟩:=Z0x t.length t al.toNat h σ1 (Qn _) g3 (by omega) (fun x hx=>by have:=g4 x hx; omega) hT1 (by rw [k1.prot]; have:=k1.len; omega) (fun b hb=>Qab (hH b hb) k1.len)
  rw [show ((al.toNat:Nat):Int)=al by omega] at r3
  refine⟨_,σ2,rI Tryz.f63 ⟨k2+k3,fun k hk=>?_⟩,k1.all k,i3,fun b hb=>by simp [Hdl.row] at hb; omega,fun b hb=>by simp [Hdl.row] at hb; have:=k1.len; omega⟩
  have r2:=r2 k (by omega)
  have r3:=r3 k (by omega)
  simp only [c4'] at r2 r3
  simp only [Zg6,<-h1]; simp only [stp,e1,c1,c2,ll,c3',r2,r3]
theorem Zkl(l:List Int)(n:Nat):(intsL l).take n=intsL (l.take n):=by simp [intsL,List.map_take]
end Go.Ab

namespace Go.Ab
open Go Go.Proofs Go.Ab.Wd Go.Ab.Bs Go.Ab.Sai
section
variable {σ0:Store} {ht:Hdl} {t:List Int}
end
end Go.Ab

namespace Go.Ab
open Go Go.Proofs Go.Ab.Wd Go.Ab.Bs Go.Ab.Sai
def permB(l:List Int):Bool:=(l.all fun x=>decide (0<=x)&&decide (x<l.length))&&decide l.Nodup
theorem Zew{l:List Int}:permB l=true ↔ IsPerm l.length l:=by
 simp only [permB,Qa0,List.all_eq_true,decide_eq_true_eq]
 exact⟨fun ⟨h1,h2⟩=>⟨rfl,h1,h2⟩,fun h=>⟨h.rng,h.nd⟩⟩
structure Marks (f:Int->Int) (d:Int) (l:List Int) (i:Nat) (o:List Int):Prop where
 len:o.length=l.length
 rng:∀ p∈l.take i,0<=p/\p<l.length
 nd:(l.take i).Nodup
 val:∀ p:Int,0<=p->p<l.length->rd o p=if p∈l.take i then f p else d
theorem Marks.start(f:Int->Int)(d:Int)(l:List Int):Marks f d l 0 (Qf l.length d):=
 ⟨by simp,by simp,by simp,fun p p0 p1=>by
  obtain⟨p,rfl⟩:=Qh p0
  rw [Zb (by simp; omega)]; simp⟩
theorem Marks.step{f:Int->Int}{d:Int}{l:List Int}{i:Nat}{o:List Int}(m:Marks f d l i o)(hi:i<l.length)(h0:0<=rd l i)(h1:rd l i<l.length)(hn:rd l i ∉ l.take i):Marks f d l (i+1) (o.set (rd l i).toNat (f (rd l i))):=by
 refine⟨by simp [m.len],fun p hp=>?_,?_,fun p p0 p1=>?_⟩
 ·rw [Zj hi] at hp
  rcases Qr.1 hp with hp | hp
  ·exact m.rng p hp
  ·rw [Qq] at hp; rw [hp]; exact⟨h0,h1⟩
 ·rw [Zj hi]
  exact QA.2 ⟨m.nd,by simp,fun a ha b hb e=>by rw [Qq] at hb; subst hb; exact hn (e ▸ ha)⟩
 ·rw [Zs h0 (by rw [m.len]; exact h1) p0,Zj hi,m.val p p0 p1]
  by_cases e:rd l i=p
  ·rw [if_pos e,if_pos (by simp [e]),e]
  ·rw [if_neg e]
   by_cases c:p∈l.take i
   ·rw [if_pos c,if_pos (by simp [c])]
   ·rw [if_neg c,if_neg (by simp [c]; exact fun h=>e h.symm)]
def idx0(l:List Int)(p:Int):Int:=(l.idxOf p:Nat)
theorem Ztf{l:List Int}{i:Nat}(hi:i<l.length)(hn:rd l i ∉ l.take i):idx0 l (rd l i)=i:=by
 unfold idx0
 have e:l=l.take i++rd l i::l.drop (i+1):=by rw [<-Zh8 hi,QG]
 have:∀ x,(l.take i++rd l i::l.drop (i+1)).idxOf (rd l i)=x->l.idxOf (rd l i)=x:=fun x h=>by rwa [<-e] at h
 rw [this i (by rw [List.idxOf_append,if_neg hn]; simp; omega)]
theorem Marks.end_{l o:List Int}{d:Int}(m:Marks (idx0 l) d l l.length o):IsPerm l.length l/\o=inv l:=by
 have hp:IsPerm l.length l:=⟨rfl,fun p hp=>m.rng p (by rwa [Q0]),by have:=m.nd; rwa [Q0] at this⟩
 refine⟨hp,Bs.ext_rd (by rw [m.len,Za3]) fun p p0 p1=>?_⟩
 rw [m.len] at p1
 rw [m.val p p0 p1,Q0,if_pos (hp.mem p0 p1),Zrf p0 p1]; rfl
theorem Zjt{l:List Int}{i:Nat}(hi:i<l.length)(h:¬ (0<=rd l i/\rd l i<l.length)\/rd l i∈l.take i):permB l=false:=by
 rw [QS]
 intro hb
 have hp:=Zew.1 hb
 rcases h with h | h
 ·exact h (hp.rng _ (Ze (by omega) (by omega)))
 ·have hnd:=hp.nd
  rw [show l=l.take i++rd l i::l.drop (i+1) by rw [<-Zh8 hi,QG]] at hnd
  exact (QA.1 hnd).2.2 _ h _ (QZ ..) rfl
theorem Zjw{σ:Store}{h:Hdl}{l:List Int}(hT:σ.Ints h l)(hp:σ.prot<=σ.objs.length)(hn:l.length<=2^44) :
  ∃ ho σ',Runs Qc 118 [.slice h] σ (.tuple [.slice ho,.int .i64 (if permB l=true then 0 else 2)]) σ'/\Kp σ.objs.length σ σ'/\σ'.Ints ho (if permB l=true then inv l else [])/\σ'.Has ho:=by
 have ll:=hT.ilen
 obtain⟨N,hN⟩:∃ N,N=σ.objs.length:=⟨_,rfl⟩
 obtain⟨σ1,h1⟩:∃ x,x=σ.push (intsL (Qf l.length 0)) 1:=⟨_,rfl⟩
 have k1:Kp σ.objs.length σ σ1:=by rw [h1]; exact Kp.push _ _ (Qn _)
 have r1:σ1.Row N 1 (intsL (Qf l.length 0)):=by rw [h1,hN]; exact Store.Row.new
 obtain⟨ra,ea,σ2,rfl,k2,r2⟩:=EvI.up (f:=fun k s=>QD Qc (gm Qc k) Qi k Tryz.f118 [1,1,0,1,0] [13,12,4,0] s) l.length
  (fun i s=>∃ o s1,s=([.int .i64 i,.int .i64 l.length,.slice (hdS N l.length),.slice h],s1)/\Kp σ.objs.length σ s1/\s1.Row N 1 (intsL o)/\o.length=l.length/\∀ p:Int,0<=p->p<i->rd o p=-1)
  (fun r=>∃ s1,r=(Qm 0,[(4,.slice (hdS N l.length)),(0,.slice h)],s1)/\Kp σ.objs.length σ s1/\s1.Row N 1 (intsL (Qf l.length (-1))))
  (by
   rintro i s hi ⟨o,s1,rfl,kk,rr,lo,ho⟩
   have i0:(0:Int)<=i:=by omega
   have i1:(i:Int)<l.length:=by omega
   have w:=Zq hi (by omega)
   have st:=Zcz (x:=-1) (len:=l.length) (cp:=some l.length) rr (by rw [kk.prot]; omega) i0 (by omega)
   refine⟨_,Ev.of fun k=>by simp only [Zim]; simp only [stp,i0,i1,st,w],o.set (i:Int).toNat (-1),_,rfl,kk.setO (by omega),Store.Row.setO_eq rr.lt,by simpa using lo,fun p p0 p1=>?_⟩
   rw [Zs i0 (by omega) p0]
   split
   ·rfl
   ·exact ho p p0 (by omega))
  (by
   rintro s ⟨o,s1,rfl,kk,rr,lo,ho⟩
   have:o=Qf l.length (-1):=Bs.ext_rd (by simp [lo]) fun p p0 p1=>by
    rw [ho p p0 (by omega)]
    obtain⟨p,rfl⟩:=Qh p0
    rw [Zb (by simp; omega)]; simp
   subst this
   exact⟨_,Ev.of fun k=>by simp only [Zim]; simp only [stp,Q3],s1,rfl,kk,rr⟩)
  (s:=([.int .i64 0,.int .i64 l.length,.slice (hdS N l.length),.slice h],σ1)) ⟨_,σ1,rfl,k1,r1,by simp,fun p p0 p1=>by omega⟩
 have hT2:σ2.Ints h l:=Store.Sl.kp hT k2
 obtain⟨rb,eb,q⟩:=EvI.upX (f:=fun k s=>QD Qc (gm Qc k) Qi k Tryz.f118 [1,1,1,0,1,0] [22,21,20,4,0] s) l.length
  (fun i s=>∃ o s1,s=([.int .i64 i,.int .i64 l.length,.slice h,.slice (hdS N l.length),.slice h],s1)/\Kp σ.objs.length σ s1/\s1.Row N 1 (intsL o)/\Marks (idx0 l) (-1) l i o)
  (fun r=>∃ s1,Kp σ.objs.length σ s1/\((r=(QH,[(3,.int .i64 2),(2,.slice QO)],s1)/\permB l=false)\/(r=(Qm 2,[(4,.slice (hdS N l.length))],s1)/\permB l=true/\s1.Row N 1 (intsL (inv l)))))
  (by
   rintro i s hi ⟨o,s1,rfl,kk,rr,m⟩
   have i0:(0:Int)<=i:=by omega
   have i1:(i:Int)<l.length:=by omega
   have w:=Zq hi (by omega)
   have hr:=(Store.Ints.rd (Store.Sl.kp hT kk) i0 i1:s1.ldInt .i64 (h.idx i 1)=_)
   by_cases c1:rd l i<0
   ·exact .inr ⟨(QH,[(3,.int .i64 2),(2,.slice QO)],s1),Ev.of fun k=>by simp only [Zbj]; simp only [stp,ll,i0,i1,hr,c1],s1,kk,.inl ⟨rfl,Zjt hi (.inl (by omega))⟩⟩
   by_cases c2:(l.length:Int)<=rd l i
   ·exact .inr ⟨(QH,[(3,.int .i64 2),(2,.slice QO)],s1),Ev.of fun k=>by simp only [Zbj]; simp only [stp,ll,i0,i1,hr,c1,c2],s1,kk,.inl ⟨rfl,Zjt hi (.inl (by omega))⟩⟩
   have c3:0<=rd l i:=by omega
   have c4:rd l i<l.length:=by omega
   have ro:=rr.ld_ints (len:=l.length) (cp:=some l.length) c3 (by rw [m.len]; exact c4)
   have mo:=m.val _ c3 c4
   by_cases c5:rd l i∈l.take i
   ·rw [if_pos c5] at mo
    have c6:0<=rd o (rd l i):=by rw [mo]; unfold idx0; omega
    exact .inr ⟨(QH,[(3,.int .i64 2),(2,.slice QO)],s1),Ev.of fun k=>by simp only [Zbj]; simp only [stp,ll,i0,i1,hr,c1,c2,c3,c4,ro,c6],s1,kk,.inl ⟨rfl,Zjt hi (.inr c5)⟩⟩
   ·rw [if_neg c5] at mo
    have c6:¬ 0<=rd o (rd l i):=by omega
    have st:=Zcz (x:=i) (len:=l.length) (cp:=some l.length) rr (by rw [kk.prot]; omega) c3 (by rw [m.len]; exact c4)
    have ms:=m.step hi c3 c4 c5
    rw [Ztf hi c5] at ms
    exact .inl ⟨_,Ev.of fun k=>by simp only [Zbj]; simp only [stp,ll,i0,i1,hr,c1,c2,c3,c4,ro,c6,st,w],o.set (rd l i).toNat i,_,rfl,kk.setO (by omega),Store.Row.setO_eq rr.lt,ms⟩)
  (by
   rintro s ⟨o,s1,rfl,kk,rr,m⟩
   obtain⟨hp,rfl⟩:=m.end_
   exact⟨_,Ev.of fun k=>by simp only [Zbj]; simp only [stp,Q3],s1,kk,.inr ⟨rfl,Zew.2 hp,rr⟩⟩)
  (Qaf _) (s:=([.int .i64 0,.int .i64 l.length,.slice h,.slice (hdS N l.length),.slice h],σ2)) ⟨_,σ2,rfl,k2,r2,Marks.start _ _ _⟩
 have b1:(0:Int)<=l.length:=by omega
 have b2:(l.length:Int)*((8:Nat):Int)<=281474976710656:=by omega
 have start:∀ k,Qx Qc (gm Qc k) Qi k Tryz.f118 [.slice h] σ=(Qap Qc (gm Qc k) Qi k Tryz.f118 [1,1,0,1,0] [13,12,4,0] ([.int .i64 0,.int .i64 l.length,.slice (hdS N l.length),.slice h],σ1)).bind (QM Qc (gm Qc k) Qi k Tryz.f118 [1,1,0,1,0]):=by
  intro k
  rw [Z1v]
  simp only [stp,ll,QB,Zbv,<-h1,<-hN,b1,b2,QL]
 have mid:∀ k,QM Qc (gm Qc k) Qi k Tryz.f118 [1,1,0,1,0] (Qm 0,[(4,.slice (hdS N l.length)),(0,.slice h)],σ2)=(Qap Qc (gm Qc k) Qi k Tryz.f118 [1,1,1,0,1,0] [22,21,20,4,0] ([.int .i64 0,.int .i64 l.length,.slice h,.slice (hdS N l.length),.slice h],σ2)).bind (QM Qc (gm Qc k) Qi k Tryz.f118 [1,1,1,0,1,0]):=by
  intro k
  rw [Zoh,ll]
 obtain⟨s1,kk,⟨rfl,hb⟩ | ⟨rfl,hb,rr⟩⟩:=q
 ·rw [if_neg (by rw [hb]; simp),if_neg (by rw [hb]; simp)]
  refine⟨Hdl.nil,s1,rI Tryz.f118 ?_,kk,Zd6 _,Store.Has.nil _⟩
  refine (Ev.bind (Zc ea) ?_).congr start
  exact (Ev.bind (Zc eb) (Ev.of fun k=>Zln (gm Qc k) k s1 _ _)).congr mid
 ·rw [if_pos hb,if_pos hb]
  refine⟨hdS N l.length,s1,rI Tryz.f118 ?_,kk,rr.sl (by simp [Za3]),fun b e=>by simp [Hdl.row] at e; have:=rr.lt; omega⟩
  refine (Ev.bind (Zc ea) ?_).congr start
  exact (Ev.bind (Zc eb) (Ev.of fun k=>Zlo (gm Qc k) k s1 _)).congr mid
end Go.Ab

namespace Go.Ab
open Go Go.Proofs Go.Ab.Wd Go.Ab.Bs Go.Ab.Sai
end Go.Ab

namespace Go.Ab.Bs
open Go.Ab.Wd
end Go.Ab.Bs

namespace Go.Ab.Bs
open Go.Ab.Wd
def cnt(p:Int->Bool)(l:List Int):Nat:=(l.filter p).length
theorem Zdk(p:Int->Bool)(a b:List Int):cnt p (a++b)=cnt p a+cnt p b:=by simp [cnt]
theorem cnt_cons(p:Int->Bool)(x:Int)(l:List Int):cnt p (x::l)=(if p x=true then 1 else 0)+cnt p l:=by
 unfold cnt
 by_cases c:p x=true
 ·rw [if_pos c,Qu c,Qz]; omega
 ·rw [if_neg c,Qv c]; omega
theorem Z1g(p:Int->Bool):cnt p []=0:=rfl
theorem cnt_le(p:Int->Bool)(l:List Int):cnt p l<=l.length:=QY _ _
theorem cnt_perm{a b:List Int}(h:a.Perm b)(p:Int->Bool):cnt p a=cnt p b:=(h.filter p).length_eq
theorem Z1f(p:Int->Bool)(f:Int->Int)(l:List Int):cnt p (l.map f)=cnt (fun x=>p (f x)) l:=by
 unfold cnt; rw [Qam,QC]; rfl
theorem Zwn{p q:Int->Bool}{l:List Int}(h:∀ x∈l,p x=q x):cnt p l=cnt q l:=by unfold cnt; rw [List.filter_congr h]
theorem Zo9{p q:Int->Bool}(l:List Int)(h:∀ x∈l,¬ (p x=true/\q x=true)):cnt (fun x=>p x || q x) l=cnt p l+cnt q l:=by
 induction l with
 | nil=>rfl
 | cons x l ih=>
  have ih:=ih fun y hy=>h y (by simp [hy])
  have hx:=h x (by simp)
  rw [cnt_cons,cnt_cons,cnt_cons,ih]
  cases h1:p x <;> cases h2:q x <;> simp_all <;> omega
theorem Zah(p:Int->Bool){l:List Int}{i:Nat}(hi:i<l.length):cnt p (l.take (i+1))=cnt p (l.take i)+if p (rd l i)=true then 1 else 0:=by
 have:l.take (i+1)=l.take i++[rd l i]:=by rw [QX,Zb hi]; simp [hi]
 rw [this,Zdk,cnt_cons,Z1g]; omega
theorem Ze2(p:Int->Bool)(l:List Int)(i:Nat):cnt p (l.take i)<=cnt p l:=by
 conv=>rhs; rw [<-QG i l,Zdk]
 omega
def prev(n:Nat)(p:Int):Int:=if p=0 then n-1 else p-1
def bwtOf(t sa:List Int):List Int:=sa.map fun p=>rd t (prev t.length p)
theorem Zaa(t sa:List Int):(bwtOf t sa).length=sa.length:=by simp [bwtOf]
theorem Zyf{f:Int->Int}{l:List Int}{i:Int}(h0:0<=i)(h1:i<l.length):rd (l.map f) i=f (rd l i):=by
 obtain⟨i,rfl⟩:=Qh h0
 rw [Zb (by simp; omega),Zb (by omega)]; simp
theorem Zec{t sa:List Int}{i:Int}(h0:0<=i)(h1:i<sa.length):rd (bwtOf t sa) i=rd t (prev t.length (rd sa i)):=Zyf h0 h1
theorem Zeb{n:Nat}{p:Int}(h0:0<=p)(h1:p<n):0<=prev n p/\prev n p<n:=by unfold prev; split <;> omega
theorem Z0k{n:Nat}{p q:Int}(h0:0<=p)(h1:p<n)(g0:0<=q)(g1:q<n)(h:prev n p=prev n q):p=q:=by unfold prev at h; split at h <;> split at h <;> omega
theorem Znv{n:Nat}{sa:List Int}(h:IsPerm n sa):IsPerm n (sa.map (prev n)):=by
 refine⟨by simp [h.len],fun p hp=>?_,?_⟩
 ·obtain⟨q,hq,rfl⟩:=Qai.1 hp
  have:=h.rng q hq
  exact Zeb this.1 this.2
 ·unfold Qat
  rw [QR]
  refine h.nd.imp_of_mem fun {a b} ha hb hne e=>hne ?_
  have ra:=h.rng a ha
  have rb:=h.rng b hb
  exact Z0k ra.1 ra.2 rb.1 rb.2 e
theorem Zx7(t:List Int):(places t.length).map (rd t)=t:=by
 refine ext_rd (by simp [places]) fun i i0 i1=>?_
 simp only [QC,Zv] at i1
 rw [Zyf i0 (by rw [Zv]; exact i1)]
 obtain⟨i,rfl⟩:=Qh i0
 rw [Zb (l:=places t.length) (by rw [Zv]; omega)]
 simp [places]
theorem Zj0{t sa:List Int}(h:IsPerm t.length sa):(bwtOf t sa).Perm t:=by
 have h1:bwtOf t sa=(sa.map (prev t.length)).map (rd t):=by simp [bwtOf,Function.comp_def]
 rw [h1]
 have:=(Znv h).perm.map (rd t)
 rwa [Zx7] at this
def lf(b:List Int)(i:Int):Int:=(cnt (fun x=>decide (x<rd b i)) b+cnt (fun x=>decide (x=rd b i)) (b.take i.toNat):Nat)
theorem Zqr{b:List Int}{i:Int}(h0:0<=i)(h1:i<b.length):0<=lf b i/\lf b i<b.length:=by
 obtain⟨i,rfl⟩:=Qh h0
 refine⟨by unfold lf; omega,?_⟩
 have e1:=Zo9 (p:=fun x=>decide (x<rd b i)) (q:=fun x=>decide (x=rd b i)) b (fun x _=>by simp; omega)
 have e2:=cnt_le (fun x=>decide (x<rd b i) || decide (x=rd b i)) b
 have e3:=Zah (fun x=>decide (x=rd b i)) (l:=b) (i:=i) (by omega)
 rw [if_pos (by simp)] at e3
 have e4:=Ze2 (fun x=>decide (x=rd b i)) b (i+1)
 unfold lf
 rw [show ((i:Int)).toNat=i by omega]
 omega
theorem Z3r{t sa:List Int}(h:IsSA t sa){j:Int}(j0:0<=j)(j1:j<t.length):(cnt (fun x=>decide (sl t x (rd sa j))) sa:Int)=j:=by
 obtain⟨j,rfl⟩:=Qh j0
 have hl:=h.perm.len
 have e:sa=sa.take j++sa.drop j:=(QG j sa).symm
 have h1:cnt (fun x=>decide (sl t x (rd sa j))) (sa.take j)=j:=by
  unfold cnt
  rw [Qaq.2 fun x hx=>?_]
  ·simp; omega
  ·obtain⟨i,i0,i1,rfl⟩:=Zbl hx
   simp only [Qay] at i1
   have:rd (sa.take j) i=rd sa i:=by
    obtain⟨i,rfl⟩:=Qh i0
    rw [Zb (by simp; omega),Zb (by omega)]; simp
   rw [this]
   exact decide_eq_true (h.lt i0 (by omega) (by omega))
 have h2:cnt (fun x=>decide (sl t x (rd sa j))) (sa.drop j)=0:=by
  unfold cnt
  rw [Qah.2 fun x hx=>?_]
  ·rfl
  ·obtain⟨i,i0,i1,rfl⟩:=Zbl hx
   simp only [List.length_drop] at i1
   have:rd (sa.drop j) i=rd sa (j+i):=by
    obtain⟨i,rfl⟩:=Qh i0
    rw [show (j:Int)+(i:Int)=((j+i:Nat):Int) by omega,Zb (by simp; omega),Zb (by omega)]; simp
   rw [this]
   simp only [decide_eq_true_eq]
   intro hs
   by_cases c:i=0
   ·rw [c,Int.add_zero] at hs; exact Zaz _ _ hs
   ·exact Zaz _ _ (Zej (h.lt j0 (show (j:Int)<j+i by omega) (by omega)) hs)
 conv=>lhs; rw [show cnt (fun x=>decide (sl t x (rd sa j))) sa=cnt (fun x=>decide (sl t x (rd sa j))) (sa.take j++sa.drop j) by rw [QG]]
 rw [Zdk,h1,h2]; simp
def Ends(t:List Int):Prop:=0<t.length/\∀ i:Int,0<=i->i+1<t.length->rd t i≠rd t (t.length-1)
theorem Z3y{t sa:List Int}(h:IsSA t sa)(he:Ends t){i j:Int}(i0:0<=i)(i1:i<t.length)(j0:0<=j)(j1:j<t.length) :
  sl t (prev t.length (rd sa j)) (prev t.length (rd sa i)) ↔ rd (bwtOf t sa) j<rd (bwtOf t sa) i\/(rd (bwtOf t sa) j=rd (bwtOf t sa) i/\j<i):=by
 have hl:=h.perm.len
 rw [Zec j0 (by omega),Zec i0 (by omega)]
 have ri:=h.perm.rng _ (Ze i0 (show i<sa.length by omega))
 have rj:=h.perm.rng _ (Ze j0 (show j<sa.length by omega))
 have pi:=Zeb ri.1 ri.2
 have pj:=Zeb rj.1 rj.2
 have hji:rd sa j=rd sa i ↔ j=i:=⟨fun e=>Zcu h.perm.nd j0 (by omega) i0 (by omega) e,fun e=>by rw [e]⟩
 have hlt:sl t (rd sa j) (rd sa i) ↔ j<i:=by
  constructor
  ·intro hs
   rcases Qw j i with c | c | c
   ·exact c
   ·rw [c] at hs; exact absurd hs (Zaz _ _)
   ·exact absurd (Zej hs (h.lt i0 c j1)) (Zaz _ _)
  ·intro c; exact h.lt j0 c i1
 have hend:∀ p:Int,0<=p->p<t.length->p≠t.length-1->rd t p≠rd t (t.length-1):=fun p p0 p1 pn=>he.2 p p0 (by omega)
 rw [Zcc pj.1 pj.2 pi.1 pi.2]
 by_cases ci:rd sa i=0
 ·have ei:prev t.length (rd sa i)=t.length-1:=by unfold prev; rw [if_pos ci]
  by_cases cj:rd sa j=0
  ·have e:j=i:=hji.1 (by omega)
   subst e
   constructor
   ·rintro (h1 | ⟨h1,h2⟩)
    ·omega
    ·exact absurd h2 (Zaz _ _)
   ·rintro (h1 | ⟨h1,h2⟩) <;> omega
  ·have hj:prev t.length (rd sa j)≠t.length-1:=by unfold prev; rw [if_neg cj]; omega
   have:=hend _ pj.1 pj.2 hj
   rw [ei]
   constructor
   ·rintro (h1 | ⟨h1,h2⟩)
    ·exact .inl h1
    ·exact absurd h1 this
   ·rintro (h1 | ⟨h1,h2⟩)
    ·exact .inl h1
    ·exact absurd h1 this
 ·have ei:prev t.length (rd sa i)+1=rd sa i:=by unfold prev; rw [if_neg ci]; omega
  by_cases cj:rd sa j=0
  ·have ej:prev t.length (rd sa j)=t.length-1:=by unfold prev; rw [if_pos cj]
   have hi:prev t.length (rd sa i)≠t.length-1:=by omega
   have:=hend _ pi.1 pi.2 hi
   rw [ej]
   constructor
   ·rintro (h1 | ⟨h1,h2⟩)
    ·exact .inl h1
    ·exact absurd h1.symm this
   ·rintro (h1 | ⟨h1,h2⟩)
    ·exact .inl h1
    ·exact absurd h1.symm this
  ·have ej:prev t.length (rd sa j)+1=rd sa j:=by unfold prev; rw [if_neg cj]; omega
   rw [ei,ej,hlt]
theorem Zmc{t sa:List Int}(h:IsSA t sa)(he:Ends t){i:Int}(i0:0<=i)(i1:i<t.length):rd sa (lf (bwtOf t sa) i)=prev t.length (rd sa i):=by
 have hl:=h.perm.len
 have ri:=h.perm.rng _ (Ze i0 (show i<sa.length by omega))
 have pi:=Zeb ri.1 ri.2
 obtain⟨j,j0,j1,hj⟩:∃ j:Int,0<=j/\j<t.length/\rd sa j=prev t.length (rd sa i):=by
  obtain⟨j,j0,j1,e⟩:=Zbl (h.perm.mem pi.1 pi.2)
  exact⟨j,j0,by omega,e⟩
 rw [<-hj]
 congr 1
 rw [<-Z3r h j0 j1,hj]
 have e1:cnt (fun x=>decide (sl t x (prev t.length (rd sa i)))) sa=cnt (fun x=>decide (sl t (prev t.length x) (prev t.length (rd sa i)))) sa:=by
  rw [<-Z1f (fun x=>decide (sl t x (prev t.length (rd sa i)))) (prev t.length) sa]
  exact cnt_perm (h.perm.perm.trans (Znv h.perm).perm.symm) _
 rw [e1]
 unfold lf
 have key:∀ m:Nat,m<=t.length->cnt (fun x=>decide (sl t (prev t.length x) (prev t.length (rd sa i)))) (sa.take m) =
   cnt (fun x=>decide (x<rd (bwtOf t sa) i)) ((bwtOf t sa).take m)+cnt (fun x=>decide (x=rd (bwtOf t sa) i)) ((bwtOf t sa).take (min m i.toNat)):=by
  intro m
  induction m with
  | zero=>intro _; simp [cnt]
  | succ m ih=>
   intro hm
   have ih:=ih (by omega)
   have hlb:=Zaa t sa
   rw [Zah _ (by omega),Zah _ (by omega),ih]
   have sp:=Z3y h he i0 i1 (show (0:Int)<=m by omega) (show (m:Int)<t.length by omega)
   by_cases c:m<i.toNat
   ·rw [show min (m+1) i.toNat=m+1 by omega,show min m i.toNat=m by omega,Zah _ (by omega)]
    by_cases c1:rd (bwtOf t sa) m<rd (bwtOf t sa) i
    ·rw [if_pos (decide_eq_true (sp.2 (.inl c1))),if_pos (decide_eq_true c1),if_neg (by simp; omega)]; omega
    ·by_cases c2:rd (bwtOf t sa) m=rd (bwtOf t sa) i
     ·rw [if_pos (decide_eq_true (sp.2 (.inr ⟨c2,by omega⟩))),if_neg (by simpa using c1),if_pos (decide_eq_true c2)]; omega
     ·rw [if_neg (by simp only [decide_eq_true_eq]; intro hs; rcases sp.1 hs with g | ⟨g,_⟩ <;> omega),if_neg (by simpa using c1),if_neg (by simpa using c2)]; omega
   ·rw [show min (m+1) i.toNat=i.toNat by omega,show min m i.toNat=i.toNat by omega]
    by_cases c1:rd (bwtOf t sa) m<rd (bwtOf t sa) i
    ·rw [if_pos (decide_eq_true (sp.2 (.inl c1))),if_pos (decide_eq_true c1)]; omega
    ·rw [if_neg (by simp only [decide_eq_true_eq]; intro hs; rcases sp.1 hs with g | ⟨_,g⟩ <;> omega),if_neg (by simpa using c1)]; omega
 have:=key t.length (Qn _)
 rw [<-hl,Q0,hl] at this
 rw [this,show (bwtOf t sa).take t.length=bwtOf t sa by rw [Q5 (by rw [Zaa]; omega)],show min t.length i.toNat=i.toNat by omega]
def walk(b:List Int):Nat->Int->List Int
 | 0,_=>[]
 | m+1,i=>rd b i::walk b m (lf b i)
end Go.Ab.Bs

namespace Go.Ab
open Go Go.Proofs Go.Ab.Wd Go.Ab.Bs Go.Ab.Sai
theorem Zm5{σ:Store}{h h':Hdl}{a b:List Int}(ha:σ.Ints h a)(hb:σ.Ints h' b)(hn:a.length<2^62):Runs Qc 121 [.slice h,.slice h'] σ (.bool (decide (a=b))) σ:=by
 refine rI Tryz.f121 ?_
 have la:=ha.ilen
 have lb:=hb.ilen
 by_cases c:a.length=b.length
 ·obtain⟨r,e,q⟩:=EvI.upX (f:=fun k s=>QD Qc (gm Qc k) Qi k Tryz.f121 [1,1,0,1,0] [13,12,1,0] s) a.length
   (fun i s=>s=([.int .i64 i,.int .i64 a.length,.slice h',.slice h],σ)/\a.take i=b.take i)
   (fun r=>(r=(QH,[(4,.bool false)],σ)/\a≠b)\/(r=(Qm 0,[],σ)/\a=b))
   (by
    rintro i s hi ⟨rfl,hp⟩
    have i0:(0:Int)<=i:=by omega
    have i1:(i:Int)<a.length:=by omega
    have i2:(i:Int)<b.length:=by omega
    have w:=Zq hi hn
    by_cases e:rd a i=rd b i
    ·exact .inl ⟨_,Ev.of fun k=>by simp only [Ze3]; simp only [stp,la,lb,i0,i1,i2,ha.rd i0 i1,hb.rd i0 i2,e,w],rfl,by rw [Zj hi,Zj (by omega),hp,e]⟩
    ·exact .inr ⟨_,Ev.of fun k=>by simp only [Ze3]; simp only [stp,la,lb,i0,i1,i2,ha.rd i0 i1,hb.rd i0 i2,e,w],.inl ⟨rfl,fun h=>e (by rw [h])⟩⟩)
   (by
    rintro s ⟨rfl,hp⟩
    refine⟨_,Ev.of fun k=>by simp only [Ze3]; simp only [stp,Q3],.inr ⟨rfl,?_⟩⟩
    rw [Q5 (Qn _),Q5 (by omega)] at hp; exact hp)
   (Qaf _) (s:=([.int .i64 0,.int .i64 a.length,.slice h',.slice h],σ)) ⟨rfl,by simp⟩
  rcases q with ⟨rfl,q⟩ | ⟨rfl,q⟩
  ·rw [decide_eq_false q]
   refine (Ev.bind (Zc e) (Ev.of fun k=>Zoj (gm Qc k) k σ _)).congr fun k=>?_
   rw [Zlp]; simp only [stp,la,lb,c]
  ·rw [decide_eq_true q]
   refine (Ev.bind (Zc e) (Ev.of fun k=>Zok (gm Qc k) k σ)).congr fun k=>?_
   rw [Zlp]; simp only [stp,la,lb,c]
 ·have:¬ a=b:=fun h=>c (by rw [h])
  rw [decide_eq_false this]
  refine Ev.of fun k=>?_
  have c':¬ (a.length:Int)=b.length:=by omega
  rw [Zlp]; simp only [stp,la,lb,c']
theorem Zhf{σ:Store}{h:Hdl}{l:List Int}(hl:σ.Ints h l)(hn:l.length<2^62)(x:Int):∃ i:Int,Runs Qc 122 [.slice h,.int .i64 x] σ (.int .i64 i) σ/\(x∈l->i=(l.idxOf x:Nat))/\(x ∉ l->i=-1):=by
 have ll:=hl.ilen
 obtain⟨r,e,q⟩:=EvI.upX (f:=fun k s=>QD Qc (gm Qc k) Qi k Tryz.f122 [1,0,1,0] [8,7,1,0] s) l.length
  (fun i s=>s=([.int .i64 i,.int .i64 l.length,.int .i64 x,.slice h],σ)/\x ∉ l.take i)
  (fun r=>(r=(QH,[(4,.int .i64 (l.idxOf x:Nat))],σ)/\x∈l)\/(r=(Qm 0,[],σ)/\x ∉ l))
  (by
   rintro i s hi ⟨rfl,hq⟩
   have i0:(0:Int)<=i:=by omega
   have i1:(i:Int)<l.length:=by omega
   have w:=Zq hi hn
   by_cases e:x=rd l i
   ·have hx:l.idxOf x=i:=by
     rw [e] at hq ⊢
     have:=Ztf hi hq
     unfold idx0 at this; omega
    exact .inr ⟨(QH,[(4,.int .i64 (l.idxOf x:Nat))],σ),Ev.of fun k=>by simp only [Zfv]; simp only [stp,ll,i0,i1,hl.rd i0 i1,e.symm,hx],.inl ⟨rfl,e ▸ Ze i0 i1⟩⟩
   ·refine .inl ⟨_,Ev.of fun k=>by simp only [Zfv]; simp only [stp,ll,i0,i1,hl.rd i0 i1,e,w],rfl,fun hx=>?_⟩
    rw [Zj hi] at hx
    rcases Qr.1 hx with hx | hx
    ·exact hq hx
    ·rw [Qq] at hx; exact e hx)
  (by
   rintro s ⟨rfl,hq⟩
   rw [Q0] at hq
   exact⟨_,Ev.of fun k=>by simp only [Zfv]; simp only [stp,Q3],.inr ⟨rfl,hq⟩⟩)
  (Qaf _) (s:=([.int .i64 0,.int .i64 l.length,.int .i64 x,.slice h],σ)) ⟨rfl,by simp⟩
 rcases q with ⟨rfl,q⟩ | ⟨rfl,q⟩
 ·exact⟨_,rI Tryz.f122 ((Ev.bind (Zc e) (Ev.of fun k=>Zpq (gm Qc k) k σ _)).congr fun k=>by rw [Zs0,ll]),fun _=>rfl,fun h=>absurd q h⟩
 ·exact⟨-1,rI Tryz.f122 ((Ev.bind (Zc e) (Ev.of fun k=>Zpr (gm Qc k) k σ)).congr fun k=>by rw [Zs0,ll]),fun h=>absurd h q,fun _=>rfl⟩
theorem Zgx{σ:Store}{h:Hdl}{l:List Int}(hl:σ.Ints h l)(hn:l.length<2^62)(x:Int):Runs Qc 146 [.slice h,.int .i64 x] σ (.bool (decide (x∈l))) σ:=by
 obtain⟨i,⟨k0,r⟩,h1,h2⟩:=Zhf hl hn x
 refine rI Tryz.f146 ⟨k0,fun k hk=>?_⟩
 have r:=r k hk
 simp only at r
 have e:decide (0<=i)=decide (x∈l):=by
  by_cases c:x∈l
  ·rw [h1 c]; simp [c]
  ·rw [h2 c]; simp [c]
 simp only [Z19]
 simp only [stp,r,e]
theorem Zz8{σ:Store}{h h':Hdl}{t sa:List Int}(hT:σ.Ints h t)(hS:σ.Ints h' sa)(hp:σ.prot<=σ.objs.length)(hn:t.length<=2^44)(hn':sa.length<=2^44) :
  ∃ ho σ',Runs Qc 123 [.slice h,.slice h'] σ (.tuple [.slice ho,.int .i64 (if permB sa=true/\sa.length=t.length then 0 else 2)]) σ'/\Kp σ.objs.length σ σ' /\
   σ'.Ints ho (if permB sa=true/\sa.length=t.length then bwtOf t sa else [])/\σ'.Has ho:=by
 have lt:=hT.ilen
 have ls:=hS.ilen
 obtain⟨h1,σ1,⟨k1,r1⟩,K1,I1,H1⟩:=Zjw hS hp hn'
 have hp1:σ1.prot<=σ1.objs.length:=by rw [K1.prot]; have:=K1.len; omega
 cases hb:permB sa with
 | false=>
  rw [hb] at r1
  rw [if_neg (by simp),if_neg (by simp)]
  refine⟨Hdl.nil,σ1,rI Tryz.f123 ⟨k1,fun k hk=>?_⟩,K1,Zd6 _,Store.Has.nil _⟩
  have r1:=r1 k hk
  simp only [stp] at r1
  have c:¬ (2:Int)=0:=by decide
  simp only [Zlr]; simp only [stp,r1,c]
 | true=>
  rw [hb] at r1
  by_cases c:sa.length=t.length
  ·rw [if_pos ⟨rfl,c⟩,if_pos ⟨rfl,c⟩]
   have hperm:=Zew.1 hb
   obtain⟨σ2,h2⟩:∃ x,x=σ1.push (intsL (Qf t.length 0)) 1:=⟨_,rfl⟩
   have K2:Kp σ.objs.length σ σ2:=by rw [h2]; exact K1.push' K1.len
   have R2:σ2.Row σ1.objs.length 1 (intsL (Qf t.length 0)):=by rw [h2]; exact Store.Row.new
   obtain⟨r,e,σ3,rfl,K3,R3⟩:=EvI.up (f:=fun k s=>QD Qc (gm Qc k) Qi k Tryz.f123 [1,1,1,0,1,0] [30,29,28,8,0] s) sa.length
    (fun i s=>∃ o s1,s=([.int .i64 i,.int .i64 sa.length,.slice h',.slice (hdS σ1.objs.length t.length),.slice h],s1)/\Kp σ.objs.length σ s1/\s1.Row σ1.objs.length 1 (intsL o)/\o.length=t.length/\∀ p:Int,0<=p->p<i->rd o p=rd (bwtOf t sa) p)
    (fun r=>∃ s1,r=(Qm 0,[(8,.slice (hdS σ1.objs.length t.length))],s1)/\Kp σ.objs.length σ s1/\s1.Row σ1.objs.length 1 (intsL (bwtOf t sa)))
    (by
     rintro i s hi ⟨o,s1,rfl,kk,rr,lo,ho⟩
     have i0:(0:Int)<=i:=by omega
     have i1:(i:Int)<sa.length:=by omega
     have i2:(i:Int)<t.length:=by omega
     have w:=Zq hi (by omega)
     have rx:=Store.Ints.rd (Store.Sl.kp hS kk) i0 i1
     obtain⟨x0,x1⟩:=hperm.rng _ (Ze i0 i1)
     have w1:Qa .i64 (rd sa i+t.length)=rd sa i+t.length:=Za (by omega) (by omega)
     have w2:Qa .i64 (rd sa i+t.length-1)=rd sa i+t.length-1:=Za (by omega) (by omega)
     have m:Int.tmod (rd sa i+t.length-1) t.length=prev t.length (rd sa i):=by
      rw [Int.tmod_eq_emod_of_nonneg (by omega)]
      unfold prev
      by_cases c0:rd sa i=0
      ·rw [if_pos c0,c0,Qaw (by omega) (by omega)]; omega
      ·rw [if_neg c0,show rd sa i+(t.length:Int)-1=(rd sa i-1)+t.length by omega,Int.add_emod_right,Qaw (by omega) (by omega)]
     obtain⟨p0,p1⟩:=Zeb (n:=t.length) x0 (by omega)
     have ry:=Store.Ints.rd (Store.Sl.kp hT kk) p0 p1
     have c0:¬ (t.length:Int)=0:=by omega
     have st:=Zcz (x:=rd t (prev t.length (rd sa i))) (len:=t.length) (cp:=some t.length) rr (by rw [kk.prot]; have:=K1.len; omega) i0 (by omega)
     refine⟨_,Ev.of fun k=>by simp only [Zg0]; simp only [stp,lt,ls,i0,i1,i2,rx,w1,w2,m,c0,p0,p1,ry,st,w],o.set (i:Int).toNat (rd t (prev t.length (rd sa i))),_,rfl,kk.setO K1.len,Store.Row.setO_eq rr.lt,by simpa using lo,fun p p0 p1=>?_⟩
     rw [Zs i0 (by omega) p0]
     by_cases e:(i:Int)=p
     ·rw [if_pos e,<-e,Zec i0 i1]
     ·rw [if_neg e]; exact ho p p0 (by omega))
    (by
     rintro s ⟨o,s1,rfl,kk,rr,lo,ho⟩
     have:o=bwtOf t sa:=Bs.ext_rd (by rw [lo,Zaa,c]) fun p p0 p1=>ho p p0 (by omega)
     subst this
     exact⟨(Qm 0,[(8,.slice (hdS σ1.objs.length t.length))],s1),Ev.of fun k=>by simp only [Zg0]; simp only [stp,Q3],s1,rfl,kk,rr⟩)
    (s:=([.int .i64 0,.int .i64 sa.length,.slice h',.slice (hdS σ1.objs.length t.length),.slice h],σ2)) ⟨_,σ2,rfl,K2,R2,by simp,fun p p0 p1=>by omega⟩
   obtain⟨n3,e⟩:=Zc e
   refine⟨hdS σ1.objs.length t.length,σ3,rI Tryz.f123 ⟨k1+n3,fun k hk=>?_⟩,K3,R3.sl (by simp [Zaa,c]),fun b e=>by simp [Hdl.row] at e; have:=R3.lt; omega⟩
   have r1:=r1 k (by omega)
   have e:=e k (by omega)
   simp only [stp] at r1 e
   have c1:((h'.len:Nat):Int)=h.len:=by omega
   have b1:(0:Int)<=t.length:=by omega
   have b2:(t.length:Int)*((8:Nat):Int)<=281474976710656:=by omega
   have c2:(sa.length:Int)=t.length:=by omega
   rw [c2] at e
   simp only [Zlr]; simp only [stp,r1,c1,lt,b1,b2,QL,QB,Zbv,<-h2,e]
   rw [Zlq]
  ·rw [if_neg (by rintro⟨_,h⟩; exact c h),if_neg (by rintro⟨_,h⟩; exact c h)]
   refine⟨Hdl.nil,σ1,rI Tryz.f123 ⟨k1,fun k hk=>?_⟩,K1,Zd6 _,Store.Has.nil _⟩
   have r1:=r1 k hk
   simp only [stp] at r1
   have c1:¬ ((h'.len:Nat):Int)=h.len:=by omega
   simp only [Zlr]; simp only [stp,r1,c1]
end Go.Ab
