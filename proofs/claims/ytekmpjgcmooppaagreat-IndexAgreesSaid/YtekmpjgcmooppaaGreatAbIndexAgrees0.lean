/- Lemmas. -/
import Derived.CallsIn
import Derived.RangeFuncLeaves
import Derived.KernelRfl
import Derived.Below
import Derived.Laws.World
import Derived.Laws.Sem
import Derived.Laws.AppendOwn
import Derived.Laws.MakeOwn
import Derived.Laws.CopyRow
import Derived.Laws.Entries
import Derived.Laws.Shifts
import Derived.Laws.Unary
import Derived.Laws.Small
import Derived.Laws.Slices
import Derived.WideLaws
import Derived.Laws.Cover1
import Derived.Laws.StructEq
import Derived.Laws.IdiomStrings
import Derived.RangeFuncRecord
import Derived.LoopNIn
import Derived.OrdersIn
set_option linter.unusedVariables false
set_option linter.unusedSimpArgs false
open Option renaming bind_eq_some_iff->Qa,bind_assoc->Qb,map_eq_some_iff->Qg,map_some->Qn,map_none->Qz,getD_some->Q8,getD_none->Q9,isSome_iff_exists->QC,bind_some->QL,bind->Qab,some->Qa3
open List renaming getElem?_eq_some_iff->Qc,getElem?_append_left->Qe,getElem?_append_right->Qf,length_append->Qj,getElem?_eq_none->Qk,take_of_length_le->Ql,eq_nil_of_length_eq_zero->Qo,getElem?_set->Qq,length_cons->Qr,replicate->Qu,getElem?_take->Qv,drop_eq_getElem_cons->QA,replicate_succ->QB,length_nil->QD,getElem?_drop->QE,getElem?_cons_succ->QF,append_assoc->QH,getElem?_toArray->QI,length_take->QJ,length_drop->QK,take_append_of_le_length->QM,take_succ_cons->QO,range->QR,getElem?_map->QT,flatten_cons->QU,all_eq_true->QV,zip_cons_cons->Qai,size_toArray->Qak,range'->Qap,foldl_cons->Qaq,nodup_cons->Qas,mapM_cons->Qau,drop_zero->Qav,nodup_nil->Qax,map_cons->Qay,mem_cons->Qaz,length->Qa1
open Go.Result renaming andThen_ok->Qd,andThen->Qat
open Nat renaming le_refl->Qh,beq->Qi,eq_of_beq_eq_true->Qp,add_mul->Qx,lt_of_lt_of_le->Qy,add_assoc->Q0,mul_le_mul_right->Q4,le_trans->Q5,blt->QG,add_zero->QY,sub_zero->Qaa,casesOn->Qad,min_def->Qan,blt_eq->Qaw,sub_self->Qa0
open Array renaming getElem?_eq_some_iff->Qm,getD_eq_getD_getElem?->Qs,length_toList->Qw,getElem?_modify->Q2,getElem?_toList->Q3,toList_map->Q7,getElem?_setIfInBounds->QN,toList_setIfInBounds->QQ,mapM_eq_mapM_toList->QS,ext'->QZ,range->Qac,getElem?_push->Qae,toList_append->Qaf,foldl_toList->Qag,getElem?_map->Qah,map->Qam,replicate->Qar
open Bool renaming and_eq_true->Q6,false_eq_true->QP,not_eq_true->QX,not_eq_true'->Qal
open Go.Value renaming int->QW,func->Qaj,iface->Qao,cells->Qa2
namespace Go.Ab
open Go
abbrev Ptr:=Option (Nat×Nat)
def Ptr.add(p:Ptr)(n:Nat):Ptr:=p.map fun x=>(x.1,x.2+n)
structure Hdl where
 a:Ptr
 len:Nat
 cap:Option Nat
def Hdl.idx(h:Hdl)(i:Int)(es:Nat):Ptr:=Ptr.add h.a (i.toNat*es)
def Hdl.nil:Hdl:=⟨none,0,some 0⟩
def strT:Nat:=9
inductive AV where
 | undef
 | int (k:IntKind) (n:Int)
 | bool (b:Bool)
 | str (s:ByteArray)
 | ptr (p:Ptr)
 | slice (h:Hdl)
 | map (r:Option Nat)
 | func (f:FuncId) (first cs:List AV)
 | nilFunc
 | iface (t:TypeId) (v:AV)
 | nilIface
 | agg (l:List AV)
 | tuple (l:List AV)
 | yld (l:Nat)
 deriving Inhabited
def AV.cells:AV->List AV
 | .agg l=>l
 | v=>[v]
def AV.isU:AV->Bool
 | .undef=>true
 | _=>false
def AV.one:AV->Bool
 | .agg _ | .tuple _ | .undef=>false
 | _=>true
abbrev Fr:=List (Nat×AV)
inductive AX where
 | normal
 | exit (id:Nat)
 | ret
inductive LSt where
 | ready
 | busy
 | fin (e:AX)
inductive AObj where
 | cells (l:List AV) (rw:Bool) (es:Nat)
 | map (l:List (AV×AV))
 | loop (φ:Fr) (ps:List Tmp) (assign body:Code) (nt:Nat) (st:LSt)
 | dead
structure Store where
 objs:List AObj
 prot:Nat
namespace Store
def cell(σ:Store):Ptr->Option AV
 | some (b,o)=>match σ.objs[b]? with
  | some (.cells l _ _)=>l[o]?
  | _=>none
 | none=>none
def push(σ:Store)(l:List AV)(es:Nat):Store:={ σ with objs:=σ.objs++[.cells l true es] }
def st(σ:Store)(p:Ptr)(v:AV):Option Store:=
 match p with
 | some (b,o)=>match σ.objs[b]? with
  | some (.cells l true es)=>if (σ.prot<=b/\o<l.length)/\v.one=true then some { σ with objs:=σ.objs.set b (.cells (l.set o v) true es) } else none
  | _=>none
 | none=>none
def stL(σ:Store)(p:Ptr):List AV->Nat->Option Store
 | [],_=>some σ
 | v::vs,i=>(σ.st (p.add i) v).bind fun σ'=>stL σ' p vs (i+1)
def readSl(σ:Store)(h:Hdl)(es:Nat):Option (List AV):=
 if h.len=0 then some [] else
 match h.a with
 | some (b,o)=>match σ.objs[b]? with
  | some (.cells l _ _)=>if o+h.len*es<=l.length then some ((l.drop o).take (h.len*es)) else none
  | _=>none
 | none=>none
def app(σ:Store)(h:Hdl)(es bytes:Nat)(xs:List AV)(m:Nat):Option (Hdl×Store):=
 if m=0 then some (h,σ) else
 if (h.len+m)*bytes<=140737488355328/\0<bytes/\xs.length=m*es/\xs.all AV.one=true then
  match h.a with
  | none=>some (⟨some (σ.objs.length,0),m,none⟩,σ.push xs es)
  | some (b,o)=>
   match σ.objs[b]? with
   | some (.cells l rw es')=>
    if o+h.len*es<=l.length/\es'=es then
     match h.cap with
     | some c=>
      if h.len+m<=c then
       if rw=true/\σ.prot<=b/\o+(h.len+m)*es<=l.length then
        some (⟨some (b,o),h.len+m,some c⟩,{ σ with objs:=σ.objs.set b (.cells (l.take (o+h.len*es)++xs++l.drop (o+(h.len+m)*es)) true es) })
       else none
      else some (⟨some (σ.objs.length,0),h.len+m,none⟩,σ.push ((l.drop o).take (h.len*es)++xs) es)
     | none=>
      if rw=true/\σ.prot<=b then
       some (⟨some (σ.objs.length,0),h.len+m,none⟩,{ σ with objs:=σ.objs.set b .dead++[.cells ((l.drop o).take (h.len*es)++xs) true es] })
      else none
    else none
   | _=>none
 else none
def ldInt(σ:Store)(k:IntKind)(p:Ptr):Option Int:=match σ.cell p with | some (.int k' n)=>if k'=k then some n else none | _=>none
def ldBool(σ:Store)(p:Ptr):Option Bool:=match σ.cell p with | some (.bool b)=>some b | _=>none
def ldStr(σ:Store)(p:Ptr):Option ByteArray:=match σ.cell p with | some (.str b)=>some b | _=>none
def ldPtr(σ:Store)(p:Ptr):Option Ptr:=match σ.cell p with | some (.ptr b)=>some b | _=>none
def ldSl(σ:Store)(p:Ptr):Option Hdl:=match σ.cell p with | some (.slice b)=>some b | _=>none
def ldMap(σ:Store)(p:Ptr):Option (Option Nat):=match σ.cell p with | some (.map b)=>some b | _=>none
def ldFn(σ:Store)(p:Ptr):Option (FuncId×List AV×List AV):=match σ.cell p with | some (.func f a b)=>some (f,a,b) | _=>none
def ldIfc(σ:Store)(p:Ptr):Option (TypeId×AV):=match σ.cell p with | some (.iface t v)=>some (t,v) | _=>none
end Store
inductive CK where
 | int (k:IntKind) | bool | str | ptr | slice | map | fn | ifc
def catO:List (Option (List CK))->Option (List CK)
 | []=>some []
 | none::_=>none
 | some x::r=>(catO r).map (x++·)
def ckOf(P:Program):Nat->TypeId->Option (List CK)
 | 0,_=>none
 | d+1,t=>match P.underlying t with
  | some (.int k)=>some [.int k]
  | some .bool=>some [.bool]
  | some .string=>some [.str]
  | some (.pointer _)=>some [.ptr]
  | some (.slice _)=>some [.slice]
  | some (.map _ _)=>some [.map]
  | some (.func _ _ _)=>some [.fn]
  | some (.interface _)=>some [.ifc]
  | some (.struct fs)=>catO (fs.toList.map fun f=>ckOf P d f.type)
  | some (.array n e)=>(ckOf P d e).map fun l=>(Qu n l).flatten
  | _=>none
def isAggT(P:Program)(t:TypeId):Bool:=match P.underlying t with | some (.struct _) | some (.array _ _)=>true | _=>false
def szOf(P:Program)(t:TypeId):Option Nat:=(P.info? t).map (·.size)
def byOf(P:Program)(t:TypeId):Option Nat:=(P.info? t).map (·.bytes)
section
variable {R:Type}
def ldK(σ:Store)(c:CK)(p:Ptr)(K:AV->Option R):Option R:=
 match c with
 | .int k=>(σ.ldInt k p).bind fun n=>K (.int k n)
 | .bool=>(σ.ldBool p).bind fun b=>K (.bool b)
 | .str=>(σ.ldStr p).bind fun b=>K (.str b)
 | .ptr=>(σ.ldPtr p).bind fun b=>K (.ptr b)
 | .slice=>(σ.ldSl p).bind fun b=>K (.slice b)
 | .map=>(σ.ldMap p).bind fun b=>K (.map b)
 | .fn=>(σ.ldFn p).bind fun b=>K (.func b.1 b.2.1 b.2.2)
 | .ifc=>(σ.ldIfc p).bind fun b=>K (.iface b.1 b.2)
def ldL(σ:Store)(p:Ptr):List CK->Nat->(List AV->Option R)->Option R
 | [],_,K=>K []
 | c::cs,i,K=>ldK σ c (Ptr.add p i) fun v=>ldL σ p cs (i+1) fun l=>K (v::l)
def ldT(P:Program)(σ:Store)(t:TypeId)(p:Ptr)(K:AV->Option R):Option R:=
 if isAggT P t=true then (ckOf P 20 t).bind fun cs=>if szOf P t=some cs.length/\0<cs.length then ldL σ p cs 0 fun l=>K (.agg l) else none
 else match ckOf P 20 t with
  | some [c]=>ldK σ c p K
  | _=>none
def AV.asInt(k:IntKind):AV->Option Int | .int k' n=>if k'=k then some n else none | _=>none
def AV.asBool:AV->Option Bool | .bool b=>some b | _=>none
def AV.asStr:AV->Option ByteArray | .str b=>some b | _=>none
def AV.asPtr:AV->Option Ptr | .ptr b=>some b | _=>none
def AV.asSl:AV->Option Hdl | .slice b=>some b | _=>none
def AV.asMap:AV->Option (Option Nat) | .map b=>some b | _=>none
def AV.asFn:AV->Option (FuncId×List AV×List AV) | .func f a b=>some (f,a,b) | _=>none
def AV.asIfc:AV->Option (TypeId×AV) | .iface t v=>some (t,v) | _=>none
def castK(c:CK)(v:AV)(K:AV->Option R):Option R:=
 match c with
 | .int k=>(v.asInt k).bind fun n=>K (.int k n)
 | .bool=>v.asBool.bind fun b=>K (.bool b)
 | .str=>v.asStr.bind fun b=>K (.str b)
 | .ptr=>v.asPtr.bind fun b=>K (.ptr b)
 | .slice=>v.asSl.bind fun b=>K (.slice b)
 | .map=>v.asMap.bind fun b=>K (.map b)
 | .fn=>v.asFn.bind fun b=>K (.func b.1 b.2.1 b.2.2)
 | .ifc=>v.asIfc.bind fun b=>K (.iface b.1 b.2)
def AV.item(i n:Nat):AV->Option AV
 | .tuple l=>if l.length=n then l[i]? else none
 | _=>none
def AV.aggAt(i n:Nat):AV->Option AV
 | .agg l=>if l.length=n then l[i]? else none
 | _=>none
def castL(v:AV)(n:Nat):List CK->Nat->(List AV->Option R)->Option R
 | [],_,K=>K []
 | c::cs,i,K=>(v.aggAt i n).bind fun x=>castK c x fun y=>castL v n cs (i+1) fun l=>K (y::l)
def castT(P:Program)(t:TypeId)(v:AV)(K:AV->Option R):Option R:=
 if isAggT P t=true then (ckOf P 20 t).bind fun cs=>if cs.length=0 then none else castL v cs.length cs 0 fun l=>K (.agg l)
 else match ckOf P 20 t with
  | some [c]=>castK c v K
  | _=>none
def castTs(P:Program)(v:AV)(n:Nat):List TypeId->Nat->(List AV->Option R)->Option R
 | [],_,K=>K []
 | t::ts,i,K=>(v.item i n).bind fun x=>castT P t x fun y=>castTs P v n ts (i+1) fun l=>K (y::l)
def castR(P:Program)(t:TypeId)(v:AV)(K:AV->Option R):Option R:=
 match P.underlying t with
 | some (.tuple ts)=>if ts.size=0 then K .undef else castTs P v ts.size ts.toList 0 fun l=>K (.tuple l)
 | _=>castT P t v K
end
namespace Fr
def get:Fr->Nat->Option AV
 | [],_=>none
 | (i,v)::r,t=>bif Qi i t then some v else get r t
def mapO{α β:Type}(f:α->Option β):List α->Option (List β)
 | []=>some []
 | a::r=>match f a with
  | none=>none
  | some b=>match mapO f r with
   | none=>none
   | some l=>some (b::l)
end Fr
def ofC1:Value->Option AV
 | .int k n=>some (.int k n)
 | .bool b=>some (.bool b)
 | .string s=>some (.str s)
 | .pointer none=>some (.ptr none)
 | .slice none 0 0=>some (.slice Hdl.nil)
 | .map none=>some (.map none)
 | .nilFunc=>some .nilFunc
 | .nilIface=>some .nilIface
 | _=>none
def ofC:Value->Option AV
 | .agg cs=>(Fr.mapO ofC1 cs.toList).map .agg
 | v=>ofC1 v
def Fr.ev(φ:Fr):Operand->Option AV
 | .tmp t=>φ.get t
 | .const v=>ofC v
 | .func f=>some (.func f [] [])
 | .global _=>none
def zeroOf(P:Program)(t:TypeId):Option AV:=((P.info? t).bind (·.zero)).bind ofC
def zeroCells(P:Program)(t:TypeId):Option (List AV):=(zeroOf P t).map AV.cells
def mkCells(zs:List AV)(n:Nat):List AV:=
 match zs with
 | [z]=>Qu n z
 | _=>(Qu n zs).flatten
def bitOp(op:BinOp)(k:IntKind)(x y:Int):Int:=
 let a:=BitVec.ofInt k.bits x
 let b:=BitVec.ofInt k.bits y
 match op with
 | .and=>k.wrap (a &&& b).toNat
 | .or=>k.wrap (a ||| b).toNat
 | .xor=>k.wrap (a ^^^ b).toNat
 | _=>k.wrap (a &&& ~~~b).toNat
def shlI(k:IntKind)(x y:Int):Int:=k.wrap (x*2^(min y.toNat k.bits))
def shrI(k:IntKind)(x y:Int):Int:=x.fdiv (2^(min y.toNat k.bits))
def mx2(x y:Int):Int:=if y>x then y else x
def mn2(x y:Int):Int:=if y<x then y else x
section
variable {R:Type}
def intOp(op:BinOp)(k:IntKind)(x y:Int)(K:AV->Option R):Option R:=
 match op with
 | .add=>K (.int k (k.wrap (x+y)))
 | .sub=>K (.int k (k.wrap (x-y)))
 | .mul=>K (.int k (k.wrap (x*y)))
 | .quo=>if y=0 then none else K (.int k (k.wrap (x.tdiv y)))
 | .rem=>if y=0 then none else K (.int k (x.tmod y))
 | .and | .or | .xor | .andNot=>K (.int k (bitOp op k x y))
 | .eql=>K (.bool (decide (x=y)))
 | .neq=>K (.bool (decide (x≠y)))
 | .lss=>K (.bool (decide (x<y)))
 | .leq=>K (.bool (decide (x<=y)))
 | .gtr=>K (.bool (decide (y<x)))
 | .geq=>K (.bool (decide (y<=x)))
 | _=>none
def strEq(a b:ByteArray):Bool:=a.toList == b.toList
def eq1(d:Option TypeDesc):AV->AV->Option Bool
 | .bool x,.bool y=>match d with | some .bool=>some (x == y) | _=>none
 | .ptr p,.ptr none=>match d with | some (.pointer _)=>some p.isNone | _=>none
 | .ptr none,.ptr p=>match d with | some (.pointer _)=>some p.isNone | _=>none
 | .slice h,.slice ⟨none,_,_⟩=>match d with | some (.slice _)=>some h.a.isNone | _=>none
 | .map r,.map none=>match d with | some (.map _ _)=>some r.isNone | _=>none
 | .func _ _ _,.nilFunc=>match d with | some (.func _ _ _)=>some false | _=>none
 | .nilFunc,.nilFunc=>match d with | some (.func _ _ _)=>some true | _=>none
 | .iface _ _,.nilIface=>match d with | some (.interface _)=>some false | _=>none
 | _,_=>none
def binK(d:Option TypeDesc)(op:BinOp)(x y:AV)(K:AV->Option R):Option R:=
 match x,y with
 | .int k a,.int k' b=>
  match op with
  | .shl=>if 0<=b then K (.int k (shlI k a b)) else none
  | .shr=>if 0<=b then K (.int k (shrI k a b)) else none
  | _=>if k=k' then intOp op k a b K else none
 | .str a,.str b=>
  match op with
  | .eql=>K (.bool (strEq a b))
  | .neq=>K (.bool (!strEq a b))
  | _=>none
 | x,y=>
  match op with
  | .eql=>(eq1 d x y).bind fun b=>K (.bool b)
  | .neq=>(eq1 d x y).bind fun b=>K (.bool (!b))
  | _=>none
def strAt(s:ByteArray)(n:Nat):Option Int:=(s[n]?).map fun b=>(b.toNat:Int)
def eqFd(P:Program)(f:Field)(l m:List AV):Option Bool:=
 match P.underlying f.type,l[f.offset]?,m[f.offset]? with
 | some (.int _),some (.int k a),some (.int k' b)=>if k=k' then some (decide (a=b)) else none
 | some .bool,some (.bool a),some (.bool b)=>some (a == b)
 | some .string,some (.str a),some (.str b)=>some (strEq a b)
 | _,_,_=>none
def eqFs(P:Program):List Field->List AV->List AV->Option Bool
 | [],_,_=>some true
 | f::fs,l,m=>if f.name="_" then none else match eqFd P f l m with
  | some b=>match eqFs P fs l m with
   | some r=>some (b&&r)
   | none=>none
  | none=>none
def aggK(P:Program)(t:TypeId)(op:BinOp)(l m:List AV)(K:AV->Option R):Option R:=
 match P.underlying t with
 | some (.struct fs)=>match P.stoodInHeld t || P.eqGuardType P.depth t with
  | true=>none
  | false=>match op with
   | .eql=>(eqFs P fs.toList l m).bind fun b=>K (.bool b)
   | .neq=>(eqFs P fs.toList l m).bind fun b=>K (.bool (!b))
   | _=>none
 | _=>none
def maxK(isMax:Bool):Int->List AV->IntKind->(AV->Option R)->Option R
 | x,[],k,K=>K (.int k x)
 | x,.int k' y::r,k,K=>if k'=k then maxK isMax (if isMax=true then mx2 x y else mn2 x y) r k K else none
 | _,_::_,_,_=>none
end
end Go.Ab

namespace Go.Ab
open Go
inductive Fun where
 | fn (f:FuncId)
 | yl (l:Nat)
abbrev Gam:=Fun->List AV->Store->Option (AV×Store)
def callG(Γ:Gam)(q:Bool)(g:Fun)(args:List AV)(σ:Store):Option (AV×Store):=
 match q with
 | true=>(Γ g args { σ with prot:=σ.objs.length }).map fun r=>(r.1,{ r.2 with prot:=σ.prot })
 | false=>Γ g args σ
def Store.markOk(σ:Store)(h:Hdl):Bool:=
 match h.a with
 | none=>false
 | some (b,_)=>bif Qi h.len 0 then false else match σ.objs[b]? with
  | some (.cells _ true _)=>Nat.ble σ.prot b
  | _=>false
def Fr.evs(φ:Fr)(l:List Operand):Option (List AV):=Fr.mapO φ.ev l
def Store.esOk(σ:Store)(h:Hdl)(es:Nat):Bool:=
 match h.a with
 | none=>true
 | some (b,_)=>bif Qi h.len 0 then true else match σ.objs[b]? with
  | some (.cells _ _ es')=>es' == es
  | _=>false
def Store.sub(σ:Store)(h:Hdl)(es:Nat)(lo hi mx:Option Int):Option Hdl:=
 if (σ.esOk h es=true/\0<=mx.getD h.len/\mx.getD h.len<=h.len)/\(0<=hi.getD h.len/\hi.getD h.len<=mx.getD h.len)/\(0<=lo.getD 0/\lo.getD 0<=hi.getD h.len) then
  some ⟨h.a.map fun x=>(x.1,x.2+(lo.getD 0).toNat*es),(hi.getD h.len).toNat-(lo.getD 0).toNat,
   match mx with
   | some m=>some (m.toNat-(lo.getD 0).toNat)
   | none=>h.cap.map (·-(lo.getD 0).toNat)⟩
 else none
def Store.whole(σ:Store)(p:Ptr)(n es:Nat):Option Hdl:=
 match p with
 | none=>none
 | some (b,o)=>match σ.objs[b]? with
  | some (.cells l _ es')=>if (es'=es/\0<n)/\o+n*es<=l.length then some ⟨some (b,o),n,some n⟩ else none
  | _=>none
def rowEs(P:Program)(t:TypeId)(n:Nat):Nat:=
 match P.underlying t with
 | some (.array _ e)=>(szOf P e).getD n
 | _=>n
def arrZ(P:Program)(t:TypeId):Option (IntKind×Nat):=
 match P.underlying t with
 | some (.array n e)=>match P.underlying e with
  | some (.int k)=>bif Nat.ble n 64 then none else some (k,n)
  | _=>none
 | _=>none
def isRepl(k:IntKind):Nat->List AV->Bool
 | 0,[]=>true
 | n+1,.int k' m::l=>decide (k'=k)&&decide (m=0)&&isRepl k n l
 | _,_=>false
def zeroIs(P:Program)(t:TypeId)(k:IntKind)(n:Nat):Bool:=
 match zeroCells P t with
 | some l=>isRepl k n l
 | none=>false
def optInt(φ:Fr):Option Operand->Option (Option Int)
 | none=>some none
 | some x=>match φ.ev x with
  | some (.int _ n)=>some (some n)
  | _=>none
def bytesOfL:List AV->Option (List UInt8)
 | []=>some []
 | .int .u8 n::l=>(bytesOfL l).map fun r=>UInt8.ofNat n.toNat::r
 | _::_=>none
def bytesOf(l:List AV):Option ByteArray:=(bytesOfL l).map fun r=>⟨r.toArray⟩
def fillL(place:Nat->Option (Nat×Nat))(cells:List AV):List (Nat×AV)->Option (List AV)
 | []=>some cells
 | (i,v)::rest=>match place i with
  | none=>none
  | some (off,size)=>if v.cells.length=size/\off+size<=cells.length then fillL place (cells.take off++v.cells++cells.drop (off+size)) rest else none
def placeS(P:Program)(fs:List Field)(i:Nat):Option (Nat×Nat):=(fs[i]?).bind fun f=>(szOf P f.type).map fun n=>(f.offset,n)
def evParts(φ:Fr)(l:List (Nat×Operand)):Option (List (Nat×AV)):=Fr.mapO (fun x=>(φ.ev x.2).bind fun v=>if v.isU=true then none else some (x.1,v)) l
def methOf(P:Program)(t:TypeId)(name:String):Option (FuncId×Option TypeId):=
 match P.info? t with
 | none=>none
 | some i=>match i.methods.find? (fun m=>m.name == name) with
  | none=>none
  | some m=>if m.path.isEmpty=true then match m.func with
   | none=>none
   | some (f,pr)=>match P.underlying t,pr with
    | some (.pointer _),true=>some (f,none)
    | some (.pointer e),false=>some (f,some e)
    | some _,false=>some (f,none)
    | _,_=>none
   else none
def mapIdx(k:IntKind)(n:Int):List (AV×AV)->Nat->Option (Option Nat)
 | [],_=>some none
 | (.int k' m,_)::r,i=>if k'=k then if m=n then some (some i) else mapIdx k n r (i+1) else none
 | _,_=>none
def Store.look(σ:Store)(m:Option Nat)(k:IntKind)(n:Int):Option (Option AV):=
 match m with
 | none=>some none
 | some r=>match σ.objs[r]? with
  | some (.map l)=>match mapIdx k n l 0 with
   | none=>none
   | some none=>some none
   | some (some j)=>(l[j]?).map fun x=>some x.2
  | _=>none
def Store.upd(σ:Store)(m:Option Nat)(k:IntKind)(n:Int)(v:AV):Option Store:=
 match m with
 | none=>none
 | some r=>match σ.objs[r]? with
  | some (.map l)=>if σ.prot<=r then match mapIdx k n l 0 with
   | none=>none
   | some none=>some { σ with objs:=σ.objs.set r (.map (l++[(.int k n,v)])) }
   | some (some j)=>some { σ with objs:=σ.objs.set r (.map (l.set j (.int k n,v))) }
   else none
  | _=>none
def AV.isO:Option AV->Bool
 | some _=>true
 | none=>false
def AV.ofO:Option AV->AV
 | some v=>v
 | none=>.undef
section
variable {R:Type} (P:Program) (Γ:Gam)
def evBuiltin(b:Builtin)(ts:List TypeId)(args:List AV)(σ:Store)(K:AV->Store->Option R):Option R:=
 match b,args with
 | .len,[.slice h]=>match ts with
  | [t]=>match P.underlying t with
   | some (.slice _)=>K (.int .i64 h.len) σ
   | _=>none
  | _=>none
 | .len,[.str s]=>match ts with
  | [t]=>match P.underlying t with
   | some .string=>K (.int .i64 s.size) σ
   | _=>none
  | _=>none
 | .cap,[.slice h]=>match ts with
  | [t]=>match P.underlying t with
   | some (.slice _)=>h.cap.bind fun c=>K (.int .i64 c) σ
   | _=>none
  | _=>none
 | .copy,[.slice h,.slice g]=>match ts with
  | [t,_]=>match P.underlying t with
   | some (.slice e)=>(szOf P e).bind fun es=>(σ.readSl ⟨g.a,min g.len h.len,g.cap⟩ es).bind fun xs=>(σ.stL h.a xs 0).bind fun σ'=>K (.int .i64 (min g.len h.len:Nat)) σ'
   | _=>none
  | _=>none
 | .max,.int k x::r=>maxK true x r k fun v=>K v σ
 | .min,.int k x::r=>maxK false x r k fun v=>K v σ
 | .append,[.slice h,.slice g]=>match ts with
  | [t,t']=>match P.underlying t,P.underlying t' with
   | some (.slice e),some (.slice _)=>match szOf P e,byOf P e with
    | some es,some by_=>if (zeroCells P e).map Qa1=some es then (σ.readSl g es).bind fun xs=>(σ.app h es by_ xs g.len).bind fun r=>K (.slice r.1) r.2 else none
    | _,_=>none
   | _,_=>none
  | _=>none
 | _,_=>none
def evOp(q:Bool)(ty:TypeId)(φ:Fr)(σ:Store)(K:AV->Store->Option R)(op:Op):Option R:=
 match op with
 | .move x=>(φ.ev x).bind fun v=>K v σ
 | .assign x=>(φ.ev x).bind fun v=>K v σ
 | .pick c a b=>match φ.ev c with
  | some (.bool t)=>if t=true then (φ.ev a).bind fun v=>K v σ else (φ.ev b).bind fun v=>K v σ
  | _=>none
 | .alloc t=>match arrZ P t with
  | some (k,n)=>if zeroIs P t k n=true then K (.ptr (some (σ.objs.length,0))) (σ.push (Qu n (.int k 0)) 1) else none
  | none=>(zeroCells P t).bind fun l=>K (.ptr (some (σ.objs.length,0))) (σ.push l (rowEs P t l.length))
 | .box t x=>(φ.ev x).bind fun v=>if v.isU=true then none else K (.ptr (some (σ.objs.length,0))) (σ.push v.cells v.cells.length)
 | .load t x=>match φ.ev x with
  | some (.ptr p)=>ldT P σ t p fun v=>K v σ
  | _=>none
 | .store t x y=>match φ.ev x,φ.ev y with
  | some (.ptr p),some v=>if szOf P t=some v.cells.length/\0<v.cells.length then (σ.stL p v.cells 0).bind fun σ'=>K .undef σ' else none
  | _,_=>none
 | .nilCheck x=>match φ.ev x with
  | some (.ptr p)=>Qab p fun x=>K (.ptr (some x)) σ
  | _=>none
 | .binOp op t x y _=>match φ.ev x,φ.ev y with
  | some (.agg l),some (.agg m)=>aggK P t op l m fun v=>K v σ
  | some a,some b=>binK (P.underlying t) op a b fun v=>K v σ
  | _,_=>none
 | .unOp op _ x=>match op,φ.ev x with
  | .not,some (.bool b)=>K (.bool (!b)) σ
  | .neg,some (.int k n)=>K (.int k (k.wrap (0-n))) σ
  | .xor,some (.int k n)=>K (.int k (bitOp .xor k (if k.signed then -1 else k.max) n)) σ
  | _,_=>none
 | .convert s d x=>match φ.ev x with
  | some (.int k n)=>if Qi s strT=false then match P.underlying s,P.underlying d with
   | some _,some (.int k')=>K (.int k' (k'.wrap n)) σ
   | _,_=>none
   else none
  | some (.slice h)=>if Qi d strT=true then match P.underlying s,P.underlying d with
   | some (.slice e),some .string=>match P.underlying e with
    | some (.int .u8)=>(σ.readSl h 1).bind fun l=>(bytesOf l).bind fun b=>K (.str b) σ
    | _=>none
   | _,_=>none
   else if Qi s d=true then match P.underlying d with
   | some (.slice e)=>match P.underlying e with
    | some (.int .u8)=>if σ.markOk h=true then K (.slice h) σ else none
    | _=>none
   | _=>none
   else none
  | some (.str b)=>if Qi d strT=false/\Qi s strT=true then match P.underlying s,P.underlying d with
   | some .string,some (.slice e)=>match P.underlying e with
    | some (.int .u8)=>K (.slice ⟨some (σ.objs.length,0),b.data.toList.length,none⟩) (σ.push (b.data.toList.map fun x=>.int .u8 x.toNat) 1)
    | _=>none
   | _,_=>none
   else none
  | _=>none
 | .fieldAddr s x f=>match φ.ev x,P.underlying s with
  | some (.ptr p),some (.struct fs)=>match fs[f]? with
   | some fd=>match szOf P fd.type with
    | some (_+1)=>Qab p fun u=>K (.ptr (Ptr.add (some u) fd.offset)) σ
    | _=>none
   | none=>none
  | _,_=>none
 | .field s x f=>match φ.ev x,P.underlying s with
  | some (.agg l),some (.struct fs)=>match fs[f]? with
   | some fd=>match P.underlying fd.type with
    | none=>none
    | some _=>if isAggT P fd.type=true then (szOf P fd.type).bind fun n=>K (.agg ((l.drop fd.offset).take n)) σ
     else (l[fd.offset]?).bind fun v=>K v σ
   | none=>none
  | _,_=>none
 | .indexAddr t x i=>match φ.ev i with
  | some (.int _ n)=>match P.underlying t,φ.ev x with
   | some (.slice e),some (.slice h)=>(szOf P e).bind fun es=>if 0<=n/\n<h.len then K (.ptr (h.idx n es)) σ else none
   | some (.array m e),some (.ptr p)=>(szOf P e).bind fun es=>if 0<=n/\n<m then Qab p fun u=>K (.ptr (Ptr.add (some u) (n.toNat*es))) σ else none
   | _,_=>none
  | _=>none
 | .index t x i=>match φ.ev i with
  | some (.int _ n)=>match P.underlying t,φ.ev x with
   | some .string,some (.str s)=>if 0<=n then (strAt s n.toNat).bind fun b=>K (.int .u8 b) σ else none
   | _,_=>none
  | _=>none
 | .extract x i=>match φ.ev x with
  | some (.tuple l)=>(l[i]?).bind fun v=>K v σ
  | _=>none
 | .makeSlice t l c=>match φ.ev l,φ.ev c,P.underlying t with
  | some (.int _ n),some (.int _ m),some (.slice e)=>match byOf P e,zeroCells P e with
   | some by_,some zs=>if 0<by_/\szOf P e=some zs.length then
     if (0<=n/\n<=m)/\m*by_<=281474976710656 then K (.slice ⟨some (σ.objs.length,0),n.toNat,some m.toNat⟩) (σ.push (mkCells zs m.toNat) zs.length) else none else none
   | _,_=>none
  | _,_,_=>none
 | .slice t x lo hi mx=>match φ.ev x,P.underlying t with
  | some (.slice h),some (.slice e)=>(szOf P e).bind fun es=>(optInt φ lo).bind fun l=>(optInt φ hi).bind fun u=>(optInt φ mx).bind fun m=>
    (σ.sub h es l u m).bind fun h'=>if (u.isNone&&m.isSome)=true then none else K (.slice h') σ
  | some (.ptr p),some (.array n e)=>match lo,hi,mx with
   | none,none,none=>(szOf P e).bind fun es=>(σ.whole p n es).bind fun h=>K (.slice h) σ
   | _,_,_=>none
  | _,_=>none
 | .buildSlice t len parts=>match P.underlying t with
  | some (.slice e)=>match zeroCells P e with
   | some zs=>if szOf P e=some zs.length/\len*zs.length<=16777216 then
     (evParts φ parts.toList).bind fun l=>(fillL (fun i=>some (i*zs.length,zs.length)) (mkCells zs len) l).bind fun cs=>
      K (.slice ⟨some (σ.objs.length,0),len,some len⟩) (σ.push cs zs.length) else none
   | none=>none
  | _=>none
 | .build t parts=>match zeroCells P t,P.underlying t with
  | some zs,some (.struct fs)=>if (fs.toList.all fun f=>(szOf P f.type).isSome)=true then
    (evParts φ parts.toList).bind fun l=>(fillL (placeS P fs.toList) zs l).bind fun cs=>K (.agg cs) σ else none
  | _,_=>none
 | .makeFunc fn first caps=>match fn with
  | .func f=>(φ.evs first.toList).bind fun a=>(φ.evs caps.toList).bind fun b=>K (.func f a b) σ
  | _=>none
 | .makeInterface t x=>match P.underlying t with
  | none=>none
  | some (.interface _)=>none
  | some _=>(φ.ev x).bind fun v=>K (.iface t v) σ
 | .typeAssert x _ u ok=>match P.underlying u with
  | some (.interface _)=>none
  | some _=>match φ.ev x with
   | some (.iface s v)=>if s=u then castT P u v fun v=>K (if ok=true then .tuple [v,.bool true] else v) σ else none
   | _=>none
  | none=>none
 | .makeMap t x=>match x with
  | none=>K (.map (some σ.objs.length)) { σ with objs:=σ.objs++[.map []] }
  | some y=>match P.underlying t,φ.ev y with
   | some (.map _ _),some (.int _ _)=>K (.map (some σ.objs.length)) { σ with objs:=σ.objs++[.map []] }
   | _,_=>none
 | .lookup t x i ok=>match P.underlying t,φ.ev x,φ.ev i with
  | some (.map key elem),some (.map m),some (.int k n)=>match P.underlying key with
   | some (.int _)=>(zeroOf P elem).bind fun z=>(σ.look m k n).bind fun o=>
     if AV.isO o=true then castT P elem (AV.ofO o) fun v=>K (if ok=true then .tuple [v,.bool true] else v) σ else K (if ok=true then .tuple [z,.bool false] else z) σ
   | _=>none
  | _,_,_=>none
 | .mapUpdate t m k x=>match P.underlying t,φ.ev m,φ.ev k,φ.ev x with
  | some (.map key _),some (.map mm),some (.int kk n),some v=>match P.underlying key with
   | some (.int _)=>(σ.upd mm kk n v).bind fun σ'=>K .undef σ'
   | _=>none
  | _,_,_,_=>none
 | .call c=>match c.callee with
  | .builtin b=>(φ.evs c.args.toList).bind fun args=>evBuiltin P b c.argTypes.toList args σ K
  | .value f=>match φ.ev f with
   | some (.func g a b)=>(φ.evs c.args.toList).bind fun args=>(callG Γ q (.fn g) (a++args++b) σ).bind fun r=>castR P ty r.1 fun v=>K v r.2
   | some (.yld l)=>(φ.evs c.args.toList).bind fun args=>(callG Γ q (.yl l) args σ).bind fun r=>castR P ty r.1 fun v=>K v r.2
   | _=>none
  | .invoke recv name=>match φ.ev recv with
   | some (.iface t v)=>match methOf P t name with
    | none=>none
    | some (f,pe)=>match pe with
     | none=>(φ.evs c.args.toList).bind fun args=>(callG Γ q (.fn f) (v::args) σ).bind fun r=>castR P ty r.1 fun v=>K v r.2
     | some e=>match v with
      | .ptr p=>ldT P σ e p fun u=>(φ.evs c.args.toList).bind fun args=>(callG Γ q (.fn f) (u::args) σ).bind fun r=>castR P ty r.1 fun v=>K v r.2
      | _=>none
   | _=>none
 | _=>none
end
def Fr.put(nt:Nat)(φ:Fr)(d:Option Tmp)(v:AV)(R:Type)(K:Fr->Option R):Option R:=
 match d with
 | none=>K φ
 | some t=>bif QG t nt then K ((t,v)::φ) else none
def AV.skipped:AV:=.tuple []
def guardOf(ops:Array Oper)(j:Nat):Option Tmp:=(ops[j]?).bind (·.dst)
section
variable {R:Type} (P:Program) (Γ:Gam) (nt:Nat) (qs:Nat) (ops:Array Oper)
def bitOn(m i:Nat):Bool:=Qi ((m >>> i) % 2) 1
def evOps:List Oper->Nat->Fr->Store->(Fr->Store->Option R)->Option R
 | [],_,φ,σ,K=>K φ σ
 | o::rest,i,φ,σ,K=>
  match o.guard with
  | none=>evOp P Γ (bitOn qs i) o.type φ σ (fun v σ'=>Fr.put nt φ o.dst v R fun φ'=>evOps rest (i+1) φ' σ' K) o.op
  | some (j,want)=>match guardOf ops j with
   | none=>none
   | some d=>match φ.get d with
    | some (.bool b)=>
     if b=true then
      Fr.put nt φ (some d) (.bool true) R fun φ1=>
       bif want then evOp P Γ (bitOn qs i) o.type φ1 σ (fun v σ'=>Fr.put nt φ1 o.dst v R fun φ'=>evOps rest (i+1) φ' σ' K) o.op
       else Fr.put nt φ1 o.dst AV.skipped R fun φ'=>evOps rest (i+1) φ' σ K
     else
      Fr.put nt φ (some d) (.bool false) R fun φ1=>
       bif want then Fr.put nt φ1 o.dst AV.skipped R fun φ'=>evOps rest (i+1) φ' σ K
       else evOp P Γ (bitOn qs i) o.type φ1 σ (fun v σ'=>Fr.put nt φ1 o.dst v R fun φ'=>evOps rest (i+1) φ' σ' K) o.op
    | some (.tuple _)=>Fr.put nt φ o.dst AV.skipped R fun φ'=>evOps rest (i+1) φ' σ K
    | _=>none
end
def bitOfOpd(m:Nat):Operand->Nat
 | .tmp t=>m ||| (1 <<< t)
 | _=>m
def clearBit(m:Nat):Option Tmp->Nat
 | some t=>bif bitOn m t then m ^^^ (1 <<< t) else m
 | none=>m
def opsLive:List Oper->Nat->Nat
 | [],m=>m
 | o::r,m=>o.op.operands.toList.foldl bitOfOpd (clearBit (opsLive r m) o.dst)
structure Live where
 n:Nat
 ret:Nat
 ex:List (Nat×Nat)
def exGet:List (Nat×Nat)->Nat->Nat
 | [],_=>0
 | (j,m)::r,i=>bif Qi j i then m else exGet r i
def Live.at(E:Live)(i:Nat):Nat:=exGet E.ex i
def Live.all(E:Live):Nat:=E.ex.foldl (fun m e=>m ||| e.2) (E.n ||| E.ret)
def liveC:Code->Live->Nat
 | .skip,E=>E.n
 | .region _ ops _,E=>opsLive ops.toList E.n
 | .seq a b,E=>liveC a { E with n:=liveC b E }
 | .cond c a b,E=>bitOfOpd (liveC a E ||| liveC b E) c
 | .block id c,E=>liveC c { E with ex:=(id,E.n)::E.ex }
 | .loop c,E=>liveC c { E with n:=0 }
 | .rangeFunc f _ a b,E=>bitOfOpd (liveC a ⟨liveC b ⟨0,0,[]⟩,0,[]⟩ ||| E.all) f
 | .exit i,E=>E.at i
 | .ret,E=>E.ret
 | _,_=>0
def Fr.sel(φ:Fr)(S:Nat):Nat->Fr
 | 0=>[]
 | t+1=>bif bitOn S t then match φ.get t with
   | some v=>(t,v)::Fr.sel φ S t
   | none=>Fr.sel φ S t
  else Fr.sel φ S t
def iter{S R:Type}:Nat->(S->Option (S ⊕ R))->S->Option R
 | 0,_,_=>none
 | k+1,f,s=>match f s with
  | none=>none
  | some (.inl s')=>iter k f s'
  | some (.inr r)=>some r
abbrev DrawOk:=Array Oper->Option (Nat×List (Nat×Nat))
def Ptr.off(p q:Ptr):Bool:=match p,q with
 | some (b,_),some (c,_)=>!Qi b c
 | _,_=>false
def apartK{R:Type}(φ:Fr)(x:Option R):List (Nat×Nat)->Option R
 | []=>x
 | y::l=>match φ.get y.1,φ.get y.2 with
  | some (.ptr p),some (.ptr q)=>if Ptr.off p q=true then apartK φ x l else none
  | _,_=>none
section
variable (P:Program) (Γ:Gam) (dr:DrawOk) (k nt:Nat) (rf:Bool)
abbrev LX:=AX×Fr×Store
def loopE(L:List Nat)(N:Live)(e:AX)(φ:Fr)(σ:Store):Option ((List AV×Store) ⊕ LX):=
 match e with
 | .normal=>(Fr.mapO φ.get L).bind fun vs=>some (.inl (vs,σ))
 | .exit i=>some (.inr (.exit i,φ.sel (N.at i) nt,σ))
 | .ret=>some (.inr (.ret,φ.sel N.ret nt,σ))
def loopK(ev:Live->Fr->Store->(AX->Fr->Store->Option ((List AV×Store) ⊕ LX))->Option ((List AV×Store) ⊕ LX))(L:List Nat)(N:Live)(X:Nat)
  (s:List AV×Store):Option ((List AV×Store) ⊕ LX):=ev { N with n:=X } (L.zip s.1) s.2 (loopE nt L N)
def Code.plain:Code->Bool
 | .region _ _ _=>true
 | .skip=>true
 | _=>false
def Store.setO(σ:Store)(b:Nat)(o:AObj):Store:={ σ with objs:=σ.objs.set b o }
def rangeV(g:FuncId)(a b:List AV)(o:AObj)(σ:Store):Option (AX×Store):=
 (Γ (.fn g) (a++[.yld σ.objs.length]++b) { σ with objs:=σ.objs++[o] }).bind fun r=>
  match r.2.objs[σ.objs.length]? with
  | some (.loop _ _ _ _ _ .ready)=>some (.normal,r.2.setO σ.objs.length .dead)
  | some (.loop _ _ _ _ _ (.fin e))=>some (e,r.2.setO σ.objs.length .dead)
  | _=>none
def roundFr(ps:List Tmp)(args:List AV)(φ:Fr):Fr:=(ps.zip args).reverse++φ
def evCode:Code->{R:Type}->Live->Fr->Store->(AX->Fr->Store->Option R)->Option R
 | .skip,_,N,φ,σ,K=>K .normal φ σ
 | .region _ ops draw,R,N,φ,σ,K=>match draw with
  | false=>evOps P Γ nt 0 ops ops.toList 0 φ σ fun φ' σ'=>K .normal φ' σ'
  | true=>(dr ops).bind fun qs=>apartK φ (evOps P Γ nt qs.1 ops ops.toList 0 φ σ fun φ' σ'=>K .normal φ' σ') qs.2
 | .seq a b,R,N,φ,σ,K=>evCode a { N with n:=liveC b N } φ σ fun e φ' σ'=>match e with
  | .normal=>evCode b N (bif Code.plain a then φ' else φ'.sel (liveC b N) nt) σ' K
  | .exit i=>K (.exit i) φ' σ'
  | .ret=>K .ret φ' σ'
 | .cond c a b,R,N,φ,σ,K=>match φ.ev c with
  | some (.bool t)=>if t=true then evCode a N φ σ K else evCode b N φ σ K
  | _=>none
 | .block id c,R,N,φ,σ,K=>evCode c { N with ex:=(id,N.n)::N.ex } φ σ fun e φ' σ'=>match e with
  | .normal=>K .normal φ' σ'
  | .exit i=>bif Qi i id then K .normal φ' σ' else K (.exit i) φ' σ'
  | .ret=>K .ret φ' σ'
 | .loop b,R,N,φ,σ,K=>
  (iter k (loopK nt (evCode b) ((φ.sel (liveC b { N with n:=0 }) nt).map (·.1)) N (liveC b { N with n:=0 })) ((φ.sel (liveC b { N with n:=0 }) nt).map (·.2),σ)).bind fun r=>K r.1 r.2.1 r.2.2
 | .exit i,_,N,φ,σ,K=>K (.exit i) φ σ
 | .ret,_,N,φ,σ,K=>K .ret φ σ
 | .rangeFunc f ps x y,R,N,φ,σ,K=>match rf with
  | false=>none
  | true=>match φ.ev f with
   | some (.func g a b)=>(rangeV Γ g a b (.loop (φ.sel (liveC x ⟨liveC y ⟨0,0,[]⟩,0,[]⟩) nt) ps.toList x y nt .ready) σ).bind fun r=>K r.1 (φ.sel N.all nt) r.2
   | _=>none
 | _,_,_,_,_,_=>none
def resOne(φ:Fr)(σ:Store)(K:AV->Option (AV×Store)):ResultVar->Option (AV×Store)
 | .tmp t=>(φ.get t).bind K
 | .cell t ty=>match φ.get t with
  | some (.ptr p)=>ldT P σ ty p K
  | _=>none
def resL(φ:Fr)(σ:Store):List ResultVar->(List AV->Option (AV×Store))->Option (AV×Store)
 | [],K=>K []
 | r::rs,K=>resOne P φ σ (fun v=>resL φ σ rs fun l=>K (v::l)) r
def resK(fn:Func)(φ:Fr)(σ:Store):Option (AV×Store):=
 resL P φ σ fn.results.toList fun l=>match l with
  | [v]=>some (v,σ)
  | l=>some (.tuple l,σ)
def resMask:List ResultVar->Nat
 | []=>0
 | .tmp t::r=>resMask r ||| (1 <<< t)
 | .cell t _::r=>resMask r ||| (1 <<< t)
def argFr:List AV->Nat->Fr
 | [],_=>[]
 | v::r,i=>(i,v)::argFr r (i+1)
def evBody(fn:Func)(args:List AV)(σ:Store):Option (AV×Store):=
 match fn.body with
 | none=>none
 | some c=>evCode P Γ dr k fn.ntmps true c ⟨resMask fn.results.toList,resMask fn.results.toList,[]⟩ (argFr args 0) σ fun e φ σ'=>match e with
  | .normal=>resK P fn φ σ'
  | .ret=>resK P fn φ σ'
  | .exit _=>none
end
def evRound(P:Program)(Γ:Gam)(dr:DrawOk)(k:Nat)(l:Nat)(args:List AV)(σ:Store):Option (AV×Store):=
 match σ.objs[l]? with
 | some (.loop φ ps x y nt .ready)=>
  if σ.prot<=l/\ps.length=args.length/\(ps.all fun t=>QG t nt)=true then
   (evCode P Γ dr k nt false x ⟨liveC y ⟨0,0,[]⟩,0,[]⟩ (roundFr ps args φ) σ fun e φ1 σ1=>some ((e,φ1,σ1):LX)).bind fun r1=>match r1.1 with
    | .normal=>match r1.2.2.objs[l]? with
     | some (.loop φ' ps' x' y' nt' .ready)=>(evCode P Γ dr k nt false y ⟨0,0,[]⟩ (r1.2.1.sel (liveC y ⟨0,0,[]⟩) nt) (r1.2.2.setO l (.loop φ' ps' x' y' nt' .busy)) fun e _ σ2=>some (e,σ2)).bind fun r2=>match r2.2.objs[l]? with
      | some (.loop φ' ps' x' y' nt' .busy)=>match r2.1 with
       | .normal=>some (.bool true,r2.2.setO l (.loop φ' ps' x' y' nt' .ready))
       | .exit i=>some (.bool false,r2.2.setO l (.loop φ' ps' x' y' nt' (.fin (.exit i))))
       | .ret=>some (.bool false,r2.2.setO l (.loop φ' ps' x' y' nt' (.fin .ret)))
      | _=>none
     | _=>none
    | _=>none
  else none
 | _=>none
def gam(P:Program)(dr:DrawOk)(sp:FuncId->Option (List AV->Store->Option (AV×Store))):Nat->Gam
 | 0,.fn f,args,σ=>match sp f with
  | some g=>g args σ
  | none=>none
 | 0,.yl _,_,_=>none
 | k+1,.fn f,args,σ=>match sp f with
  | some g=>g args σ
  | none=>match P.funcs[f]? with
   | none=>none
   | some fn=>bif fn.name == "runtime.NumGoroutine" then none else evBody P (gam P dr sp k) dr k fn args σ
 | k+1,.yl l,args,σ=>evRound P (gam P dr sp k) dr k l args σ
end Go.Ab

namespace Go.Ab
open Go
structure Loc where
 blk:Nat
 off:Nat
 N:Nat
 es:Nat
abbrev Mu:=Nat->Option Loc
inductive VR (μ:Mu):AV->Value->Prop
 | undef (v:Value):VR μ .undef v
 | int (k:IntKind) (n:Int):VR μ (.int k n) (.int k n)
 | bool (b:Bool):VR μ (.bool b) (.bool b)
 | str (s:ByteArray):VR μ (.str s) (.string s)
 | ptrN:VR μ (.ptr none) (.pointer none)
 | ptr {b o:Nat} {L:Loc} (h:μ b=some L):VR μ (.ptr (some (b,o))) (.pointer (some ⟨L.blk,L.off+o,none⟩))
 | slN {c:Option Nat} (h:∀ x,c=some x->x=0):VR μ (.slice ⟨none,0,c⟩) (.slice none 0 0)
 | sl {b o:Nat} {L:Loc} {len cap:Nat} {c:Option Nat} (h:μ b=some L) (hc:∀ x,c=some x->x=cap) (hl:len<=cap) (hN:o+cap*L.es<=L.N) :
   VR μ (.slice ⟨some (b,o),len,c⟩) (.slice (some ⟨L.blk,L.off+o,none⟩) len cap)
 | sl0 {b o:Nat} {c:Option Nat} {a:Addr} (h:∀ x,c=some x->x=0):VR μ (.slice ⟨some (b,o),0,c⟩) (.slice (some a) 0 0)
 | mapN:VR μ (.map none) (.map none)
 | map {r:Nat} {L:Loc} (h:μ r=some L):VR μ (.map (some r)) (.map (some L.blk))
 | func {f:FuncId} {a b:List AV} {a' b':Array Value} (ha:a.length=a'.size) (hb:b.length=b'.size)
   (va:∀ (i:Nat) (x:AV) (y:Value),a[i]?=some x->a'[i]?=some y->VR μ x y) (vb:∀ (i:Nat) (x:AV) (y:Value),b[i]?=some x->b'[i]?=some y->VR μ x y):VR μ (.func f a b) (.func (.func f) a' b')
 | nilFunc:VR μ .nilFunc .nilFunc
 | yld {l:Nat} {L:Loc} (h:μ l=some L):VR μ (.yld l) (.func (.yield L.blk) #[] #[])
 | iface {t:TypeId} {v:AV} {v':Value} (h:VR μ v v'):VR μ (.iface t v) (.iface t v')
 | nilIface:VR μ .nilIface .nilIface
 | agg {l:List AV} {l':Array Value} (h:l.length=l'.size) (hv:∀ (i:Nat) (x:AV) (y:Value),l[i]?=some x->l'[i]?=some y->VR μ x y):VR μ (.agg l) (.agg l')
 | tuple {l:List AV} {l':Array Value} (h:l.length=l'.size) (hv:∀ (i:Nat) (x:AV) (y:Value),l[i]?=some x->l'[i]?=some y->VR μ x y):VR μ (.tuple l) (.tuple l')
def VL(μ:Mu)(l:List AV)(l':List Value):Prop:=l.length=l'.length/\∀ (i:Nat) (x:AV) (y:Value),l[i]?=some x->l'[i]?=some y->VR μ x y
theorem VR.mono{μ μ':Mu}(hm:∀ b L,μ b=some L->μ' b=some L){v:AV}{c:Value}(h:VR μ v c):VR μ' v c:=by
 induction h with
 | undef v=>exact .undef v
 | int k n=>exact .int k n
 | bool b=>exact .bool b
 | str s=>exact .str s
 | ptrN=>exact .ptrN
 | ptr h=>exact .ptr (hm _ _ h)
 | slN h=>exact .slN h
 | sl h hc hl hN=>exact .sl (hm _ _ h) hc hl hN
 | sl0 h=>exact .sl0 h
 | mapN=>exact .mapN
 | map h=>exact .map (hm _ _ h)
 | func ha hb _ _ iha ihb=>exact .func ha hb iha ihb
 | nilFunc=>exact .nilFunc
 | yld h=>exact .yld (hm _ _ h)
 | iface _ ih=>exact .iface ih
 | nilIface=>exact .nilIface
 | agg h _ ih=>exact .agg h ih
 | tuple h _ ih=>exact .tuple h ih
theorem VL.mono{μ μ':Mu}(hm:∀ b L,μ b=some L->μ' b=some L){l:List AV}{l':List Value}(h:VL μ l l'):VL μ' l l':=
 ⟨h.1,fun i x y hx hy=>(h.2 i x y hx hy).mono hm⟩
theorem VL.nil(μ:Mu):VL μ [] []:=⟨rfl,fun i x y hx=>by simp at hx⟩
theorem VL.cons{μ:Mu}{v:AV}{c:Value}{l:List AV}{l':List Value}(h:VR μ v c)(hl:VL μ l l'):VL μ (v::l) (c::l'):=
 ⟨by simp [hl.1],fun i x y hx hy=>by
  cases i with
  | zero=>simp at hx hy; subst hx hy; exact h
  | succ i=>simp at hx hy; exact hl.2 i x y hx hy⟩
theorem VL.inv_cons{μ:Mu}{v:AV}{l:List AV}{l':List Value}(h:VL μ (v::l) l'):∃ c r,l'=c::r/\VR μ v c/\VL μ l r:=by
 cases l' with
 | nil=>exact absurd h.1 (by simp)
 | cons c r=>exact⟨c,r,rfl,h.2 0 _ _ rfl rfl,by have:=h.1; simpa using this,fun i x y hx hy=>h.2 (i+1) x y (by simpa using hx) (by simpa using hy)⟩
theorem VL.inv_nil{μ:Mu}{l':List Value}(h:VL μ [] l'):l'=[]:=by
 cases l' with
 | nil=>rfl
 | cons c r=>exact absurd h.1 (by simp)
theorem VL.append{μ:Mu}{l k:List AV}{l' k':List Value}(h:VL μ l l')(hk:VL μ k k'):VL μ (l++k) (l'++k'):=
 ⟨by simp [h.1,hk.1],fun i x y hx hy=>by
  by_cases c:i<l.length
  ·rw [Qe c] at hx
   rw [Qe (by rw [<-h.1]; exact c)] at hy
   exact h.2 i x y hx hy
  ·rw [Qf (by omega)] at hx
   rw [Qf (by rw [<-h.1]; omega)] at hy
   rw [<-h.1] at hy
   exact hk.2 _ x y hx hy⟩
theorem VL.take{μ:Mu}{l:List AV}{l':List Value}(h:VL μ l l')(n:Nat):VL μ (l.take n) (l'.take n):=
 ⟨by simp [h.1],fun i x y hx hy=>by
  rw [Qv] at hx hy
  split at hx
  ·rw [if_pos ‹_›] at hy; exact h.2 i x y hx hy
  ·exact absurd hx (by simp)⟩
theorem VL.drop{μ:Mu}{l:List AV}{l':List Value}(h:VL μ l l')(n:Nat):VL μ (l.drop n) (l'.drop n):=
 ⟨by simp [h.1],fun i x y hx hy=>by rw [QE] at hx hy; exact h.2 _ x y hx hy⟩
theorem VR.cells{μ:Mu}{v:AV}{c:Value}(h:VR μ v c)(hu:v≠.undef):VL μ v.cells c.cells.toList:=by
 cases h with
 | undef=>exact absurd rfl hu
 | agg h hv=>exact⟨by simpa [AV.cells,Qa2] using h,fun i x y hx hy=>hv i x y hx (by simpa [Qa2] using hy)⟩
 | tuple h hv=>exact VL.cons (.tuple h hv) (VL.nil _)
 | func ha hb va vb=>exact VL.cons (.func ha hb va vb) (VL.nil _)
 | iface h=>exact VL.cons (.iface h) (VL.nil _)
 | int=>exact VL.cons (.int ..) (VL.nil _)
 | bool=>exact VL.cons (.bool ..) (VL.nil _)
 | str=>exact VL.cons (.str ..) (VL.nil _)
 | ptrN=>exact VL.cons .ptrN (VL.nil _)
 | ptr h=>exact VL.cons (.ptr h) (VL.nil _)
 | slN h=>exact VL.cons (.slN h) (VL.nil _)
 | sl h hc hl hN=>exact VL.cons (.sl h hc hl hN) (VL.nil _)
 | sl0 h=>exact VL.cons (.sl0 h) (VL.nil _)
 | mapN=>exact VL.cons .mapN (VL.nil _)
 | map h=>exact VL.cons (.map h) (VL.nil _)
 | nilFunc=>exact VL.cons .nilFunc (VL.nil _)
 | yld h=>exact VL.cons (.yld h) (VL.nil _)
 | nilIface=>exact VL.cons .nilIface (VL.nil _)
def AObj.alive:AObj->Bool
 | .dead=>false
 | _=>true
def AObj.free:AObj->Bool
 | .cells _ rw _=>rw
 | .map _=>true
 | .loop _ _ _ _ _ _=>true
 | .dead=>false
def AObj.other:AObj->Bool
 | .map _=>true
 | .loop _ _ _ _ _ _=>true
 | _=>false
def ER(μ:Mu)(e:AV×AV)(m:MapEntry):Prop:=VR μ e.1 m.key/\VR μ e.2 m.val
def AX.code:AX->Code
 | .normal=>.skip
 | .exit i=>.exit i
 | .ret=>.ret
def LSt.ok(st:LSt)(r:Loop):Prop:=
 match st with
 | .ready=>r.state=.ready/\r.pending=none
 | .busy=>r.state=.busy
 | .fin e=>r.state=.done/\r.pending=some e.code/\e≠.normal
def OR(μ:Mu):AObj->Obj->Prop
 | .map l,.map es _=>l.length=es.size/\∀ (i:Nat) (x:AV×AV) (y:MapEntry),l[i]?=some x->es[i]?=some y->ER μ x y
 | .loop φ ps x y nt st,.loop r=>(r.params=ps.toArray/\r.assign=x/\r.body=y/\nt<=r.tmps.size/\st.ok r)/\∀ t v,φ.get t=some v->VR μ v (r.tmps.getD t undef)
 | _,_=>False
theorem OR.mono{μ μ':Mu}(hm:∀ b L,μ b=some L->μ' b=some L){o:AObj}{ob:Obj}(h:OR μ o ob):OR μ' o ob:=by
 cases o <;> cases ob <;> first
  | exact h.elim
  | exact⟨h.1,fun i x y hx hy=>⟨(h.2 i x y hx hy).1.mono hm,(h.2 i x y hx hy).2.mono hm⟩⟩
  | exact⟨h.1,fun t v ht=>(h.2 t v ht).mono hm⟩
def Dat(w:World)(c:Nat):Prop:=(∃ x ty fz,w.heap[c]?=some (.cells x ty fz))\/(∃ es clock,w.heap[c]?=some (.map es clock))\/∃ r,w.heap[c]?=some (.loop r)
theorem Dat.lt{w:World}{c:Nat}(h:Dat w c):c<w.heap.size:=by
 rcases h with ⟨x,ty,fz,h⟩ | ⟨es,clock,h⟩ | ⟨r,h⟩ <;> exact (Qm.1 h).1
theorem Dat.of{w w':World}{c:Nat}(h:Dat w c)(e:w'.heap[c]?=w.heap[c]?):Dat w' c:=by unfold Dat; rw [e]; exact h
def Thaw(fz:Nat×Nat)(n:Nat):Prop:=fz.1=fz.2\/n<=fz.1
theorem Thaw.zero(n:Nat):Thaw (0,0) n:=.inl rfl
structure Rel (μ:Mu) (σ:Store) (w:World):Prop where
 dom:∀ b L,μ b=some L->b<σ.objs.length
 dat:∀ b L,μ b=some L->Dat w L.blk
 cells:∀ b l rw es L,σ.objs[b]?=some (.cells l rw es)->μ b=some L->L.es=es/\l.length<=L.N /\
  ∀ j v,l[j]?=some v->∃ c,w.cell? ⟨L.blk,L.off+j,none⟩=some c/\VR μ v c
 rw:∀ b l es L,σ.objs[b]?=some (.cells l true es)->μ b=some L->∃ c ty fz,w.heap[L.blk]?=some (.cells c ty fz)/\c.size=L.off+L.N/\Thaw fz c.size
 obj:∀ b o L,σ.objs[b]?=some o->o.other=true->μ b=some L->∃ ob,w.heap[L.blk]?=some ob/\OR μ o ob
 sep:∀ b b' o o' L L',σ.objs[b]?=some o->o.free=true->σ.objs[b']?=some o'->o'.alive=true->b≠b'->μ b=some L->μ b'=some L'->L.blk≠L'.blk
theorem Rel.lt{μ:Mu}{σ:Store}{w:World}(h:Rel μ σ w)(b:Nat)(L:Loc)(hb:μ b=some L):L.blk<w.heap.size:=(h.dat b L hb).lt
def Own(μ:Mu)(σ:Store)(c:Nat):Prop:=∃ b o L,σ.objs[b]?=some o/\o.free=true/\σ.prot<=b/\μ b=some L/\L.blk=c
structure Ste (μ:Mu) (σ:Store) (w:World) (μ':Mu) (σ':Store) (w':World):Prop where
 rel:Rel μ' σ' w'
 agree:∀ b,b<σ.objs.length->μ' b=μ b
 len:σ.objs.length<=σ'.objs.length
 prot:σ'.prot=σ.prot
 keep:∀ b,b<σ.prot->b<σ.objs.length->σ'.objs[b]?=σ.objs[b]?
 size:w.heap.size<=w'.heap.size
 os:w'.os=w.os
 tape:w'.tape=w.tape
 output:w'.output=w.output
 pres:∀ c,c<w.heap.size->¬ Own μ σ c->w'.heap[c]?=w.heap[c]?
 own:∀ c,Own μ' σ' c->c<w.heap.size->Own μ σ c
 drawn:w.drawn<=w'.drawn
theorem Ste.refl{μ:Mu}{σ:Store}{w:World}(h:Rel μ σ w):Ste μ σ w μ σ w:=
 ⟨h,fun _ _=>rfl,Qh _,rfl,fun _ _ _=>rfl,Qh _,rfl,rfl,rfl,fun _ _ _=>rfl,fun _ h _=>h,Qh _⟩
theorem Ste.trans{μ μ' μ'':Mu}{σ σ' σ'':Store}{w w' w'':World}(h:Ste μ σ w μ' σ' w')(k:Ste μ' σ' w' μ'' σ'' w''):Ste μ σ w μ'' σ'' w'' where
 rel:=k.rel
 agree:=fun b hb=>(k.agree b (Qy hb h.len)).trans (h.agree b hb)
 len:=Q5 h.len k.len
 prot:=k.prot.trans h.prot
 keep:=fun b hb hl=>(k.keep b (by rw [h.prot]; exact hb) (Qy hl h.len)).trans (h.keep b hb hl)
 size:=Q5 h.size k.size
 os:=k.os.trans h.os
 tape:=k.tape.trans h.tape
 output:=k.output.trans h.output
 pres:=fun c hc hn=>(k.pres c (Qy hc h.size) (fun ho=>hn (h.own c ho hc))).trans (h.pres c hc hn)
 own:=fun c ho hc=>h.own c (k.own c ho (Qy hc h.size)) hc
 drawn:=Q5 h.drawn k.drawn
theorem Ste.mu{μ μ':Mu}{σ σ':Store}{w w':World}(hr:Rel μ σ w)(h:Ste μ σ w μ' σ' w'):∀ b L,μ b=some L->μ' b=some L:=
 fun b L hb=>(h.agree b (hr.dom b L hb)).trans hb
theorem Ste.vr{μ μ':Mu}{σ σ':Store}{w w':World}(hr:Rel μ σ w)(h:Ste μ σ w μ' σ' w'){v:AV}{c:Value}(hv:VR μ v c):VR μ' v c:=hv.mono (h.mu hr)
theorem Ste.vl{μ μ':Mu}{σ σ':Store}{w w':World}(hr:Rel μ σ w)(h:Ste μ σ w μ' σ' w'){v:List AV}{c:List Value}(hv:VL μ v c):VL μ' v c:=hv.mono (h.mu hr)
theorem Rel.cell{μ:Mu}{σ:Store}{w:World}(h:Rel μ σ w){p:Ptr}{v:AV}(hc:σ.cell p=some v){c:Value}(hp:VR μ (.ptr p) c) :
  ∃ a x,c=.pointer (some a)/\w.cell? a=some x/\VR μ v x:=by
 cases hp with
 | ptrN=>simp [Store.cell] at hc
 | @ptr b o L hb=>
  simp only [Store.cell] at hc
  cases ho:σ.objs[b]? with
  | none=>simp [ho] at hc
  | some ob=>
   cases ob with
   | cells l rw es=>
    simp only [ho] at hc
    obtain⟨_,_,hj⟩:=h.cells b l rw es L ho hb
    obtain⟨x,hx,hv⟩:=hj o v hc
    exact⟨_,x,rfl,hx,hv⟩
   | map l=>simp [ho] at hc
   | loop _ _ _ _ _ _=>simp [ho] at hc
   | dead=>simp [ho] at hc
theorem Rel.row{μ:Mu}{σ:Store}{w:World}(h:Rel μ σ w){b:Nat}{l:List AV}{rw:Bool}{es:Nat}{L:Loc}(ho:σ.objs[b]?=some (.cells l rw es))(hb:μ b=some L)
  (o n:Nat) (hn:o+n<=l.length):∃ cs:List Value,cs.length=n/\VL μ ((l.drop o).take n) cs/\∀ i,i<n->w.cell? ⟨L.blk,L.off+o+i,none⟩=cs[i]?:=by
 obtain⟨_,_,hj⟩:=h.cells b l rw es L ho hb
 induction n generalizing o with
 | zero=>exact⟨[],rfl,by simp [VL],fun i hi=>absurd hi (by omega)⟩
 | succ n ih=>
  obtain⟨cs,hl,hv,hc⟩:=ih (o+1) (by omega)
  have hlt:o<l.length:=by omega
  obtain⟨x,hx,hvx⟩:=hj o l[o] (by simp [hlt])
  refine⟨x::cs,by simp [hl],?_,?_⟩
  ·rw [QA hlt,QO]
   exact VL.cons hvx hv
  ·intro i hi
   cases i with
   | zero=>simpa using hx
   | succ i=>
    have:=hc i (by omega)
    simp only [QF]
    rw [<-this]
    congr 2; omega
end Go.Ab

namespace Go.Ab
open Go Go.RowKit
theorem Zy{w w':World}{b o:Nat}(h:w'.heap[b]?=w.heap[b]?):w'.cell? ⟨b,o,none⟩=w.cell? ⟨b,o,none⟩:=by simp [World.cell?,h]
def Mu.up(μ:Mu)(b:Nat)(L:Loc):Mu:=fun i=>if i=b then some L else μ i
theorem Mu.up_self(μ:Mu)(b:Nat)(L:Loc):μ.up b L b=some L:=by simp [Mu.up]
theorem Mu.up_ne(μ:Mu){b i:Nat}(L:Loc)(h:i≠b):μ.up b L i=μ i:=by simp [Mu.up,h]
theorem Rel.same{μ:Mu}{σ:Store}{w w':World}(h:Rel μ σ w)(hs:w.heap.size<=w'.heap.size)(hh:∀ b L,μ b=some L->w'.heap[L.blk]?=w.heap[L.blk]?):Rel μ σ w' where
 dom:=h.dom
 dat:=fun b L hb=>(h.dat b L hb).of (hh b L hb)
 cells:=fun b l rw es L ho hb=>by
  obtain⟨h1,h2,h3⟩:=h.cells b l rw es L ho hb
  exact⟨h1,h2,fun j v hj=>by obtain⟨c,hc,hv⟩:=h3 j v hj; exact⟨c,(Zy (hh b L hb)).trans hc,hv⟩⟩
 rw:=fun b l es L ho hb=>by rw [hh b L hb]; exact h.rw b l es L ho hb
 obj:=fun b o L ho hx hb=>by rw [hh b L hb]; exact h.obj b o L ho hx hb
 sep:=h.sep
theorem Zby{o:AObj}(h:o.other=true):o.alive=true:=by cases o <;> first | rfl | cases h
theorem Ste.write{μ:Mu}{σ:Store}{w w':World}(h:Rel μ σ w){b:Nat}{l l':List AV}{es:Nat}{L:Loc}(ho:σ.objs[b]?=some (.cells l true es))(hp:σ.prot<=b)(hb:μ b=some L)
  (hs:w'.heap.size=w.heap.size) (hos:w'.os=w.os) (ht:w'.tape=w.tape) (hout:w'.output=w.output)
  (hfar:∀ c,c≠L.blk->w'.heap[c]?=w.heap[c]?) (hin:∃ c ty fz,w'.heap[L.blk]?=some (.cells c ty fz)/\c.size=L.off+L.N/\Thaw fz c.size)
  (hl:l'.length<=L.N) (hv:∀ (j:Nat) (v:AV),l'[j]?=some v->∃ c,w'.cell? ⟨L.blk,L.off+j,none⟩=some c/\VR μ v c) (hdr:w.drawn<=w'.drawn:=by exact Qh _) :
  Ste μ σ w μ { σ with objs:=σ.objs.set b (.cells l' true es) } w':=by
 have hlt:b<σ.objs.length:=(Qc.1 ho).1
 have hown:Own μ σ L.blk:=⟨b,_,L,ho,rfl,hp,hb,rfl⟩
 have hget:∀ (i:Nat),(σ.objs.set b (.cells l' true es))[i]?=if b=i then some (.cells l' true es) else σ.objs[i]?:=by
  intro i; rw [Qq]; by_cases e:b=i
  ·rw [if_pos e,if_pos e,if_pos (e ▸ hlt)]
  ·rw [if_neg e,if_neg e]
 have hal:∀ (i:Nat) (o:AObj),(σ.objs.set b (.cells l' true es))[i]?=some o->∃ o':AObj,σ.objs[i]?=some o'/\o'.free=AObj.free o/\o'.alive=AObj.alive o:=by
  intro i o hi
  rw [hget] at hi
  by_cases e:b=i
  ·rw [if_pos e] at hi; injection hi with hi; subst hi; exact⟨.cells l true es,e ▸ ho,rfl,rfl⟩
  ·rw [if_neg e] at hi; exact⟨o,hi,rfl,rfl⟩
 have hne:∀ (i:Nat) (o:AObj) (L':Loc),i≠b->σ.objs[i]?=some o->o.alive=true->μ i=some L'->L'.blk≠L.blk:=fun i o L' hi hio ha hL=>Ne.symm (h.sep b i _ o L L' ho rfl hio ha (Ne.symm hi) hb hL)
 refine⟨⟨?_,fun i L' hi=>by
   by_cases e:L'.blk=L.blk
   ·rw [e]; obtain⟨c,ty,_,hc,_⟩:=hin; exact .inl ⟨c,ty,_,hc⟩
   ·exact (h.dat i L' hi).of (hfar _ e),?_,?_,?_,?_⟩,fun _ _=>rfl,by simp,rfl,?_,by rw [hs]; exact Qh _,hos,ht,hout,?_,?_,hdr⟩
 ·intro i L' hi; simpa using h.dom i L' hi
 ·intro i k rw es' L' hi hL
  simp only [hget] at hi
  by_cases e:b=i
  ·subst e
   rw [if_pos rfl] at hi
   injection hi with hi; injection hi with h1 h2 h3; subst h1 h2 h3
   obtain rfl:L=L':=by rw [hb] at hL; injection hL
   exact⟨(h.cells b l true es L ho hb).1,hl,hv⟩
  ·rw [if_neg e] at hi
   obtain⟨h1,h2,h3⟩:=h.cells i k rw es' L' hi hL
   exact⟨h1,h2,fun j v hj=>by obtain⟨c,hc,hv'⟩:=h3 j v hj; exact⟨c,(Zy (hfar _ (hne i _ L' (Ne.symm e) hi rfl hL))).trans hc,hv'⟩⟩
 ·intro i k es' L' hi hL
  simp only [hget] at hi
  by_cases e:b=i
  ·subst e
   obtain rfl:L=L':=by rw [hb] at hL; injection hL
   exact hin
  ·rw [if_neg e] at hi
   rw [hfar _ (hne i _ L' (Ne.symm e) hi rfl hL)]
   exact h.rw i k es' L' hi hL
 ·intro i k L' hi hx hL
  simp only [hget] at hi
  by_cases e:b=i
  ·rw [if_pos e] at hi; injection hi with hi; subst hi; cases hx
  ·rw [if_neg e] at hi
   rw [hfar _ (hne i _ L' (Ne.symm e) hi (Zby hx) hL)]
   exact h.obj i k L' hi hx hL
 ·intro i i' o o' L1 L2 h1 h2 h3 h4 h5 h6 h7
  obtain⟨p,hp1,hp2,hp3⟩:=hal i o h1
  obtain⟨q,hq1,hq2,hq3⟩:=hal i' o' h3
  exact h.sep i i' p q L1 L2 hp1 (hp2.trans h2) hq1 (hq3.trans h4) h5 h6 h7
 ·intro i hi _
  simp only [hget]
  rw [if_neg (by omega)]
 ·intro c hc hn
  exact hfar c (fun e=>hn (e ▸ hown))
 ·rintro c ⟨i,o,L',hi,hf,hpi,hL,hc⟩ _
  obtain⟨p,hp1,hp2,hp3⟩:=hal i o hi
  exact⟨i,p,L',hp1,hp2.trans hf,hpi,hL,hc⟩
theorem Ste.push{μ:Mu}{σ:Store}{w:World}(h:Rel μ σ w){l:List AV}{cs:Array Value}(hv:VL μ l (cs.toList.take l.length))(hl:l.length<=cs.size)(es:Nat)(ty:TypeId)(fz:Nat×Nat)(hz:Thaw fz cs.size) :
  Ste μ σ w (μ.up σ.objs.length ⟨w.heap.size,0,cs.size,es⟩) (σ.push l es) (w.alloc (.cells cs ty fz)):=by
 have hget:∀ (i:Nat),(σ.push l es).objs[i]?=if i=σ.objs.length then some (.cells l true es) else σ.objs[i]?:=by
  intro i
  simp only [Store.push]
  by_cases e:i=σ.objs.length
  ·subst e; simp
  ·rw [if_neg e]
   by_cases c:i<σ.objs.length
   ·rw [Qe c]
   ·rw [Qf (by omega),Qk (l:=σ.objs) (by omega),Qk (by simp; omega)]
 have hnew:(w.alloc (.cells cs ty fz)).heap[w.heap.size]?=some (.cells cs ty fz):=by
  show (w.heap.push _)[w.heap.size]?=_; simp
 have hold:∀ c,c<w.heap.size->(w.alloc (.cells cs ty fz)).heap[c]?=w.heap[c]?:=fun c hc=>Below.heap_alloc w _ c hc
 have hmono:∀ b L,μ b=some L->(μ.up σ.objs.length ⟨w.heap.size,0,cs.size,es⟩) b=some L:=fun b L hb=>by
  rw [Mu.up_ne _ _ (by have:=h.dom b L hb; omega)]; exact hb
 have hsz:(w.alloc (.cells cs ty fz)).heap.size=w.heap.size+1:=by show (w.heap.push _).size=_; simp
 refine⟨⟨?_,?_,?_,?_,?_,?_⟩,?_,?_,rfl,?_,by omega,rfl,rfl,rfl,fun c hc _=>hold c hc,?_,Qh _⟩
 ·intro b L hb
  simp only [Store.push,Qj,Qr,QD]
  by_cases e:b=σ.objs.length
  ·omega
  ·rw [Mu.up_ne _ _ e] at hb; have:=h.dom b L hb; omega
 ·intro b L hb
  by_cases e:b=σ.objs.length
  ·subst e; rw [Mu.up_self] at hb; injection hb with hb; subst hb; exact .inl ⟨_,_,_,hnew⟩
  ·rw [Mu.up_ne _ _ e] at hb; exact (h.dat b L hb).of (hold _ (h.lt b L hb))
 ·intro b k rw es' L ho hb
  rw [hget] at ho
  by_cases e:b=σ.objs.length
  ·subst e
   rw [if_pos rfl] at ho
   injection ho with ho; injection ho with h1 h2 h3; subst h1 h2 h3
   rw [Mu.up_self] at hb; injection hb with hb; subst hb
   refine⟨rfl,hl,fun j v hj=>?_⟩
   have hjl:j<l.length:=(Qc.1 hj).1
   have hjc:j<cs.size:=by omega
   refine⟨cs[j],?_,(hv.2 j v cs[j] hj ?_).mono hmono⟩
   ·simp only [World.cell?,hnew]; simp [hjc]
   ·rw [Qv,if_pos hjl]; simp [hjc]
  ·rw [if_neg e] at ho
   rw [Mu.up_ne _ _ e] at hb
   obtain⟨h1,h2,h3⟩:=h.cells b k rw es' L ho hb
   exact⟨h1,h2,fun j v hj=>by obtain⟨c,hc,hv'⟩:=h3 j v hj; exact⟨c,(Zy (hold _ (h.lt b L hb))).trans hc,hv'.mono hmono⟩⟩
 ·intro b k es' L ho hb
  rw [hget] at ho
  by_cases e:b=σ.objs.length
  ·subst e
   rw [Mu.up_self] at hb; injection hb with hb; subst hb
   exact⟨cs,ty,fz,hnew,by simp,hz⟩
  ·rw [if_neg e] at ho
   rw [Mu.up_ne _ _ e] at hb
   rw [hold _ (h.lt b L hb)]
   exact h.rw b k es' L ho hb
 ·intro b k L ho hx hb
  rw [hget] at ho
  by_cases e:b=σ.objs.length
  ·rw [if_pos e] at ho; injection ho with ho; subst ho; cases hx
  ·rw [if_neg e] at ho
   rw [Mu.up_ne _ _ e] at hb
   rw [hold _ (h.lt b L hb)]
   obtain⟨ob,h1,h2⟩:=h.obj b k L ho hx hb
   exact⟨ob,h1,h2.mono hmono⟩
 ·intro b b' o o' L L' h1 h2 h3 h4 h5 h6 h7
  rw [hget] at h1 h3
  by_cases e:b=σ.objs.length
  ·have e':b'≠σ.objs.length:=fun x=>h5 (e.trans x.symm)
   rw [Mu.up_ne _ _ e'] at h7
   subst e
   rw [Mu.up_self] at h6; injection h6 with h6; subst h6
   have:=h.lt b' L' h7
   dsimp only; omega
  ·rw [if_neg e] at h1
   rw [Mu.up_ne _ _ e] at h6
   by_cases e':b'=σ.objs.length
   ·subst e'
    rw [Mu.up_self] at h7; injection h7 with h7; subst h7
    have:=h.lt b L h6
    dsimp only; omega
   ·rw [if_neg e'] at h3
    rw [Mu.up_ne _ _ e'] at h7
    exact h.sep b b' o o' L L' h1 h2 h3 h4 h5 h6 h7
 ·intro b hb; exact Mu.up_ne _ _ (by omega)
 ·simp [Store.push]
 ·intro b hb hbl
  rw [hget,if_neg (by omega)]
 ·rintro c ⟨b,o,L,ho,hf,hp,hb,hc⟩ hlt
  rw [hget] at ho
  by_cases e:b=σ.objs.length
  ·subst e
   rw [Mu.up_self] at hb; injection hb with hb; subst hb
   dsimp only at hc; omega
  ·rw [if_neg e] at ho
   rw [Mu.up_ne _ _ e] at hb
   exact⟨b,o,L,ho,hf,hp,hb,hc⟩
theorem VR.one'{μ:Mu}{v:AV}{c:Value}(h:VR μ v c)(h1:v.one=true):c.oneCell'=true:=by
 cases h <;> first | (simp [AV.one] at h1; done) | rfl
theorem VR.ptr_inv{μ:Mu}{p:Ptr}{c:Value}(h:VR μ (.ptr p) c):(p=none/\c=.pointer none)\/∃ b o L,p=some (b,o)/\μ b=some L/\c=.pointer (some ⟨L.blk,L.off+o,none⟩):=by
 cases h with
 | ptrN=>exact .inl ⟨rfl,rfl⟩
 | @ptr b o L h=>exact .inr ⟨b,o,L,rfl,h,rfl⟩
theorem VR.ptr_add{μ:Mu}{p:Ptr}{a:Addr}(h:VR μ (.ptr p) (.pointer (some a)))(n:Nat):VR μ (.ptr (Ptr.add p n)) (.pointer (some (a.add n))):=by
 rcases h.ptr_inv with ⟨_,e⟩ | ⟨b,o,L,rfl,hb,e⟩
 ·cases e
 ·injection e with e; injection e with e; subst e
  rw [Addr.add_lit,Q0]
  exact .ptr hb
theorem Zij{w:World}{b o:Nat}{c:Array Value}{ty:TypeId}{fz:Nat×Nat}(v:Value)(h:w.heap[b]?=some (.cells c ty fz)) :
  (w.setCell ⟨b,o,none⟩ v).heap[b]?=some (.cells (c.setIfInBounds o v) ty fz):=by
 simp [World.setCell,Q2,h]
theorem Zc6{w:World}{b o:Nat}{c:Array Value}{ty:TypeId}{fz:Nat×Nat}(h:w.heap[b]?=some (.cells c ty fz))(ht:Thaw fz c.size)(ho:o<c.size):w.frozen? ⟨b,o,none⟩=false:=by
 obtain⟨lo,hi⟩:=fz
 simp only [World.frozen?,h]
 unfold Thaw at ht
 simp only at ht
 rw [Bool.eq_false_iff]
 intro e
 simp only [Q6,decide_eq_true_eq] at e
 omega
section
variable {P:Program}
theorem Z01{μ:Mu}{σ σ':Store}{w:World}(h:Rel μ σ w){p:Ptr}{v:AV}(hs:σ.st p v=some σ'){pc c:Value}(hp:VR μ (.ptr p) pc)(hv:VR μ v c) :
  ∃ a w',pc=.pointer (some a)/\(store a c).run P w=.ok () w'/\Ste μ σ w μ σ' w':=by
 rcases hp.ptr_inv with ⟨rfl,_⟩ | ⟨b,o,L,rfl,hb,rfl⟩
 ·simp [Store.st] at hs
 ·simp only [Store.st] at hs
  cases ho:σ.objs[b]? with
  | none=>simp [ho] at hs
  | some ob=>
   cases ob with
   | map l=>simp [ho] at hs
   | loop _ _ _ _ _ _=>simp [ho] at hs
   | dead=>simp [ho] at hs
   | cells l rw es=>
    cases rw with
    | false=>simp [ho] at hs
    | true=>
     simp only [ho] at hs
     split at hs
     ·rename_i hc
      obtain⟨⟨hpr,hol⟩,h1⟩:=hc
      injection hs with hs; subst hs
      obtain⟨ce,ty,fz,hblk,hsz,htw⟩:=h.rw b l es L ho hb
      obtain⟨_,hlN,hj⟩:=h.cells b l true es L ho hb
      have hcell:w.cell? ⟨L.blk,L.off+o,none⟩=some ce[L.off+o]:=by simp [World.cell?,hblk,show L.off+o<ce.size by omega]
      have hfr:w.frozen? ⟨L.blk,L.off+o,none⟩=false:=Zc6 hblk htw (by omega)
      have hself:=Zij (o:=L.off+o) c hblk
      refine⟨_,w.setCell ⟨L.blk,L.off+o,none⟩ c,rfl,?_,?_⟩
      ·rw [run_store P w _ c _ (hv.one' h1),hcell]; simp [hfr]
      ·refine Ste.write h ho hpr hb (by simp [World.setCell]) rfl rfl rfl (fun k hk=>Below.heap_setCell w _ _ k hk) ⟨_,ty,fz,hself,by simpa using hsz,by simpa using htw⟩ (by simpa using hlN) ?_
       intro j u hju
       have hjl:j<l.length:=by have:=(Qc.1 hju).1; simpa using this
       simp only [World.cell?,hself]
       rw [Qq] at hju
       by_cases e:o=j
       ·subst e
        rw [if_pos rfl,if_pos hol] at hju
        injection hju with hju; subst hju
        exact⟨c,by simp [show L.off+o<ce.size by omega],hv⟩
       ·rw [if_neg e] at hju
        obtain⟨x,hx,hvx⟩:=hj j u hju
        refine⟨x,?_,hvx⟩
        have hne:¬ L.off+o=L.off+j:=by omega
        simp only [World.cell?,hblk] at hx
        simp only [QN,if_neg hne]
        simpa using hx
     ·exact absurd hs (by simp)
theorem Zn2{σ':Store}(l:List AV):∀ {μ:Mu} {σ:Store} {w:World} (_:Rel μ σ w) {p:Ptr} {i:Nat} (_:σ.stL p l i=some σ') {a:Addr} {cs:List Value} (_:VR μ (.ptr p) (.pointer (some a))) (_:VL μ l cs),
  ∃ w',(storeCells a cs i).run P w=.ok () w'/\Ste μ σ w μ σ' w':=by
 induction l with
 | nil=>
  intro μ σ w h p i hs a cs hp hv
  obtain rfl:=hv.inv_nil
  simp only [Store.stL] at hs
  injection hs with hs; subst hs
  exact⟨w,rfl,Ste.refl h⟩
 | cons v r ih=>
  intro μ σ w h p i hs a cs hp hv
  obtain⟨c,cr,rfl,hvc,hvr⟩:=hv.inv_cons
  simp only [Store.stL] at hs
  obtain⟨σ1,h1,h2⟩:=Qa.1 hs
  obtain⟨a1,w1,e1,hr1,hs1⟩:=Z01 (P:=P) h h1 (hp.ptr_add i) hvc
  injection e1 with e1; injection e1 with e1; subst e1
  obtain⟨w2,hr2,hs2⟩:=ih hs1.rel h2 (hs1.vr h hp) (hs1.vl h hvr)
  exact⟨w2,by simp only [storeCells,Sem.run_bind,hr1,Qd,hr2],hs1.trans hs2⟩
theorem Zni{R:Type}{μ:Mu}{σ:Store}{w:World}(h:Rel μ σ w){c:CK}{p:Ptr}{K:AV->Option R}{r:R}(hk:ldK σ c p K=some r){a:Addr}(hp:VR μ (.ptr p) (.pointer (some a))) :
  ∃ v x,K v=some r/\w.cell? a=some x/\VR μ v x:=by
 have key:∀ v,σ.cell p=some v->K v=some r->∃ v x,K v=some r/\w.cell? a=some x/\VR μ v x:=by
  intro v hv hK
  obtain⟨a',x,e,hx,hvx⟩:=h.cell hv hp
  injection e with e; injection e with e; subst e
  exact⟨v,x,hK,hx,hvx⟩
 cases c with
 | int k=>
  simp only [ldK,Store.ldInt] at hk
  obtain⟨n,hn,hK⟩:=Qa.1 hk
  split at hn
  ·rename_i k' n' hc
   split at hn
   ·rename_i e; subst e; injection hn with hn; subst hn; exact key _ hc hK
   ·exact absurd hn (by simp)
  ·exact absurd hn (by simp)
 | fn=>
  simp only [ldK,Store.ldFn] at hk
  obtain⟨n,hn,hK⟩:=Qa.1 hk
  split at hn
  ·rename_i hc; injection hn with hn; subst hn; exact key _ hc hK
  ·exact absurd hn (by simp)
 | ifc=>
  simp only [ldK,Store.ldIfc] at hk
  obtain⟨n,hn,hK⟩:=Qa.1 hk
  split at hn
  ·rename_i hc; injection hn with hn; subst hn; exact key _ hc hK
  ·exact absurd hn (by simp)
 | bool=>
  simp only [ldK,Store.ldBool] at hk
  obtain⟨n,hn,hK⟩:=Qa.1 hk
  split at hn
  ·rename_i v hc; injection hn with hn; subst hn; exact key _ hc hK
  ·exact absurd hn (by simp)
 | str=>
  simp only [ldK,Store.ldStr] at hk
  obtain⟨n,hn,hK⟩:=Qa.1 hk
  split at hn
  ·rename_i v hc; injection hn with hn; subst hn; exact key _ hc hK
  ·exact absurd hn (by simp)
 | ptr=>
  simp only [ldK,Store.ldPtr] at hk
  obtain⟨n,hn,hK⟩:=Qa.1 hk
  split at hn
  ·rename_i v hc; injection hn with hn; subst hn; exact key _ hc hK
  ·exact absurd hn (by simp)
 | slice=>
  simp only [ldK,Store.ldSl] at hk
  obtain⟨n,hn,hK⟩:=Qa.1 hk
  split at hn
  ·rename_i v hc; injection hn with hn; subst hn; exact key _ hc hK
  ·exact absurd hn (by simp)
 | map=>
  simp only [ldK,Store.ldMap] at hk
  obtain⟨n,hn,hK⟩:=Qa.1 hk
  split at hn
  ·rename_i v hc; injection hn with hn; subst hn; exact key _ hc hK
  ·exact absurd hn (by simp)
theorem Zxk{R:Type}{μ:Mu}{σ:Store}{w:World}(h:Rel μ σ w){p:Ptr}{a:Addr}(hp:VR μ (.ptr p) (.pointer (some a))){r:R}(cs:List CK) :
  ∀ {i:Nat} {K:List AV->Option R} (_:ldL σ p cs i K=some r),∃ (l:List AV) (xs:List Value),K l=some r/\VL μ l xs/\l.length=cs.length/\∀ (j:Nat) (x:Value),xs[j]?=some x->w.cell? (a.add (i+j))=some x:=by
 induction cs with
 | nil=>intro i K hk; exact⟨[],[],hk,VL.nil _,rfl,fun j x hx=>by simp at hx⟩
 | cons c r ih=>
  intro i K hk
  simp only [ldL] at hk
  obtain⟨v,x,hK,hx,hv⟩:=Zni h hk (hp.ptr_add i)
  obtain⟨l,xs,hK2,hvl,hl,hc⟩:=ih hK
  refine⟨v::l,x::xs,hK2,VL.cons hv hvl,by simp [hl],fun j y hy=>?_⟩
  cases j with
  | zero=>simp at hy; subst hy; exact hx
  | succ j=>simp only [QF] at hy; rw [show i+(j+1)=i+1+j by omega]; exact hc j y hy
theorem Zdb{t:TypeId}(w:World)(h:(P.underlying t).isSome=true):(isAgg t).run P w=.ok (isAggT P t) w:=by
 obtain⟨d,hd⟩:=QC.1 h
 unfold isAgg isAggT
 simp only [Sem.run_bind,run_underlying hd,Qd,hd]
 cases d <;> rfl
theorem Zmz{d:Nat}{t:TypeId}{l:List CK}(h:ckOf P d t=some l):(P.underlying t).isSome=true:=by
 cases d with
 | zero=>simp [ckOf] at h
 | succ d=>
  simp only [ckOf] at h
  cases hu:P.underlying t with
  | none=>simp [hu] at h
  | some x=>rfl
theorem Zm{t:TypeId}{n:Nat}(h:szOf P t=some n)(w:World):(sizeOf t).run P w=.ok n w:=by
 unfold szOf at h
 obtain⟨i,hi,e⟩:=Qg.1 h
 simp [sizeOf,typeInfo,hi,e]
theorem Zhk{R:Type}{μ:Mu}{σ:Store}{w:World}(h:Rel μ σ w){t:TypeId}{p:Ptr}{K:AV->Option R}{r:R}(hk:ldT P σ t p K=some r){a:Addr}(hp:VR μ (.ptr p) (.pointer (some a))) :
  ∃ v x,K v=some r/\(loadVar t a).run P w=.ok x w/\VR μ v x:=by
 unfold ldT at hk
 split at hk
 ·rename_i hag
  obtain⟨cs,hcs,hk⟩:=Qa.1 hk
  split at hk
  ·rename_i hsz
   obtain⟨hsz,_⟩:=hsz
   obtain⟨l,xs,hK,hv,hl,hc⟩:=Zxk h hp cs hk
   refine⟨_,.agg xs.toArray,hK,?_,.agg (by simpa using hv.1) (fun i x y hx hy=>hv.2 i x y hx (by simpa using hy))⟩
   have hload:=run_loadCells_list (P:=P) w a xs (fun j x hx=>by have:=hc j x hx; simpa using this)
   rw [<-hv.1,hl] at hload
   simp only [loadVar,Sem.run_bind,Zdb w (Zmz hcs),Qd,hag,if_true,Zm hsz,hload]
   rfl
  ·exact absurd hk (by simp)
 ·rename_i hag
  split at hk
  ·rename_i c hcs
   obtain⟨v,x,hK,hx,hv⟩:=Zni h hk hp
   refine⟨v,x,hK,?_,hv⟩
   simp only [loadVar,Sem.run_bind,Zdb w (Zmz hcs),Qd,hag,QP,if_false,run_load,hx]
  ·exact absurd hk (by simp)
theorem Ztk{R:Type}{σ:Store}{c:CK}{K:AV->Option R}:ldK σ c none K=none:=by
 cases c <;> simp [ldK,Store.ldInt,Store.ldBool,Store.ldStr,Store.ldPtr,Store.ldSl,Store.ldMap,Store.ldFn,Store.ldIfc,Store.cell]
theorem Zib{R:Type}{σ:Store}{t:TypeId}{K:AV->Option R}{r:R}(hk:ldT P σ t none K=some r):False:=by
 unfold ldT at hk
 split at hk
 ·obtain⟨cs,_,hk⟩:=Qa.1 hk
  split at hk
  ·rename_i hc
   cases cs with
   | nil=>simp at hc
   | cons c cs=>simp [ldL,Ptr.add,Ztk] at hk
  ·exact absurd hk (by simp)
 ·split at hk
  ·simp [Ztk] at hk
  ·exact absurd hk (by simp)
end
end Go.Ab

namespace Go.Ab
open Go Go.RowKit
theorem Ste.drew{μ:Mu}{σ:Store}{w:World}(h:Rel μ σ w):Ste μ σ w μ σ w.drew:=
 ⟨h.same (Qh _) (fun _ _ _=>rfl),fun _ _=>rfl,Qh _,rfl,fun _ _ _=>rfl,Qh _,rfl,rfl,rfl,fun _ _ _=>rfl,fun _ h _=>h,Nat.le_succ _⟩
theorem Zmq{σ:Store}{b:Nat}{o o1:AObj}(ho:σ.objs[b]?=some o)(i:Nat):(σ.objs.set b o1)[i]?=if b=i then some o1 else σ.objs[i]?:=by
 have hlt:b<σ.objs.length:=(Qc.1 ho).1
 rw [Qq]; by_cases e:b=i
 ·rw [if_pos e,if_pos e,if_pos (e ▸ hlt)]
 ·rw [if_neg e,if_neg e]
theorem Ste.kill{μ:Mu}{σ:Store}{w:World}(h:Rel μ σ w){b:Nat}{o:AObj}(ho:σ.objs[b]?=some o)(hp:σ.prot<=b):Ste μ σ w μ { σ with objs:=σ.objs.set b .dead } w:=by
 have hold:∀ (i:Nat) (o':AObj),(σ.objs.set b .dead)[i]?=some o'->o'.alive=true->σ.objs[i]?=some o':=by
  intro i o' hi ha
  rw [Zmq ho] at hi
  by_cases e:b=i
  ·rw [if_pos e] at hi; injection hi with hi; subst hi; cases ha
  ·rw [if_neg e] at hi; exact hi
 have hfa:∀ o:AObj,o.free=true->o.alive=true:=by intro o hf; cases o <;> first | rfl | cases hf
 refine⟨⟨fun i L hi=>by simpa using h.dom i L hi,h.dat,?_,?_,?_,?_⟩,fun _ _=>rfl,by simp,rfl,?_,Qh _,rfl,rfl,rfl,fun _ _ _=>rfl,?_,Qh _⟩
 ·intro i l rw es L hi hL; exact h.cells i l rw es L (hold i _ hi rfl) hL
 ·intro i l es L hi hL; exact h.rw i l es L (hold i _ hi rfl) hL
 ·intro i l L hi hx hL; exact h.obj i l L (hold i _ hi (Zby hx)) hx hL
 ·intro i i' o1 o2 L1 L2 h1 h2 h3 h4 h5 h6 h7
  exact h.sep i i' o1 o2 L1 L2 (hold i _ h1 (hfa _ h2)) h2 (hold i' _ h3 h4) h4 h5 h6 h7
 ·intro i hi _
  show (σ.objs.set b .dead)[i]?=_
  rw [Zmq ho,if_neg (by omega)]
 ·rintro c ⟨i,o',L',hi,hf,hpi,hL,hc⟩ _
  exact⟨i,o',L',hold i _ hi (hfa _ hf),hf,hpi,hL,hc⟩
theorem Ste.rename{μ:Mu}{σ:Store}{w:World}(h:Rel μ σ w){b o:Nat}{l l2:List AV}{es:Nat}{L:Loc}(ho:σ.objs[b]?=some (.cells l true es))(hp:σ.prot<=b)(hb:μ b=some L)
  (hl:∀ (j:Nat) (v:AV),l2[j]?=some v->l[o+j]?=some v) (hN:o+l2.length<=L.N) :
  Ste μ σ w (μ.up σ.objs.length ⟨L.blk,L.off+o,L.N-o,es⟩) { σ with objs:=σ.objs.set b .dead++[.cells l2 true es] } w:=by
 have hlt:b<σ.objs.length:=(Qc.1 ho).1
 have hget:∀ (i:Nat),(σ.objs.set b .dead++[.cells l2 true es])[i]?=if i=σ.objs.length then some (.cells l2 true es) else if b=i then some .dead else σ.objs[i]?:=by
  intro i
  by_cases e:i=σ.objs.length
  ·subst e; rw [if_pos rfl,Qf (by simp)]; simp
  ·rw [if_neg e]
   by_cases c:i<σ.objs.length
   ·rw [Qe (by simpa using c)]; exact Zmq ho i
   ·rw [Qf (by simp; omega),Qk (by simp; omega),if_neg (by omega),Qk (by omega)]
 have hold:∀ (i:Nat) (o':AObj),i≠σ.objs.length->(σ.objs.set b .dead++[.cells l2 true es])[i]?=some o'->o'.alive=true->σ.objs[i]?=some o'/\i≠b:=by
  intro i o' hne hi ha
  rw [hget,if_neg hne] at hi
  by_cases e:b=i
  ·rw [if_pos e] at hi; injection hi with hi; subst hi; cases ha
  ·rw [if_neg e] at hi; exact⟨hi,Ne.symm e⟩
 have hfa:∀ o:AObj,o.free=true->o.alive=true:=by intro o hf; cases o <;> first | rfl | cases hf
 have hup:∀ i L',μ i=some L'->(μ.up σ.objs.length ⟨L.blk,L.off+o,L.N-o,es⟩) i=some L':=fun i L' hi=>by
  rw [Mu.up_ne _ _ (by have:=h.dom i L' hi; omega)]; exact hi
 obtain⟨hes,hlN,hcj⟩:=h.cells b l true es L ho hb
 refine⟨⟨?_,?_,?_,?_,?_,?_⟩,?_,by simp,rfl,?_,Qh _,rfl,rfl,rfl,fun _ _ _=>rfl,?_,Qh _⟩
 ·intro i L' hi
  simp only [Qj,List.length_set,Qr,QD]
  by_cases e:i=σ.objs.length
  ·omega
  ·rw [Mu.up_ne _ _ e] at hi; have:=h.dom i L' hi; omega
 ·intro i L' hi
  by_cases e:i=σ.objs.length
  ·subst e; rw [Mu.up_self] at hi; injection hi with hi; subst hi; exact h.dat b L hb
  ·rw [Mu.up_ne _ _ e] at hi; exact h.dat i L' hi
 ·intro i k rw es' L' hi hL
  by_cases e:i=σ.objs.length
  ·subst e
   simp only [hget,if_pos] at hi
   injection hi with hi; injection hi with h1 h2 h3; subst h1 h2 h3
   rw [Mu.up_self] at hL; injection hL with hL; subst hL
   refine⟨rfl,by dsimp only; omega,fun j v hj=>?_⟩
   obtain⟨c,hc,hv⟩:=hcj (o+j) v (hl j v hj)
   exact⟨c,by rw [<-hc]; congr 2; dsimp only; omega,hv.mono hup⟩
  ·obtain⟨h1,h2⟩:=hold i _ e hi rfl
   rw [Mu.up_ne _ _ e] at hL
   obtain⟨a1,a2,a3⟩:=h.cells i k rw es' L' h1 hL
   exact⟨a1,a2,fun j v hj=>by obtain⟨c,hc,hv⟩:=a3 j v hj; exact⟨c,hc,hv.mono hup⟩⟩
 ·intro i k es' L' hi hL
  by_cases e:i=σ.objs.length
  ·subst e
   rw [Mu.up_self] at hL; injection hL with hL; subst hL
   obtain⟨c,ty,fz,hc,hs,ht⟩:=h.rw b l es L ho hb
   exact⟨c,ty,fz,hc,by dsimp only; omega,ht⟩
  ·obtain⟨h1,h2⟩:=hold i _ e hi rfl
   rw [Mu.up_ne _ _ e] at hL
   exact h.rw i k es' L' h1 hL
 ·intro i k L' hi hx hL
  by_cases e:i=σ.objs.length
  ·subst e; simp only [hget,if_pos] at hi; injection hi with hi; subst hi; cases hx
  ·obtain⟨h1,h2⟩:=hold i _ e hi (Zby hx)
   rw [Mu.up_ne _ _ e] at hL
   obtain⟨ob,a1,a2⟩:=h.obj i k L' h1 hx hL
   exact⟨ob,a1,a2.mono hup⟩
 ·intro i i' o1 o2 L1 L2 h1 h2 h3 h4 h5 h6 h7
  by_cases e:i=σ.objs.length
  ·have e':i'≠σ.objs.length:=fun x=>h5 (e.trans x.symm)
   subst e
   rw [Mu.up_self] at h6; injection h6 with h6; subst h6
   obtain⟨q1,q2⟩:=hold i' _ e' h3 h4
   rw [Mu.up_ne _ _ e'] at h7
   exact h.sep b i' _ o2 L L2 ho rfl q1 h4 (Ne.symm q2) hb h7
  ·obtain⟨q1,q2⟩:=hold i _ e h1 (hfa _ h2)
   rw [Mu.up_ne _ _ e] at h6
   by_cases e':i'=σ.objs.length
   ·subst e'
    rw [Mu.up_self] at h7; injection h7 with h7; subst h7
    exact h.sep i b o1 _ L1 L q1 h2 ho rfl q2 h6 hb
   ·obtain⟨q3,q4⟩:=hold i' _ e' h3 h4
    rw [Mu.up_ne _ _ e'] at h7
    exact h.sep i i' o1 o2 L1 L2 q1 h2 q3 h4 h5 h6 h7
 ·intro i hi; exact Mu.up_ne _ _ (by omega)
 ·intro i hi hil
  simp only [hget]
  rw [if_neg (by omega),if_neg (by omega)]
 ·rintro c ⟨i,o',L',hi,hf,hpi,hL,hc⟩ _
  by_cases e:i=σ.objs.length
  ·subst e
   rw [Mu.up_self] at hL; injection hL with hL; subst hL
   exact⟨b,_,L,ho,rfl,hp,hb,hc⟩
  ·obtain⟨q1,q2⟩:=hold i _ e hi (hfa _ hf)
   rw [Mu.up_ne _ _ e] at hL
   exact⟨i,o',L',q1,hf,hpi,hL,hc⟩
theorem Zzb{μ:Mu}{xs:List AV}{cs:List Value}(hv:VL μ xs cs)(h1:xs.all AV.one=true):∀ v∈cs,v.oneCell'=true:=by
 intro v hm
 obtain⟨i,hi,rfl⟩:=List.getElem_of_mem hm
 have hx:i<xs.length:=by rw [hv.1]; exact hi
 exact (hv.2 i xs[i] cs[i] (by simp [hx]) (by simp [hi])).one' (QV.1 h1 _ (List.getElem_mem hx))
theorem Ze0(P:Program)(g o:Nat)(t:TypeId)(fz:Nat×Nat):∀ (vs:List Value) (i:Nat) (cur:Array Value) (w:World),w.heap[g]?=some (.cells cur t fz)->Thaw fz cur.size->o+i+vs.length<=cur.size->(∀ v∈vs,v.oneCell'=true) ->
  (storeCells ⟨g,o,none⟩ vs i).run P w=.ok () (w.setRow g (cur.toList.take (o+i)++vs++cur.toList.drop (o+i+vs.length)).toArray)
 | [],i,cur,w,hg,_,_,_=>by
  simp only [storeCells,List.append_nil,QD,QY,List.take_append_drop,Array.toArray_toList]
  rw [setRow_self w g cur t fz hg]
  rfl
 | v::rest,i,cur,w,hg,hfz,hl,h1=>by
  have hi:o+i<cur.size:=by simp at hl; omega
  have hadd:(⟨g,o,none⟩:Addr).add i=⟨g,o+i,none⟩:=by unfold Addr.add; split <;> simp_all
  have hcell:w.cell? ⟨g,o+i,none⟩=some cur[o+i]:=by simp [World.cell?,hg,hi]
  have hfro:w.frozen? ⟨g,o+i,none⟩=false:=Zc6 hg hfz hi
  have hst:(store ((⟨g,o,none⟩:Addr).add i) v).run P w=.ok () (w.setRow g (cur.setIfInBounds (o+i) v)):=by
   rw [hadd,run_store P w _ v _ (h1 v (by simp)),hcell]
   simp [hfro,setCell_eq_setRow w g (o+i) cur t fz v hg]
  have ih:=Ze0 P g o t fz rest (i+1) (cur.setIfInBounds (o+i) v) (w.setRow g (cur.setIfInBounds (o+i) v)) (setRow_heap w g cur _ t _ hg) (by simpa using hfz) (by simp at hl ⊢; omega) (fun x hx=>h1 x (by simp [hx]))
  simp only [storeCells,Sem.run_bind,hst,Qd,ih,setRow_setRow]
  congr 3
  have e:=list_seg_step cur.toList (o+i) v rest (by simp at hl ⊢; omega)
  simpa [QQ,Q0] using e
theorem Zrp{P:Program}{μ:Mu}{σ:Store}{w:World}(h:Rel μ σ w){b k:Nat}{l xs:List AV}{cs:List Value}{es:Nat}{L:Loc}(ho:σ.objs[b]?=some (.cells l true es))(hp:σ.prot<=b)(hb:μ b=some L)
  (hk:k<=l.length) (hN:k+xs.length<=L.N) (hv:VL μ xs cs) (h1:xs.all AV.one=true) :
  ∃ w',(storeCells ⟨L.blk,L.off+k,none⟩ cs).run P w=.ok () w'/\Ste μ σ w μ { σ with objs:=σ.objs.set b (.cells (l.take k++xs++l.drop (k+xs.length)) true es) } w':=by
 obtain⟨ce,ty,fz,hblk,hsz,htw⟩:=h.rw b l es L ho hb
 obtain⟨hes,hlN,hcj⟩:=h.cells b l true es L ho hb
 have hrun:=Ze0 P L.blk (L.off+k) ty fz cs 0 ce w hblk htw (by rw [<-hv.1]; omega) (Zzb hv h1)
 simp only [QY] at hrun
 have hhp:=setRow_heap w L.blk ce (ce.toList.take (L.off+k)++cs++ce.toList.drop (L.off+k+cs.length)).toArray ty fz hblk
 refine⟨_,hrun,Ste.write h ho hp hb (by simp [World.setRow]) rfl rfl rfl ?_ ⟨_,ty,fz,hhp,?_⟩ ?_ ?_⟩
 ·intro c hc
  simp only [World.setRow,Q2]
  rw [if_neg (Ne.symm hc)]
 ·have e:(ce.toList.take (L.off+k)++cs++ce.toList.drop (L.off+k+cs.length)).toArray.size=ce.size:=by
   simp only [Qak,Qj,QJ,QK,Qw]
   rw [<-hv.1]; omega
  rw [e]; exact⟨hsz,htw⟩
 ·simp only [Qj,QJ,QK]; omega
 ·intro j v hj
  simp only [World.cell?,hhp,Option.isSome_none,QP,if_false]
  have hkk:(l.take k).length=k:=by simp [hk]
  have hcl:(ce.toList.take (L.off+k)).length=L.off+k:=by simp; omega
  by_cases c1:j<k
  ·rw [QH,Qe (by omega),Qv,if_pos c1] at hj
   obtain⟨c,hc,hvc⟩:=hcj j v hj
   refine⟨c,?_,hvc⟩
   simp only [World.cell?,hblk] at hc
   simp only [QI,QH]
   rw [Qe (by omega),Qv,if_pos (by omega)]
   simpa using hc
  ·by_cases c2:j<k+xs.length
   ·rw [Qe (by simp; omega),Qf (by omega),hkk] at hj
    have hjx:j-k<cs.length:=by rw [<-hv.1]; omega
    refine⟨cs[j-k],?_,hv.2 (j-k) v _ hj (by simp [hjx])⟩
    simp only [QI]
    rw [Qe (by simp only [Qj,hcl]; omega),Qf (by omega),hcl,show L.off+j-(L.off+k)=j-k by omega]
    simp [hjx]
   ·rw [Qf (by simp; omega),QE] at hj
    simp only [Qj,hkk] at hj
    rw [show k+xs.length+(j-(k+xs.length))=j by omega] at hj
    obtain⟨c,hc,hvc⟩:=hcj j v hj
    refine⟨c,?_,hvc⟩
    simp only [World.cell?,hblk] at hc
    simp only [QI]
    rw [Qf (by simp only [Qj,hcl,<-hv.1]; omega),QE]
    simp only [Qj,hcl,<-hv.1]
    rw [show L.off+k+xs.length+(L.off+j-(L.off+k+xs.length))=L.off+j by omega]
    simpa using hc
theorem Ztr{c:Value}{v:AV}(h:ofC1 c=some v)(μ:Mu):VR μ v c/\v≠.undef:=by
 cases c with
 | int k n=>simp [ofC1] at h; subst h; exact⟨.int ..,by simp⟩
 | bool b=>simp [ofC1] at h; subst h; exact⟨.bool ..,by simp⟩
 | string s=>simp [ofC1] at h; subst h; exact⟨.str ..,by simp⟩
 | pointer a=>cases a <;> simp [ofC1] at h; subst h; exact⟨.ptrN,by simp⟩
 | slice a n m=>
  cases a with
  | some a=>simp [ofC1] at h
  | none=>
   cases n with
   | succ n=>simp [ofC1] at h
   | zero=>cases m with
    | succ m=>simp [ofC1] at h
    | zero=>simp [ofC1] at h; subst h; exact⟨.slN (by simp),by simp⟩
 | map r=>cases r <;> simp [ofC1] at h; subst h; exact⟨.mapN,by simp⟩
 | nilFunc=>simp [ofC1] at h; subst h; exact⟨.nilFunc,by simp⟩
 | nilIface=>simp [ofC1] at h; subst h; exact⟨.nilIface,by simp⟩
 | _=>simp [ofC1] at h
theorem Zc9{α β:Type}{f:α->Option β}:∀ {l:List α} {r:List β},Fr.mapO f l=some r->r.length=l.length/\∀ (i:Nat) (x:α) (y:β),l[i]?=some x->r[i]?=some y->f x=some y
 | [],r,h=>by simp [Fr.mapO] at h; subst h; exact⟨rfl,fun i x y hx=>by simp at hx⟩
 | a::l,r,h=>by
  simp only [Fr.mapO] at h
  cases hf:f a with
  | none=>simp [hf] at h
  | some b=>
   simp only [hf] at h
   cases hl:Fr.mapO f l with
   | none=>simp [hl] at h
   | some q=>
    simp only [hl] at h
    injection h with h; subst h
    obtain⟨h1,h2⟩:=Zc9 hl
    refine⟨by simp [h1],fun i x y hx hy=>?_⟩
    cases i with
    | zero=>simp at hx hy; subst hx hy; exact hf
    | succ i=>exact h2 i x y (by simpa using hx) (by simpa using hy)
theorem Zk0{c:Value}{v:AV}(h:ofC c=some v)(μ:Mu):VR μ v c/\v≠.undef:=by
 cases c with
 | agg cs=>
  simp only [ofC] at h
  obtain⟨l,hl,rfl⟩:=Qg.1 h
  obtain⟨h1,h2⟩:=Zc9 hl
  exact⟨.agg (by simpa using h1) (fun i x y hx hy=>(Ztr (h2 i y x (by simpa using hy) hx) μ).1),by simp⟩
 | _=>exact Ztr (by simpa only [ofC] using h) μ
theorem Zdd{P:Program}{t:TypeId}{v:AV}(h:zeroOf P t=some v)(μ:Mu):∃ i z,P.info? t=some i/\i.zero=some z/\VR μ v z/\v≠.undef:=by
 unfold zeroOf at h
 obtain⟨z,hz,hv⟩:=Qa.1 h
 obtain⟨i,hi,hiz⟩:=Qa.1 hz
 obtain⟨h1,h2⟩:=Zk0 hv μ
 exact⟨i,z,hi,hiz,h1,h2⟩
theorem VR.slice_inv{μ:Mu}{h:Hdl}{c:Value}(hv:VR μ (.slice h) c):∃ a len cap,c=.slice a len cap/\len=h.len/\len<=cap/\(∀ x,h.cap=some x->x=cap) /\
  ((h.a=none/\a=none/\cap=0)\/(∃ b o ad,h.a=some (b,o)/\a=some ad/\cap=0)\/∃ b o L,h.a=some (b,o)/\μ b=some L/\a=some ⟨L.blk,L.off+o,none⟩/\o+cap*L.es<=L.N):=by
 cases hv with
 | slN h=>exact⟨_,_,_,rfl,rfl,Qh _,h,.inl ⟨rfl,rfl,rfl⟩⟩
 | @sl b o L len cap c h hc hl hN=>exact⟨_,_,_,rfl,rfl,hl,hc,.inr (.inr ⟨b,o,L,rfl,h,rfl,hN⟩)⟩
 | @sl0 b o c a h=>exact⟨_,_,_,rfl,rfl,Qh _,h,.inr (.inl ⟨b,o,a,rfl,rfl,rfl⟩)⟩
theorem Zhy{P:Program}{μ:Mu}{σ:Store}{w:World}(h:Rel μ σ w){g:Hdl}{es:Nat}{xs:List AV}(hr:σ.readSl g es=some xs){x:Value}(vx:VR μ (.slice g) x) :
  ∃ cs:List Value,cs.length=g.len*es/\VL μ xs cs/\∀ w':World,w'.heap=w.heap->(Builtin.firstCells es g.len x).run P w'=.ok cs.toArray w':=by
 obtain⟨a,len,cap,rfl,rfl,hl,hc,hcase⟩:=vx.slice_inv
 unfold Store.readSl at hr
 by_cases h0:g.len=0
 ·rw [if_pos h0] at hr
  injection hr with hr; subst hr
  refine⟨[],by simp [h0],VL.nil _,fun w' _=>?_⟩
  rw [h0]
  cases a with
  | none=>exact run_firstCells_none w' es 0 0 cap
  | some a=>exact run_firstCells_some w' es 0 a 0 cap [] (by simp) (fun j v hj=>by simp at hj)
 ·rw [if_neg h0] at hr
  rcases hcase with ⟨_,_,rfl⟩ | ⟨_,_,_,_,_,rfl⟩ | ⟨b,o,L,hga,hb,rfl,hN⟩
  ·omega
  ·omega
  ·rw [hga] at hr
   simp only at hr
   cases ho:σ.objs[b]? with
   | none=>simp [ho] at hr
   | some ob=>
    cases ob with
    | map l=>simp [ho] at hr
    | loop _ _ _ _ _ _=>simp [ho] at hr
    | dead=>simp [ho] at hr
    | cells l rw es'=>
     simp only [ho] at hr
     split at hr
     ·rename_i hfit
      injection hr with hr; subst hr
      obtain⟨cs,hcl,hcv,hcc⟩:=h.row ho hb o (g.len*es) hfit
      refine⟨cs,hcl,hcv,fun w' hw=>run_firstCells_some w' es g.len _ g.len cap cs hcl (fun j v hj=>?_)⟩
      have hjl:j<g.len*es:=by rw [<-hcl]; exact (Qc.1 hj).1
      rw [Addr.add_lit,Zy (congrArg (·[L.blk]?) hw),hcc j hjl,hj]
     ·exact absurd hr (by simp)
theorem Ziu(w:World)(need old:Nat)(e:TypeId):need<=grownCap w need old e:=by simp [grownCap,Question.cut]
theorem Zv9{P:Program}{μ:Mu}{σ σ':Store}{w:World}(h:Rel μ σ w){t t' e e' ty:TypeId}(ht:P.underlying t=some (.slice e))(ht':P.underlying t'=some (.slice e')){es by_:Nat}
  (hes:szOf P e=some es) (hby:byOf P e=some by_) (hz:(zeroCells P e).map Qa1=some es) {hd hd' g:Hdl} {xs:List AV} {s x:Value} (vs:VR μ (.slice hd) s) (vx:VR μ (.slice g) x)
  (hr:σ.readSl g es=some xs) (ha:σ.app hd es by_ xs g.len=some (hd',σ')) :
  ∃ μ' w' c,(Builtin.append_ #[t,t'] ty #[s,x]).run P w=.ok c w'/\Ste μ σ w μ' σ' w'/\VR μ' (.slice hd') c:=by
 obtain⟨zs,hzs,hzl⟩:=Qg.1 hz
 unfold zeroCells at hzs
 obtain⟨zv,hzv,rfl⟩:=Qg.1 hzs
 obtain⟨i,z,hi,hiz,hvz,hzu⟩:=Zdd hzv μ
 have hzsz:z.cells.size=es:=by rw [<-hzl]; have:=(hvz.cells hzu).1; simpa using this.symm
 have hsz:i.size=es:=by simp [szOf,hi] at hes; exact hes
 have hbs:i.bytes=by_:=by simp [byOf,hi] at hby; exact hby
 obtain⟨cs,hcl,hcv,hfirst⟩:=Zhy (P:=P) h hr vx
 obtain⟨ga,glen,gcap,rfl,rfl,hgl,_,_⟩:=vx.slice_inv
 obtain⟨a,len,cap,rfl,rfl,hl,hc,hcase⟩:=vs.slice_inv
 have hf0:=hfirst w rfl
 have hf1:=hfirst w.drew rfl
 unfold Store.app at ha
 by_cases hm:g.len=0
 ·rw [if_pos hm] at ha
  injection ha with ha
  simp only [Prod.mk.injEq] at ha
  obtain⟨rfl,rfl⟩:=ha
  have hcs:cs=[]:=Qo (by rw [hcl,hm]; simp)
  subst hcs
  refine⟨μ,w,.slice a hd.len cap,?_,Ste.refl h,vs⟩
  rw [hm] at hf0 ⊢
  cases a with
  | none=>simp [Builtin.append_,run_underlying ht,run_underlying ht',sizeOf,typeInfo,hi,hsz,Builtin.lenOf,hl,hf0]
  | some a=>simp [Builtin.append_,run_underlying ht,run_underlying ht',sizeOf,typeInfo,hi,hsz,Builtin.lenOf,hl,hf0,storeCells]
 ·rw [if_neg hm] at ha
  split at ha
  case isFalse=>exact absurd ha (by simp)
  rename_i hbd
  obtain⟨hbound,hby0,hxl,hone⟩:=hbd
  rw [<-hbs] at hbound
  have grow:∀ (μ1:Mu) (σ1:Store) (old:List AV) (olds:List Value),Ste μ σ w μ1 σ1 w->VL μ1 old olds->olds.length=hd.len*es ->
    (∀ w':World,w'.heap=w.heap->(Builtin.firstCells es hd.len (.slice a hd.len cap)).run P w'=.ok olds.toArray w')->cap<hd.len+g.len->μ1=μ ->
    ∃ μ' w' c,(Builtin.append_ #[t,t'] ty #[.slice a hd.len cap,.slice ga g.len gcap]).run P w=.ok c w'/\Ste μ σ w μ' (σ1.push (old++xs) es) w'/\VR μ' (.slice ⟨some (σ1.objs.length,0),hd.len+g.len,none⟩) c:=by
   intro μ1 σ1 old olds hs1 hvo hol hfo hcap he
   subst he
   have hn:¬ (hd.len+g.len<=cap):=by omega
   have hle:hd.len+g.len<=140737488355328:=Q5 (Nat.le_mul_of_pos_right _ (by omega)) hbound
   have h63:¬ (9223372036854775807<((hd.len:Int)+(g.len:Int))):=by omega
   have h48:¬ (281474976710656<Builtin.nextslicecap (hd.len+g.len) cap*i.bytes):=by have:=growslice_fits (bytes:=i.bytes) hcap hbound; omega
   have hfo1:=hfo w.drew rfl
   have hge:=Ziu w (hd.len+g.len) cap e
   refine⟨_,_,.slice (some ⟨w.heap.size,0,none⟩) (hd.len+g.len) (grownCap w (hd.len+g.len) cap e),?_,(hs1.trans (Ste.drew hs1.rel)).trans (Ste.push (w:=w.drew) (Ste.drew hs1.rel).rel (cs:=olds.toArray++cs.toArray++Builtin.zeroCells z.cells (grownCap w (hd.len+g.len) cap e-(hd.len+g.len))) (l:=old++xs) ?_ ?_ es e (0,0) (Thaw.zero _)),?_⟩
   ·simp [Builtin.append_,run_underlying ht,run_underlying ht',sizeOf,typeInfo,zeroValue,hi,hiz,hsz,Builtin.lenOf,hn,h63,h48,Question.forced,hf1,hfo1,newRow,grownCap]
    congr 2
    apply QZ
    simp [QH]
   ·have e1:(olds.toArray++cs.toArray++Builtin.zeroCells z.cells (grownCap w (hd.len+g.len) cap e-(hd.len+g.len))).toList=(olds++cs)++(Builtin.zeroCells z.cells (grownCap w (hd.len+g.len) cap e-(hd.len+g.len))).toList:=by simp
    rw [e1,QM (by simp [hvo.1,hcv.1]),Ql (by simp [hvo.1,hcv.1])]
    exact hvo.append hcv
   ·simp [hvo.1,hcv.1]
   ·refine VR.sl (L:=⟨w.heap.size,0,_,es⟩) (o:=0) (Mu.up_self _ _ _) (by simp) hge ?_
    simp only [Array.size_append,Qak,size_zeroCells,hol,hcl,hzsz]
    rw [<-Qx,<-Qx]
    have:hd.len+g.len+(grownCap w (hd.len+g.len) cap e-(hd.len+g.len))=grownCap w (hd.len+g.len) cap e:=by omega
    rw [this]; omega
  rcases hcase with ⟨hha,rfl,rfl⟩ | ⟨b,o,ad,hha,rfl,rfl⟩ | ⟨b,o,L,hha,hb,rfl,hN⟩
  ·have hl0:hd.len=0:=by omega
   rw [hha] at ha
   injection ha with ha
   simp only [Prod.mk.injEq] at ha
   obtain⟨rfl,rfl⟩:=ha
   have:=grow μ σ [] [] (Ste.refl h) (VL.nil _) (by simp [hl0]) (fun w' _=>run_firstCells_none w' es _ _ _) (by omega) rfl
   rw [hl0] at this
   simpa [hl0] using this
  ·have hl0:hd.len=0:=by omega
   have hc0:∀ x,hd.cap=some x->x=0:=hc
   rw [hha] at ha
   simp only at ha
   cases ho:σ.objs[b]? with
   | none=>simp [ho] at ha
   | some ob=>
    cases ob with
    | map l=>simp [ho] at ha
    | loop _ _ _ _ _ _=>simp [ho] at ha
    | dead=>simp [ho] at ha
    | cells l rw es'=>
     simp only [ho] at ha
     split at ha
     case isFalse=>exact absurd ha (by simp)
     rename_i hfit
     obtain⟨hfit,rfl⟩:=hfit
     have hold:(l.drop o).take (hd.len*es')=[]:=by simp [hl0]
     rw [hold] at ha
     have hfo:∀ w':World,w'.heap=w.heap->(Builtin.firstCells es' hd.len (.slice (some ad) hd.len 0)).run P w'=.ok ([]:List Value).toArray w':=fun w' _=>by
      rw [hl0]; exact run_firstCells_some w' es' 0 ad 0 0 [] (by simp) (fun j v hj=>by simp at hj)
     cases hcc:hd.cap with
     | some c=>
      have:=hc0 c hcc; subst this
      simp only [hcc] at ha
      rw [if_neg (by omega)] at ha
      injection ha with ha
      simp only [Prod.mk.injEq] at ha
      obtain⟨rfl,rfl⟩:=ha
      exact grow μ σ [] [] (Ste.refl h) (VL.nil _) (by simp [hl0]) hfo (by omega) rfl
     | none=>
      simp only [hcc] at ha
      split at ha
      case isFalse=>exact absurd ha (by simp)
      rename_i hrw
      injection ha with ha
      simp only [Prod.mk.injEq] at ha
      obtain⟨rfl,rfl⟩:=ha
      have:=grow μ _ [] [] (Ste.kill h ho hrw.2) (VL.nil _) (by simp [hl0]) hfo (by omega) rfl
      simpa [Store.push] using this
  ·rw [hha] at ha
   simp only at ha
   cases ho:σ.objs[b]? with
   | none=>simp [ho] at ha
   | some ob=>
    cases ob with
    | map l=>simp [ho] at ha
    | loop _ _ _ _ _ _=>simp [ho] at ha
    | dead=>simp [ho] at ha
    | cells l rw es'=>
     simp only [ho] at ha
     split at ha
     case isFalse=>exact absurd ha (by simp)
     rename_i hfit
     obtain⟨hfit,rfl⟩:=hfit
     obtain⟨hLes,hlN,_⟩:=h.cells b l rw es' L ho hb
     obtain⟨olds,hol,hov,hoc⟩:=h.row ho hb o (hd.len*es') hfit
     have hfo:∀ w':World,w'.heap=w.heap->(Builtin.firstCells es' hd.len (.slice (some ⟨L.blk,L.off+o,none⟩) hd.len cap)).run P w'=.ok olds.toArray w':=fun w' hw=>
      run_firstCells_some w' es' hd.len _ hd.len cap olds hol (fun j v hj=>by
       have hjl:j<hd.len*es':=by rw [<-hol]; exact (Qc.1 hj).1
       rw [Addr.add_lit,Zy (congrArg (·[L.blk]?) hw),hoc j hjl,hj])
     have inpl:hd.len+g.len<=cap->rw=true->σ.prot<=b->∃ w',(Builtin.append_ #[t,t'] ty #[.slice (some ⟨L.blk,L.off+o,none⟩) hd.len cap,.slice ga g.len gcap]).run P w=.ok (.slice (some ⟨L.blk,L.off+o,none⟩) (hd.len+g.len) cap) w' /\
       Ste μ σ w μ { σ with objs:=σ.objs.set b (.cells (l.take (o+hd.len*es')++xs++l.drop (o+(hd.len+g.len)*es')) true es') } w':=by
      intro hin hrw hp
      subst hrw
      have e1:o+(hd.len+g.len)*es'=o+hd.len*es'+xs.length:=by rw [hxl,Qx]; omega
      have hfitN:o+hd.len*es'+xs.length<=L.N:=by
       rw [<-e1]
       have:(hd.len+g.len)*es'<=cap*es':=Q4 _ hin
       rw [hLes] at hN; omega
      obtain⟨w',hrun,hst⟩:=Zrp (P:=P) h ho hp hb hfit hfitN hcv hone
      refine⟨w',?_,by rw [e1]; exact hst⟩
      rw [<-Q0] at hrun
      simp [Builtin.append_,run_underlying ht,run_underlying ht',sizeOf,typeInfo,hi,hsz,Builtin.lenOf,hin,hf0,Addr.add_lit,hrun]
     cases hcc:hd.cap with
     | some c=>
      have:=hc c hcc; subst this
      simp only [hcc] at ha
      split at ha
      ·rename_i hin
       split at ha
       case isFalse=>exact absurd ha (by simp)
       rename_i hcond
       injection ha with ha
       simp only [Prod.mk.injEq] at ha
       obtain⟨rfl,rfl⟩:=ha
       obtain⟨w',hrun,hst⟩:=inpl hin hcond.1 hcond.2.1
       exact⟨μ,w',_,hrun,hst,.sl hb (by simp) hin hN⟩
      ·rename_i hnin
       injection ha with ha
       simp only [Prod.mk.injEq] at ha
       obtain⟨rfl,rfl⟩:=ha
       exact grow μ σ _ olds (Ste.refl h) hov hol hfo (by omega) rfl
     | none=>
      simp only [hcc] at ha
      split at ha
      case isFalse=>exact absurd ha (by simp)
      rename_i hrw
      injection ha with ha
      simp only [Prod.mk.injEq] at ha
      obtain⟨rfl,rfl⟩:=ha
      by_cases hin:hd.len+g.len<=cap
      ·obtain⟨w',hrun,hst⟩:=inpl hin hrw.1 hrw.2
       have hlt:b<σ.objs.length:=(Qc.1 ho).1
       have hxx:o+hd.len*es'+xs.length<=L.N:=by
        have:(hd.len+g.len)*es'<=cap*es':=Q4 _ hin
        rw [hLes] at hN; rw [hxl]; rw [Qx] at this; omega
       have hlen2:((l.drop o).take (hd.len*es')++xs).length=hd.len*es'+xs.length:=by simp; omega
       have hren:=Ste.rename (l2:=(l.drop o).take (hd.len*es')++xs) (o:=o) hst.rel (b:=b) (l:=l.take (o+hd.len*es')++xs++l.drop (o+(hd.len+g.len)*es')) (es:=es') (L:=L) (by simp [hlt]) hrw.2 hb ?_ (by rw [hlen2]; omega)
       ·refine⟨_,w',_,hrun,hst.trans (by simpa using hren),?_⟩
        refine VR.sl (L:=⟨L.blk,L.off+o,L.N-o,es'⟩) (o:=0) (by simp [Mu.up]) (by simp) hin ?_
        rw [hLes] at hN; dsimp only; omega
       ·intro j v hj
        have htk:(l.take (o+hd.len*es')).length=o+hd.len*es':=by simp; omega
        have hdt:((l.drop o).take (hd.len*es')).length=hd.len*es':=by simp; omega
        rw [QH]
        by_cases c1:j<hd.len*es'
        ·rw [Qe (by omega),Qv,if_pos c1,QE] at hj
         rw [Qe (by omega),Qv,if_pos (by omega)]
         exact hj
        ·rw [Qf (by omega),hdt] at hj
         have hjx:=(Qc.1 hj).1
         rw [Qf (by omega),htk,Qe (by omega),show o+j-(o+hd.len*es')=j-hd.len*es' by omega]
         exact hj
      ·have:=grow μ _ _ olds (Ste.kill h ho hrw.2) hov hol hfo (by omega) rfl
       simpa [Store.push] using this
end Go.Ab

namespace Go.Ab
open Go Go.RowKit
def FrR(nt:Nat)(μ:Mu)(φ:Fr)(a:Act):Prop:=(∀ t v,φ.get t=some v->VR μ v (a.tmps.getD t undef))/\nt<=a.tmps.size
theorem FrR.mono{nt:Nat}{μ μ':Mu}{φ:Fr}{a:Act}(h:FrR nt μ φ a)(hm:∀ b L,μ b=some L->μ' b=some L):FrR nt μ' φ a:=⟨fun t v ht=>(h.1 t v ht).mono hm,h.2⟩
theorem Fr.get_cons(i:Nat)(v:AV)(r:Fr)(t:Nat):Fr.get ((i,v)::r) t=if i=t then some v else r.get t:=by
 simp only [Fr.get]
 by_cases e:i=t
 ·subst e; simp
 ·rw [if_neg e]
  have:Qi i t=false:=by
   cases hb:Qi i t with
   | false=>rfl
   | true=>exact absurd (Qp hb) e
  simp [this]
theorem FrR.put{nt:Nat}{μ:Mu}{φ:Fr}{a:Act}(h:FrR nt μ φ a){d:Nat}(hd:d<nt){v:AV}{c:Value}(hv:VR μ v c):FrR nt μ ((d,v)::φ) (a.put (some d) c):=by
 refine⟨fun t u ht=>?_,by simpa [Act.put] using h.2⟩
 rw [Fr.get_cons] at ht
 simp only [Act.put,Qs]
 by_cases e:d=t
 ·rw [if_pos e] at ht; injection ht with ht; subst ht e
  have:d<a.tmps.size:=Qy hd h.2
  simp [this,hv]
 ·rw [if_neg e] at ht
  have:=h.1 t u ht
  rw [QN,if_neg e,<-Qs]
  exact this
theorem FrR.ev{nt:Nat}{μ:Mu}{φ:Fr}{a:Act}(h:FrR nt μ φ a){x:Operand}{v:AV}(hx:φ.ev x=some v):VR μ v (a.eval x):=by
 cases x with
 | tmp t=>exact h.1 t v hx
 | const c=>exact (Zk0 hx μ).1
 | func f=>simp only [Fr.ev] at hx; injection hx with hx; subst hx; exact .func rfl rfl (fun i x y hx=>by simp at hx) (fun i x y hx=>by simp at hx)
 | global g=>simp [Fr.ev] at hx
theorem FrR.evs{nt:Nat}{μ:Mu}{φ:Fr}{a:Act}(h:FrR nt μ φ a){l:List Operand}{vs:List AV}(hx:φ.evs l=some vs):VL μ vs (l.map a.eval):=by
 obtain⟨h1,h2⟩:=Zc9 hx
 refine⟨by simpa using h1,fun i v c hv hc=>?_⟩
 rw [QT] at hc
 obtain⟨x,hx',rfl⟩:=Qg.1 hc
 exact h.ev (h2 i x v hx' hv)
def Qt(σ σ':Store)(w w':World):Prop:=(∀ b,b<σ.objs.length->σ'.objs[b]?=σ.objs[b]?)/\∀ c,c<w.heap.size->w'.heap[c]?=w.heap[c]?
theorem Qt.refl(σ:Store)(w:World):Qt σ σ w w:=⟨fun _ _=>rfl,fun _ _=>rfl⟩
theorem Qt.push(σ:Store)(w:World)(l:List AV)(es:Nat)(o:Obj):Qt σ (σ.push l es) w (w.alloc o):=
 ⟨fun b hb=>by simp only [Store.push]; rw [Qe hb],fun c hc=>Below.heap_alloc w o c hc⟩
def Does{R:Type}(eff:Bool)(P:Program)(μ:Mu)(σ:Store)(w:World)(K:AV->Store->Option R)(r:R)(s:Sem Next):Prop:=
 ∃ v σ' μ' w' c,K v σ'=some r/\(s.run P w=.ok (.value c) w'\/(s.run P w=.ok .skip w'/\c=undef))/\(Ste μ σ w μ' σ' w'/\(eff=false->Qt σ σ' w w'))/\VR μ' v c
theorem Does.quiet{R:Type}{eff:Bool}{P:Program}{μ:Mu}{σ:Store}{w:World}{K:AV->Store->Option R}{r:R}{s:Sem Next}(h:Rel μ σ w){v:AV}{c:Value}(hK:K v σ=some r)(hs:s.run P w=.ok (.value c) w)(hv:VR μ v c) :
  Does eff P μ σ w K r s:=⟨v,σ,μ,w,c,hK,.inl hs,⟨Ste.refl h,fun _=>Qt.refl _ _⟩,hv⟩
section
variable {R:Type} {P:Program} {Γ:Gam} {μ:Mu} {σ:Store} {w:World} {φ:Fr} {a:Act} {K:AV->Store->Option R} {r:R} {nt:Nat} {q:Bool} {ty:TypeId}
theorem VR.int_inv{k:IntKind}{n:Int}{c:Value}(h:VR μ (.int k n) c):c=.int k n:=by cases h; rfl
theorem VR.bool_inv{b:Bool}{c:Value}(h:VR μ (.bool b) c):c=.bool b:=by cases h; rfl
theorem VR.str_inv{b:ByteArray}{c:Value}(h:VR μ (.str b) c):c=.string b:=by cases h; rfl
theorem Zsy(hF:FrR nt μ φ a)(hR:Rel μ σ w){x:Operand}(h:(φ.ev x).bind (fun v=>K v σ)=some r){o:Oper}(ho:o.op=.move x\/o.op=.assign x):Does false P μ σ w K r (execOp a.eval o):=by
 obtain⟨v,hv,hK⟩:=Qa.1 h
 refine Does.quiet hR hK ?_ (hF.ev hv)
 rcases ho with ho | ho <;> (simp only [execOp,ho]; rfl)
theorem Z1l(hF:FrR nt μ φ a)(hR:Rel μ σ w){c x y:Operand}(h:evOp P Γ q ty φ σ K (.pick c x y)=some r){o:Oper}(ho:o.op=.pick c x y):Does false P μ σ w K r (execOp a.eval o):=by
 simp only [evOp] at h
 split at h
 ·rename_i t ht
  have hc:=(hF.ev ht).bool_inv
  by_cases e:t=true
  ·rw [if_pos e] at h
   obtain⟨v,hv,hK⟩:=Qa.1 h
   exact Does.quiet hR hK (by simp [execOp,ho,hc,e,asBool]) (hF.ev hv)
  ·rw [if_neg e] at h
   obtain⟨v,hv,hK⟩:=Qa.1 h
   exact Does.quiet hR hK (by simp [execOp,ho,hc,e,asBool]) (hF.ev hv)
 ·exact absurd h (by simp)
theorem Zdi{v:AV}{c:Value}(hv:VR μ v c)(hu:v≠.undef):VL μ v.cells (c.cells.toList.take v.cells.length)/\v.cells.length<=c.cells.size:=by
 have hl:=hv.cells hu
 refine⟨?_,by rw [hl.1]; simp⟩
 rw [Ql (by rw [hl.1]; simp)]; exact hl
def Lays(P:Program)(μ:Mu)(w:World)(s:Sem Next)(l:List AV)(es:Nat)(mk:Nat->AV):Prop:=
 (mk=(fun n=>.ptr (some (n,0)))\/∃ len cap,mk=fun n=>.slice ⟨some (n,0),len,cap⟩) /\
 ∃ (w1:World) (fz:Nat×Nat) (cs:Array Value) (ty:TypeId) (c:Value),(w1=w\/w1=w.drew)/\Thaw fz cs.size/\s.run P w=.ok (.value c) (w1.alloc (.cells cs ty fz))/\VL μ l (cs.toList.take l.length)/\l.length<=cs.size /\
  ∀ (μ':Mu) (n:Nat),μ' n=some ⟨w.heap.size,0,cs.size,es⟩->VR μ' (mk n) c
theorem Lays.does(hR:Rel μ σ w){s:Sem Next}{l:List AV}{es:Nat}{mk:Nat->AV}(h:Lays P μ w s l es mk)(hK:K (mk σ.objs.length) (σ.push l es)=some r):Does false P μ σ w K r s:=by
 obtain⟨_,w1,fz,cs,ty,c,hw,hz,hrun,hv,hl,hc⟩:=h
 rcases hw with rfl | rfl
 ·exact⟨_,_,_,_,c,hK,.inl hrun,⟨Ste.push hR hv hl es ty fz hz,fun _=>Qt.push ..⟩,hc _ _ (Mu.up_self _ _ _)⟩
 ·exact⟨_,_,_,_,c,hK,.inl hrun,⟨(Ste.drew hR).trans (Ste.push (Ste.drew hR).rel hv hl es ty fz hz),fun _=>Qt.push σ w.drew l es _⟩,hc _ _ (Mu.up_self _ _ _)⟩
theorem Zne{k:IntKind}:∀ {n:Nat} {l:List AV},isRepl k n l=true->l=Qu n (.int k 0)
 | 0,[],_=>rfl
 | 0,_::_,h=>by simp [isRepl] at h
 | n+1,[],h=>by simp [isRepl] at h
 | n+1,v::l,h=>by
  cases v with
  | int k' m=>
   simp only [isRepl,Q6,decide_eq_true_eq] at h
   rw [Zne h.2,h.1.1,h.1.2]; rfl
  | _=>simp [isRepl] at h
theorem Zy7{t:TypeId}{k:IntKind}{n:Nat}(h:zeroIs P t k n=true):zeroCells P t=some (Qu n (.int k 0)):=by
 unfold zeroIs at h
 split at h
 ·rename_i l hl; rw [hl,Zne h]
 ·cases h
theorem Zkn{t:TypeId}(h:evOp P Γ q ty φ σ K (.alloc t)=some r){o:Oper}(ho:o.op=.alloc t):∃ l es mk,K (mk σ.objs.length) (σ.push l es)=some r/\Lays P μ w (execOp a.eval o) l es mk:=by
 simp only [evOp] at h
 obtain⟨l,es,hl,hK⟩:∃ l es,zeroCells P t=some l/\K (.ptr (some (σ.objs.length,0))) (σ.push l es)=some r:=by
  split at h
  ·split at h
   ·rename_i hz; exact⟨_,_,Zy7 hz,h⟩
   ·exact absurd h (by simp)
  ·obtain⟨l,hl,hK⟩:=Qa.1 h; exact⟨l,_,hl,hK⟩
 clear h
 unfold zeroCells at hl
 obtain⟨v,hv,rfl⟩:=Qg.1 hl
 obtain⟨i,z,hi,hz,hvz,hu⟩:=Zdd hv μ
 refine⟨_,_,fun n=>.ptr (some (n,0)),hK,.inl rfl,w,(0,0),_,t,.pointer (some ⟨w.heap.size,0,none⟩),.inl rfl,Thaw.zero _,?_,(Zdi hvz hu).1,(Zdi hvz hu).2,fun μ' n h=>?_⟩
 ·simp [execOp,ho,Instr.alloc,zeroValue,typeInfo,hi,hz,newVar,newRow]
 ·exact .ptr (L:=⟨w.heap.size,0,_,_⟩) (o:=0) h
theorem Zzj(hR:Rel μ σ w){t:TypeId}(h:evOp P Γ q ty φ σ K (.alloc t)=some r){o:Oper}(ho:o.op=.alloc t):Does false P μ σ w K r (execOp a.eval o):=by
 obtain⟨l,es,mk,hK,hl⟩:=Zkn h ho
 exact hl.does hR hK
theorem Zqn(hF:FrR nt μ φ a){t:TypeId}{x:Operand}(h:evOp P Γ q ty φ σ K (.box t x)=some r){o:Oper}(ho:o.op=.box t x):∃ l es mk,K (mk σ.objs.length) (σ.push l es)=some r/\Lays P μ w (execOp a.eval o) l es mk:=by
 simp only [evOp] at h
 obtain⟨v,hv,hK⟩:=Qa.1 h
 split at hK
 ·exact absurd hK (by simp)
 ·rename_i hu
  have hu':v≠.undef:=by intro e; subst e; simp [AV.isU] at hu
  refine⟨_,_,fun n=>.ptr (some (n,0)),hK,.inl rfl,w,(0,0),_,t,.pointer (some ⟨w.heap.size,0,none⟩),.inl rfl,Thaw.zero _,?_,(Zdi (hF.ev hv) hu').1,(Zdi (hF.ev hv) hu').2,fun μ' n h=>?_⟩
  ·simp [execOp,ho,Instr.box,newVar,newRow]
  ·exact .ptr (L:=⟨w.heap.size,0,_,_⟩) (o:=0) h
theorem Z4g(hF:FrR nt μ φ a)(hR:Rel μ σ w){t:TypeId}{x:Operand}(h:evOp P Γ q ty φ σ K (.box t x)=some r){o:Oper}(ho:o.op=.box t x):Does false P μ σ w K r (execOp a.eval o):=by
 obtain⟨l,es,mk,hK,hl⟩:=Zqn hF h ho
 exact hl.does hR hK
theorem Z1k(hF:FrR nt μ φ a)(hR:Rel μ σ w){t:TypeId}{x:Operand}(h:evOp P Γ q ty φ σ K (.load t x)=some r){o:Oper}(ho:o.op=.load t x):Does false P μ σ w K r (execOp a.eval o):=by
 simp only [evOp] at h
 split at h
 ·rename_i p hp
  have hvp:=hF.ev hp
  rcases hvp.ptr_inv with ⟨rfl,he⟩ | ⟨b,off,L,rfl,hb,he⟩
  ·exact (Zib h).elim
  ·rw [he] at hvp
   obtain⟨v,c,hK,hrun,hv⟩:=Zhk hR h hvp
   exact Does.quiet hR hK (by simp [execOp,ho,Instr.loadAt,Instr.sureAddr,he,hrun]) hv
 ·exact absurd h (by simp)
theorem Zzp(hF:FrR nt μ φ a)(hR:Rel μ σ w){t:TypeId}{x y:Operand}(h:evOp P Γ q ty φ σ K (.store t x y)=some r){o:Oper}(ho:o.op=.store t x y):Does true P μ σ w K r (execOp a.eval o):=by
 simp only [evOp] at h
 split at h
 ·rename_i p v hp hv
  split at h
  case isFalse=>exact absurd h (by simp)
  rename_i hsz
  obtain⟨σ',hst,hK⟩:=Qa.1 h
  have hvp:=hF.ev hp
  have hvv:=hF.ev hv
  by_cases hu:v=.undef
  ·subst hu
   simp only [AV.cells,Store.stL] at hst
   obtain⟨σ1,h1,_⟩:=Qa.1 hst
   exfalso
   cases p with
   | none=>simp [Store.st,Ptr.add] at h1
   | some p=>
    simp only [Store.st,Ptr.add,Qn] at h1
    split at h1
    ·rw [if_neg (by simp [AV.one])] at h1; exact absurd h1 (by simp)
    ·exact absurd h1 (by simp)
  ·have hcl:=hvv.cells hu
   have hsize:(a.eval y).cells.size=v.cells.length:=by rw [hcl.1]; simp
   rcases hvp.ptr_inv with ⟨rfl,he⟩ | ⟨b,off,L,rfl,hb,he⟩
   ·exfalso
    cases hc:v.cells with
    | nil=>rw [hc] at hsz; simp at hsz
    | cons c cs=>rw [hc] at hst; simp [Store.stL,Ptr.add,Store.st] at hst
   ·rw [he] at hvp
    obtain⟨w',hrun,hste⟩:=Zn2 (P:=P) v.cells hR hst hvp hcl
    refine⟨_,_,_,w',undef,hK,.inr ⟨?_,rfl⟩,⟨hste,fun e=>by cases e⟩,.undef _⟩
    simp [execOp,ho,Instr.storeAt,Instr.sureAddr,he,storeVar,Zm hsz.1,hsize,hrun]
 ·exact absurd h (by simp)
end
end Go.Ab

namespace Go.Ab
open Go Go.RowKit
section
variable {R:Type} {P:Program} {Γ:Gam} {μ:Mu} {σ:Store} {w:World} {φ:Fr} {a:Act} {K:AV->Store->Option R} {r:R} {nt:Nat} {q:Bool} {ty:TypeId}
theorem Zr1(hF:FrR nt μ φ a)(hR:Rel μ σ w){x:Operand}(h:evOp P Γ q ty φ σ K (.nilCheck x)=some r){o:Oper}(ho:o.op=.nilCheck x):Does false P μ σ w K r (execOp a.eval o):=by
 simp only [evOp] at h
 split at h
 ·rename_i p hp
  have hvp:=hF.ev hp
  rcases hvp.ptr_inv with ⟨rfl,he⟩ | ⟨b,off,L,rfl,hb,he⟩
  ·exact absurd h (by simp)
  ·rw [he] at hvp
   exact Does.quiet hR h (by simp [execOp,ho,he]) hvp
 ·exact absurd h (by simp)
theorem Zwg(op:BinOp)(k:IntKind)(x y:Int)(h:op=.and\/op=.or\/op=.xor\/op=.andNot):Op.intBits op k x y=pure (.int k (bitOp op k x y)):=by
 rcases h with rfl | rfl | rfl | rfl <;> rfl
theorem Zxe{op:BinOp}{t:TypeId}{k:IntKind}{x y:Int}{K:AV->Option R}(h:intOp op k x y K=some r)(X Y:Operand):∃ v c,K v=some r/\(do eqGuard op t X Y (.int k x) (.int k y); binOp op t (.int k x) (.int k y):Sem Value).run P w=.ok c w/\VR μ v c:=by
 cases op with
 | add=>exact⟨_,_,h,by simp [go_sem],.int _ _⟩
 | sub=>exact⟨_,_,h,by simp [go_sem],.int _ _⟩
 | mul=>exact⟨_,_,h,by simp [go_sem],.int _ _⟩
 | quo=>
  simp only [intOp] at h
  split at h
  ·exact absurd h (by simp)
  ·rename_i h0; exact⟨_,_,h,by simp [go_sem,h0],.int _ _⟩
 | rem=>
  simp only [intOp] at h
  split at h
  ·exact absurd h (by simp)
  ·rename_i h0; exact⟨_,_,h,by simp [go_sem,h0],.int _ _⟩
 | and=>exact⟨_,.int k (bitOp .and k x y),h,by simp [go_sem,bitOp,bits],.int _ _⟩
 | or=>exact⟨_,.int k (bitOp .or k x y),h,by simp [go_sem,bitOp,bits],.int _ _⟩
 | xor=>exact⟨_,.int k (bitOp .xor k x y),h,by simp [go_sem,bitOp,bits],.int _ _⟩
 | andNot=>exact⟨_,.int k (bitOp .andNot k x y),h,by simp [go_sem,bitOp,bits],.int _ _⟩
 | shl=>simp [intOp] at h
 | shr=>simp [intOp] at h
 | eql=>exact⟨_,.bool (decide (x=y)),h,by simp [go_sem]; rfl,.bool _⟩
 | neq=>exact⟨_,.bool (decide (x≠y)),h,by simp [go_sem]; rfl,.bool _⟩
 | lss=>exact⟨_,_,h,by simp [go_sem],.bool _⟩
 | leq=>exact⟨_,_,h,by simp [go_sem],.bool _⟩
 | gtr=>exact⟨_,_,h,by simp [go_sem],.bool _⟩
 | geq=>exact⟨_,_,h,by simp [go_sem],.bool _⟩
theorem Zuv{t:TypeId}{x y:AV}{b:Bool}(h:eq1 (P.underlying t) x y=some b){cx cy:Value}(hx:VR μ x cx)(hy:VR μ y cy)(d:Nat):(Op.equalIn (d+1) t cx cy).run P w=.ok b w:=by
 unfold eq1 at h
 split at h
 ·split at h
  ·rename_i hu
   injection h with h; subst h
   obtain rfl:=hx.bool_inv
   obtain rfl:=hy.bool_inv
   simp [Op.equalIn,run_underlying hu]
  ·exact absurd h (by simp)
 ·split at h
  ·rename_i hu
   injection h with h; subst h
   rcases hx.ptr_inv with ⟨rfl,rfl⟩ | ⟨_,_,_,rfl,_,rfl⟩ <;> cases hy <;> simp [Op.equalIn,run_underlying hu]
  ·exact absurd h (by simp)
 ·split at h
  ·rename_i hu
   injection h with h; subst h
   rcases hy.ptr_inv with ⟨rfl,rfl⟩ | ⟨_,_,_,rfl,_,rfl⟩ <;> cases hx <;> simp [Op.equalIn,run_underlying hu]
  ·exact absurd h (by simp)
 ·split at h
  ·rename_i hu
   injection h with h; subst h
   obtain⟨a,len,cap,rfl,rfl,_,_,hc⟩:=hx.slice_inv
   obtain⟨a',len',cap',rfl,e1,_,_,hc'⟩:=hy.slice_inv
   rcases hc' with ⟨_,rfl,rfl⟩ | ⟨_,_,_,e,_⟩ | ⟨_,_,_,e,_⟩
   ·rcases hc with ⟨e,rfl,_⟩ | ⟨_,_,_,e,rfl,_⟩ | ⟨_,_,_,e,_,rfl,_⟩ <;> rw [e] <;> simp [Op.equalIn,run_underlying hu]
   ·cases e
   ·cases e
  ·exact absurd h (by simp)
 ·split at h
  ·rename_i hu
   injection h with h; subst h
   cases hx <;> cases hy <;> simp [Op.equalIn,run_underlying hu]
  ·exact absurd h (by simp)
 ·split at h
  ·rename_i hu
   injection h with h; subst h
   cases hx <;> cases hy <;> simp [Op.equalIn,run_underlying hu]
  ·exact absurd h (by simp)
 ·split at h
  ·rename_i hu
   injection h with h; subst h
   cases hx <;> cases hy <;> simp [Op.equalIn,run_underlying hu]
  ·exact absurd h (by simp)
 ·split at h
  ·rename_i hu
   injection h with h; subst h
   cases hx <;> cases hy <;> simp [Op.equalIn,run_underlying hu]
  ·exact absurd h (by simp)
 ·exact absurd h (by simp)
theorem Zm4{t:TypeId}{x y:AV}{b:Bool}(h:eq1 (P.underlying t) x y=some b){cx cy:Value}(hx:VR μ x cx)(hy:VR μ y cy)(X Y:Operand) :
  (do eqGuard .eql t X Y cx cy; binOp .eql t cx cy:Sem Value).run P w=.ok (.bool b) w/\(do eqGuard .neq t X Y cx cy; binOp .neq t cx cy:Sem Value).run P w=.ok (.bool (!b)) w:=by
 have hE:(Op.equal t cx cy).run P w=.ok b w:=Zuv h hx hy 9999
 have key:∀ op,eqGuard op t X Y cx cy=pure ():=by
  unfold eq1 at h
  split at h <;> first
   | (exact absurd h (by simp); done)
   | (intro op; cases hx <;> first | exact eqGuard_at_bool .. | exact eqGuard_at_pointer .. | exact eqGuard_at_slice .. | exact eqGuard_at_map .. | exact eqGuard_at_func .. | exact eqGuard_at_nilFunc .. | exact eqGuard_at_iface ..)
 have hb:binOp .eql t cx cy=(do pure (.bool (<-Op.equal t cx cy)))/\binOp .neq t cx cy=(do pure (.bool (!(<-Op.equal t cx cy)))):=by
  unfold eq1 at h
  split at h <;> first
   | (exact absurd h (by simp); done)
   | (cases hx <;> cases hy <;> exact⟨rfl,rfl⟩)
 rw [key,key,hb.1,hb.2]
 simp [hE]
theorem Zwe{t:TypeId}{op:BinOp}{x y:AV}{K:AV->Option R}(h:binK (P.underlying t) op x y K=some r){cx cy:Value}(hx:VR μ x cx)(hy:VR μ y cy)(X Y:Operand) :
  ∃ v c,K v=some r/\(do eqGuard op t X Y cx cy; binOp op t cx cy:Sem Value).run P w=.ok c w/\VR μ v c:=by
 have other:∀ {op:BinOp},(match op with | .eql=>(eq1 (P.underlying t) x y).bind fun b=>K (.bool b) | .neq=>(eq1 (P.underlying t) x y).bind fun b=>K (.bool (!b)) | _=>none)=some r ->
   ∃ v c,K v=some r/\(do eqGuard op t X Y cx cy; binOp op t cx cy:Sem Value).run P w=.ok c w/\VR μ v c:=by
  intro op h
  split at h
  ·obtain⟨b,hb,hK⟩:=Qa.1 h
   exact⟨_,_,hK,(Zm4 hb hx hy X Y).1,.bool _⟩
  ·obtain⟨b,hb,hK⟩:=Qa.1 h
   exact⟨_,_,hK,(Zm4 hb hx hy X Y).2,.bool _⟩
  ·exact absurd h (by simp)
 unfold binK at h
 split at h
 ·rename_i k a k' b
  obtain rfl:=hx.int_inv
  obtain rfl:=hy.int_inv
  split at h
  ·split at h
   ·rename_i h0
    exact⟨_,_,h,by simp [go_sem,h0,shlI],.int _ _⟩
   ·exact absurd h (by simp)
  ·split at h
   ·rename_i h0
    refine⟨_,.int k (shrI k a b),h,?_,.int _ _⟩
    simp [go_sem,Op.shift,show ¬ b<0 by omega,shrI]
   ·exact absurd h (by simp)
  ·split at h
   ·rename_i e; subst e
    exact Zxe h X Y
   ·exact absurd h (by simp)
 ·obtain rfl:=hx.str_inv
  obtain rfl:=hy.str_inv
  split at h
  ·exact⟨_,_,h,by simp [go_sem,binOp,Op.stringOp,strEq],.bool _⟩
  ·exact⟨_,_,h,by simp [go_sem,binOp,Op.stringOp,strEq],.bool _⟩
  ·exact absurd h (by simp)
 ·exact other h
theorem VL.get{l:List AV}{xs:Array Value}(h:VL μ l xs.toList){i:Nat}{v:AV}(hi:l[i]?=some v):∃ hlt:i<xs.size,VR μ v xs[i]:=by
 have hlt:i<xs.size:=by have:=(Qc.1 hi).1; have:=h.1; simp at this; omega
 exact⟨hlt,h.2 i v _ hi (by simp [hlt])⟩
theorem Zq5{f:Field}{d:TypeDesc}(hd:P.underlying f.type=some d)(hag:isAggT P f.type=false){xs:Array Value}(hl:f.offset<xs.size):(part f.type xs f.offset).run P w=.ok xs[f.offset] w:=by
 simp [part,Zdb w (by simp [hd]:(P.underlying f.type).isSome=true),hag,hl]
theorem Zj2{l m:List AV}{xs ys:Array Value}(hx:VL μ l xs.toList)(hy:VL μ m ys.toList)(d:Nat):∀ (fs:List Field) {b:Bool},eqFs P fs l m=some b->(Op.eqFields (d+1) xs ys fs).run P w=.ok b w
 | [],b,h=>by
  simp only [eqFs] at h; injection h with h; subst h; simp [Op.eqFields]
 | f::fs,b,h=>by
  simp only [eqFs] at h
  split at h
  ·cases h
  ·rename_i hn
   split at h
   ·rename_i u hu
    split at h
    ·rename_i r hr
     injection h with h; subst h
     have ih:=Zj2 hx hy d fs hr
     have key:∃ (h1:f.offset<xs.size) (h2:f.offset<ys.size) (dd:TypeDesc),P.underlying f.type=some dd/\isAggT P f.type=false/\(Op.equalIn (d+1) f.type xs[f.offset] ys[f.offset]).run P w=.ok u w:=by
      unfold eqFd at hu
      split at hu
      ·rename_i kk k a k' b h1 h2 h3
       obtain⟨x1,x2⟩:=hx.get h2
       obtain⟨y1,y2⟩:=hy.get h3
       split at hu
       ·rename_i e
        subst e
        injection hu with hu; subst hu
        refine⟨x1,y1,_,h1,by simp [isAggT,h1],?_⟩
        rw [x2.int_inv,y2.int_inv,run_equalIn_int w d f.type _ _ _ _ h1]
        by_cases c:a=b <;> simp [c]
       ·cases hu
      ·rename_i a b h1 h2 h3
       obtain⟨x1,x2⟩:=hx.get h2
       obtain⟨y1,y2⟩:=hy.get h3
       injection hu with hu; subst hu
       refine⟨x1,y1,_,h1,by simp [isAggT,h1],?_⟩
       rw [x2.bool_inv,y2.bool_inv,run_equalIn_bool' w d f.type _ _ h1]
      ·rename_i a b h1 h2 h3
       obtain⟨x1,x2⟩:=hx.get h2
       obtain⟨y1,y2⟩:=hy.get h3
       injection hu with hu; subst hu
       refine⟨x1,y1,_,h1,by simp [isAggT,h1],?_⟩
       rw [x2.str_inv,y2.str_inv,run_equalIn_string w d f.type _ _ h1]; rfl
      ·cases hu
     obtain⟨h1,h2,dd,h3,h4,h5⟩:=key
     simp only [Op.eqFields]
     rw [if_pos hn]
     simp only [Sem.run_bind,Zq5 h3 h4 h1,Zq5 h3 h4 h2,Qd,h5]
     cases u
     ·simp
     ·simpa using ih
    ·cases h
   ·cases h
theorem Zv8{t:TypeId}{op:BinOp}{l m:List AV}{K:AV->Option R}{r:R}(h:aggK P t op l m K=some r){cx cy:Value}(hx:VR μ (.agg l) cx)(hy:VR μ (.agg m) cy)(X Y:Operand) :
  ∃ v c,K v=some r/\(do eqGuard op t X Y cx cy; binOp op t cx cy:Sem Value).run P w=.ok c w/\VR μ v c:=by
 cases hx with
 | @agg _ xs h1 h2=>
 cases hy with
 | @agg _ ys g1 g2=>
 have vx:VL μ l xs.toList:=⟨by simpa using h1,fun i x y hi hj=>h2 i x y hi (by simpa using hj)⟩
 have vy:VL μ m ys.toList:=⟨by simpa using g1,fun i x y hi hj=>g2 i x y hi (by simpa using hj)⟩
 unfold aggK at h
 split at h
 ·rename_i fs hu
  split at h
  ·cases h
  ·rename_i hb
   rw [Bool.or_eq_false_iff] at hb
   have hf:P.fieldsOf t=fs:=by simp [Program.fieldsOf,hu]
   have heq:∀ b,eqFs P fs.toList l m=some b->(Op.equalIn 10000 t (.agg xs) (.agg ys)).run P w=.ok b w:=fun b hb'=>by
    rw [run_equalIn_struct w 9999 t xs ys (by rw [hf]; exact hu) hb.1,hf]
    exact Zj2 vx vy 9998 _ hb'
   split at h
   ·obtain⟨b,hb',hK⟩:=Qa.1 h
    exact⟨_,.bool b,hK,by simp only [Sem.run_bind,run_eqGuard_agg w .eql t X Y xs ys hb.2,Qd,run_eql_struct,heq b hb'],.bool _⟩
   ·obtain⟨b,hb',hK⟩:=Qa.1 h
    exact⟨_,.bool (!b),hK,by simp only [Sem.run_bind,run_eqGuard_agg w .neq t X Y xs ys hb.2,Qd,run_neq_struct,heq b hb'],.bool _⟩
   ·cases h
 ·cases h
theorem Zzn(hF:FrR nt μ φ a)(hR:Rel μ σ w){t:TypeId}{x i:Operand}(h:evOp P Γ q ty φ σ K (.index t x i)=some r){o:Oper}(ho:o.op=.index t x i):Does false P μ σ w K r (execOp a.eval o):=by
 simp only [evOp] at h
 split at h
 ·rename_i k n hn
  have hi:=(hF.ev hn).int_inv
  split at h
  ·rename_i s hu hx
   have hs:=(hF.ev hx).str_inv
   split at h
   ·rename_i h0
    obtain⟨b,hb,h⟩:=Qa.1 h
    obtain⟨b',hb',rfl⟩:=Qg.1 hb
    refine Does.quiet (c:=.int .u8 b'.toNat) hR h ?_ (.int _ _)
    simp [execOp,ho,hi,hs,Instr.index,run_underlying hu,asIntOf,h0,hb']
   ·cases h
  ·cases h
 ·cases h
theorem Zzk(hF:FrR nt μ φ a)(hR:Rel μ σ w){op:BinOp}{t t':TypeId}{x y:Operand}(h:evOp P Γ q ty φ σ K (.binOp op t x y t')=some r){o:Oper}(ho:o.op=.binOp op t x y t'):Does false P μ σ w K r (execOp a.eval o):=by
 simp only [evOp] at h
 split at h
 ·rename_i u v hu hv
  obtain⟨v,c,hK,hrun,hvr⟩:=Zv8 (w:=w) (K:=fun v=>K v σ) h (hF.ev hu) (hF.ev hv) x y
  refine Does.quiet hR hK ?_ hvr
  simp only [execOp,ho]
  simp only [Sem.run_bind] at hrun ⊢
  rw [hrun]
  rfl
 ·rename_i u v hu hv
  obtain⟨v,c,hK,hrun,hvr⟩:=Zwe (w:=w) (K:=fun v=>K v σ) h (hF.ev hu) (hF.ev hv) x y
  refine Does.quiet hR hK ?_ hvr
  simp only [execOp,ho]
  simp only [Sem.run_bind] at hrun ⊢
  rw [hrun]
  rfl
 ·exact absurd h (by simp)
theorem Z1m(hF:FrR nt μ φ a)(hR:Rel μ σ w){op:UnOp}{t:TypeId}{x:Operand}(h:evOp P Γ q ty φ σ K (.unOp op t x)=some r){o:Oper}(ho:o.op=.unOp op t x):Does false P μ σ w K r (execOp a.eval o):=by
 simp only [evOp] at h
 split at h
 ·rename_i b hb
  have:=(hF.ev hb).bool_inv
  exact Does.quiet hR h (by simp [execOp,ho,this,Op.unary]) (.bool _)
 ·rename_i k n hb
  have:=(hF.ev hb).int_inv
  exact Does.quiet hR h (by simp [execOp,ho,this,unary_neg,Op.intArith]) (.int _ _)
 ·rename_i k n hb
  have:=(hF.ev hb).int_inv
  exact Does.quiet hR h (by simp only [execOp,ho,this,unary_xor,Zwg .xor k _ _ (by simp)]; rfl) (.int _ _)
 ·exact absurd h (by simp)
theorem Zgr:∀ {l:List AV} {r:List UInt8},bytesOfL l=some r->∃ ns:List Int,l=ns.map (AV.int .u8)/\r=ns.map fun n=>UInt8.ofNat n.toNat
 | [],r,h=>by simp [bytesOfL] at h; subst h; exact⟨[],rfl,rfl⟩
 | v::l,r,h=>by
  cases v with
  | int k n=>
   by_cases hk:k=.u8
   case neg=>cases k <;> first | exact absurd rfl hk | (simp [bytesOfL] at h)
   subst hk
   simp only [bytesOfL] at h
   obtain⟨r',h',rfl⟩:=Qg.1 h
   obtain⟨ns,rfl,rfl⟩:=Zgr h'
   exact⟨n::ns,rfl,rfl⟩
  | _=>simp [bytesOfL] at h
theorem Zit:∀ (ns:List Int) (r:ByteArray),ns.foldl (fun r n=>r.push (UInt8.ofNat n.toNat)) r=⟨r.data++(ns.map fun n=>UInt8.ofNat n.toNat).toArray⟩
 | [],r=>by simp
 | n::ns,r=>by
  simp only [Qay,Qaq]
  rw [Zit ns]
  simp [ByteArray.push]
theorem Zt9{μ:Mu}{k:IntKind}:∀ {ns:List Int} {cs:List Value},VL μ (ns.map (AV.int k)) cs->cs=ns.map (QW k)
 | [],cs,h=>h.inv_nil
 | n::ns,cs,h=>by
  obtain⟨c,r,rfl,h1,h2⟩:=h.inv_cons
  rw [h1.int_inv,Zt9 h2]; rfl
theorem Zth(μ:Mu)(k:IntKind):∀ ns:List Int,VL μ (ns.map (AV.int k)) (ns.map (QW k))
 | []=>VL.nil _
 | n::ns=>VL.cons (.int _ _) (Zth μ k ns)
theorem Zyv{P:Program}{μ:Mu}{σ:Store}{w:World}(hR:Rel μ σ w){h:Hdl}{l:List AV}(hr:σ.readSl h 1=some l){b:ByteArray}(hb:bytesOf l=some b){c:Value}(hv:VR μ (.slice h) c){s d e:TypeId}
  (hs:P.underlying s=some (.slice e)) (he:P.underlying e=some (.int .u8)) (hd:P.underlying d=some .string):(convert s d c).run P w=.ok (.string b) w:=by
 unfold bytesOf at hb
 obtain⟨r,hr',rfl⟩:=Qg.1 hb
 obtain⟨ns,rfl,rfl⟩:=Zgr hr'
 obtain⟨a,len,cap,rfl,rfl,hl,hc,hcase⟩:=hv.slice_inv
 rw [run_convert_bytes_string w s d e a h.len cap hs he hd]
 unfold Store.readSl at hr
 by_cases h0:h.len=0
 ·rw [if_pos h0] at hr
  have hn:ns=[]:=by
   injection hr with hr
   cases ns with
   | nil=>rfl
   | cons=>simp at hr
  subst hn
  cases a with
  | none=>simp [Conv.bytesToString]; rfl
  | some a=>
   have hload:=run_loadCells_list (P:=P) w a [] (fun j x hx=>by simp at hx)
   rw [h0,run_bytesToString w a 0 cap [] hload]
   rfl
 ·rw [if_neg h0] at hr
  rcases hcase with ⟨_,_,rfl⟩ | ⟨_,_,_,_,_,rfl⟩ | ⟨bb,o,L,hga,hbm,rfl,hN⟩
  ·omega
  ·omega
  ·rw [hga] at hr
   simp only at hr
   cases ho:σ.objs[bb]? with
   | none=>simp [ho] at hr
   | some ob=>
    cases ob with
    | map l=>simp [ho] at hr
    | loop _ _ _ _ _ _=>simp [ho] at hr
    | dead=>simp [ho] at hr
    | cells l rw es'=>
     simp only [ho] at hr
     split at hr
     ·rename_i hfit
      injection hr with hr
      obtain⟨cs,hcl,hcv,hcc⟩:=hR.row ho hbm o (h.len*1) hfit
      rw [hr] at hcv
      have hcs:=Zt9 hcv
      subst hcs
      have hload:=run_loadCells_list (P:=P) w ⟨L.blk,L.off+o,none⟩ (ns.map (QW .u8)) (fun j x hx=>by
       have hjl:j<h.len*1:=by rw [<-hcl]; exact (Qc.1 hx).1
       rw [Addr.add_lit,hcc j hjl,hx])
      have hlen:(ns.map (QW .u8)).length=h.len:=by rw [hcl]; omega
      rw [hlen] at hload
      rw [run_bytesToString w _ h.len cap ns hload,Zit]
      have he0:ByteArray.empty.data=#[]:=rfl
      rw [he0]; simp
     ·exact absurd hr (by simp)
theorem Zhj(hF:FrR nt μ φ a){s d:TypeId}{x:Operand}(hd:Qi d strT=false)(hs:Qi s strT=true)(h:evOp P Γ q ty φ σ K (.convert s d x)=some r){o:Oper}(ho:o.op=.convert s d x) :
  ∃ l es mk,K (mk σ.objs.length) (σ.push l es)=some r/\Lays P μ w (execOp a.eval o) l es mk:=by
 have hsd:Qi s d=false:=by
  cases e:Qi s d with
  | false=>rfl
  | true=>
   have:=Qp e
   subst this
   rw [hd] at hs; exact absurd hs (by simp)
 simp only [evOp] at h
 split at h
 ·rw [hs] at h; exact absurd h (by simp)
 ·rw [hd,hsd] at h; exact absurd h (by simp)
 ·rename_i b hb
  have hc:=(hF.ev hb).str_inv
  split at h
  ·split at h
   ·rename_i e h1 h2
    split at h
    ·rename_i h3
     have hrun:=run_bytes_of_string (P:=P) w s d e b h1 h2 h3
     obtain⟨cap,hcap⟩:∃ c,c=grownCap w b.size 0 e:=⟨_,rfl⟩
     rw [<-hcap] at hrun
     have hge:b.size<=cap:=by rw [hcap]; exact Ziu w b.size 0 e
     have hbl:b.data.toList.length=b.size:=by simp
     refine⟨_,_,fun n=>.slice ⟨some (n,0),b.data.toList.length,none⟩,h,.inr ⟨_,_,rfl⟩,w.drew,((bytesRow b cap).size,(bytesRow b cap).size+1),bytesRow b cap,e,.slice (some ⟨w.heap.size,0,none⟩) b.size cap,.inr rfl,?_,?_,?_,?_,fun μ' n hn=>?_⟩
     ·exact .inr (Qh _)
     ·simp [execOp,ho,hc,hrun]
     ·have e1:(bytesRow b cap).toList=(b.data.toList.map fun x=>(x.toNat:Int)).map (QW .u8)++(Qar (cap-b.size) (QW .u8 0)).toList:=by
       unfold bytesRow; simp
      have e2:(b.data.toList.map fun x=>AV.int .u8 (x.toNat:Int))=(b.data.toList.map fun x=>(x.toNat:Int)).map (AV.int .u8):=by simp
      rw [e1,e2,QM (by simp),Ql (by simp)]
      exact Zth _ _ _
     ·unfold bytesRow; simp
     ·rw [hbl]
      refine VR.sl (L:=⟨w.heap.size,0,_,_⟩) (o:=0) hn (by simp) hge ?_
      unfold bytesRow
      simp
      have:b.data.size=b.size:=rfl
      omega
    ·exact absurd h (by simp)
   ·exact absurd h (by simp)
  ·exact absurd h (by simp)
 ·exact absurd h (by simp)
theorem Does.weak{eff:Bool}{s:Sem Next}(h:Does false P μ σ w K r s):Does eff P μ σ w K r s:=by
 obtain⟨v,σ',μ',w',c,hK,hrun,⟨hs,hq⟩,hv⟩:=h
 exact⟨v,σ',μ',w',c,hK,hrun,⟨hs,fun _=>hq rfl⟩,hv⟩
theorem Zr9(w:World){g n:Nat}{c:Array Value}{ty:TypeId}{fz:Nat×Nat}(h:w.heap[g]?=some (.cells c ty fz)) :
  (w.freeze ⟨g,n,none⟩ 1).heap[g]?=some (.cells c ty (if fz.1 == fz.2 then (n,n+1) else (min fz.1 n,max fz.2 (n+1)))):=by
 unfold World.freeze
 rw [if_neg (by omega)]
 have hlt:g<w.heap.size:=(Qm.1 h).1
 have hv:w.heap[g]=.cells c ty fz:=(Qm.1 h).2
 obtain⟨lo,hi⟩:=fz
 show (w.heap.modify g _)[g]?=_
 rw [Array.getElem?_eq_getElem (by simpa using hlt),Array.getElem_modify]
 simp [hv]
theorem Zu3(w:World){g n k:Nat}(h:k≠g):(w.freeze ⟨g,n,none⟩ 1).heap[k]?=w.heap[k]?:=by
 unfold World.freeze
 rw [if_neg (by omega)]
 show (w.heap.modify g _)[k]?=_
 rw [Q2,if_neg (Ne.symm h)]
theorem Zve{P:Program}{μ:Mu}{σ:Store}{w:World}(hR:Rel μ σ w){h:Hdl}(hm:σ.markOk h=true){c:Value}(hv:VR μ (.slice h) c){s d e:TypeId}(hsd:s=d)
  (hd:P.underlying d=some (.slice e)) (he:P.underlying e=some (.int .u8)):∃ w',(convert s d c).run P w=.ok c w'/\Ste μ σ w μ σ w':=by
 subst hsd
 obtain⟨a,len,cap,rfl,rfl,hl,hc,hcase⟩:=hv.slice_inv
 unfold Store.markOk at hm
 cases ha:h.a with
 | none=>rw [ha] at hm; cases hm
 | some bo=>
  obtain⟨b,o⟩:=bo
  rw [ha] at hm
  simp only at hm
  cases h0:Qi h.len 0 with
  | true=>rw [h0] at hm; cases hm
  | false=>
   rw [h0,cond_false] at hm
   have hne:h.len≠0:=fun e=>by rw [e] at h0; cases h0
   rcases hcase with ⟨e1,_⟩ | ⟨_,_,_,_,_,e1⟩ | ⟨b',o',L,e1,hL,rfl,hN⟩
   ·rw [ha] at e1; cases e1
   ·omega
   ·rw [ha] at e1; injection e1 with e1; injection e1 with e1 e2; subst e1 e2
    cases hob:σ.objs[b]? with
    | none=>rw [hob] at hm; cases hm
    | some ob=>
     rw [hob] at hm
     cases ob with
     | cells l rw es=>
      cases rw with
      | false=>cases hm
      | true=>
       simp only at hm
       have hpr:σ.prot<=b:=Nat.le_of_ble_eq_true hm
       obtain⟨ce,ty,fz,hblk,hsz,htw⟩:=hR.rw b l es L hob hL
       obtain⟨hes,hlN,hj⟩:=hR.cells b l true es L hob hL
       have hshape:w.shape? L.blk=some (ty,ce.size):=by simp [World.shape?,hblk]
       refine⟨w.freeze ⟨L.blk,ce.size,none⟩ 1,?_,?_⟩
       ·simp [convert,run_underlying hd,run_underlying he,markStringish,hshape]
       ·have hnew:=Zr9 (n:=ce.size) w hblk
        have hst:=Ste.write (w':=w.freeze ⟨L.blk,ce.size,none⟩ 1) hR hob hpr hL (l':=l) (by simp [World.freeze]) rfl rfl rfl (fun k hk=>Zu3 w hk) ⟨ce,ty,_,hnew,hsz,?_⟩ hlN (fun j v hjv=>by
         obtain⟨x,hx,hvx⟩:=hj j v hjv
         refine⟨x,?_,hvx⟩
         simp only [World.cell?,hblk] at hx
         simp only [World.cell?,hnew]
         exact hx)
        ·have e:σ.objs.set b (.cells l true es)=σ.objs:=by
          apply List.ext_getElem?
          intro i
          rw [Qq]
          by_cases ei:b=i
          ·subst ei
           rw [if_pos rfl,if_pos (Qc.1 hob).1,hob]
          ·rw [if_neg ei]
         rw [e] at hst
         exact hst
        ·unfold Thaw at htw ⊢
         by_cases e2:fz.1=fz.2
         ·rw [if_pos (by simpa using e2)]; exact .inr (Qh _)
         ·rw [if_neg (by simpa using e2)]
          rcases htw with h1 | h1
          ·exact absurd h1 e2
          ·right; simp only; omega
     | _=>cases hm
theorem Zur(hF:FrR nt μ φ a)(hR:Rel μ σ w){s d:TypeId}{x:Operand}(h:evOp P Γ q ty φ σ K (.convert s d x)=some r){o:Oper}(ho:o.op=.convert s d x):Does (Qi s d) P μ σ w K r (execOp a.eval o):=by
 by_cases hA:Qi d strT=false/\Qi s strT=true
 ·obtain⟨l,es,mk,hK,hl⟩:=Zhj (w:=w) hF hA.1 hA.2 h ho
  exact (hl.does hR hK).weak
 simp only [evOp] at h
 split at h
 ·rename_i k n hb
  have hc:=(hF.ev hb).int_inv
  split at h
  ·split at h
   ·rename_i d' k' h1 h2
    exact Does.quiet hR h (by simp [execOp,ho,hc,convert,run_underlying h1,run_underlying h2,Conv.intToInt]) (.int _ _)
   ·exact absurd h (by simp)
  ·exact absurd h (by simp)
 ·rename_i g hb
  have hv:=hF.ev hb
  split at h
  ·split at h
   ·rename_i e h1 h2
    split at h
    ·rename_i h3
     obtain⟨l,hl,h⟩:=Qa.1 h
     obtain⟨b,hb2,hK⟩:=Qa.1 h
     exact Does.quiet hR hK (by simp [execOp,ho,Zyv hR hl hb2 hv h1 h3 h2]) (.str _)
    ·exact absurd h (by simp)
   ·exact absurd h (by simp)
  ·split at h
   ·rename_i hsd
    have hsd':s=d:=Qp hsd
    split at h
    ·rename_i e h1
     split at h
     ·rename_i h3
      split at h
      ·rename_i hmk
       obtain⟨w',hrun,hst⟩:=Zve hR hmk hv hsd' h1 h3
       refine⟨_,_,_,w',_,h,.inl ?_,⟨hst,fun e=>?_⟩,hv⟩
       ·simp [execOp,ho,hrun]
       ·rw [hsd] at e; cases e
      ·exact absurd h (by simp)
     ·exact absurd h (by simp)
    ·exact absurd h (by simp)
   ·exact absurd h (by simp)
 ·rw [if_neg hA] at h; exact absurd h (by simp)
 ·exact absurd h (by simp)
theorem Zpe(hF:FrR nt μ φ a)(hR:Rel μ σ w){s:TypeId}{x:Operand}{f:Nat}(h:evOp P Γ q ty φ σ K (.fieldAddr s x f)=some r){o:Oper}(ho:o.op=.fieldAddr s x f):Does false P μ σ w K r (execOp a.eval o):=by
 simp only [evOp] at h
 split at h
 ·rename_i p fs hp hu
  split at h
  ·rename_i fd hfd
   split at h
   ·rename_i n hn
    obtain⟨u,rfl,h⟩:=Qa.1 h
    have hvp:=hF.ev hp
    rcases hvp.ptr_inv with ⟨e,_⟩ | ⟨b,off,L,e,hb,he⟩
    ·cases e
    ·rw [he] at hvp
     refine Does.quiet hR h ?_ (hvp.ptr_add fd.offset)
     simp [execOp,ho,he,Instr.fieldAt,run_underlying hu,hfd,Instr.sureAddr,fieldPlace,Zm hn]
   ·exact absurd h (by simp)
  ·exact absurd h (by simp)
 ·exact absurd h (by simp)
theorem Zzm(hF:FrR nt μ φ a)(hR:Rel μ σ w){s:TypeId}{x:Operand}{f:Nat}(h:evOp P Γ q ty φ σ K (.field s x f)=some r){o:Oper}(ho:o.op=.field s x f):Does false P μ σ w K r (execOp a.eval o):=by
 simp only [evOp] at h
 split at h
 ·rename_i l fs hp hu
  split at h
  ·rename_i fd hfd
   have hv:=hF.ev hp
   generalize he:a.eval x=c at hv
   cases hv with
   | @agg l l' hl hv=>
   have hvl:VL μ l l'.toList:=⟨by simpa using hl,fun i x y hx hy=>hv i x y hx (by simpa using hy)⟩
   split at h
   ·exact absurd h (by simp)
   ·rename_i d hd
    split at h
    ·rename_i hag
     obtain⟨n,hn,hK⟩:=Qa.1 h
     have hvd:=(hvl.drop fd.offset).take n
     refine Does.quiet (c:=.agg (l'.extract fd.offset (fd.offset+n))) hR hK ?_ (.agg ?_ ?_)
     ·simp [execOp,ho,he,Instr.field,run_underlying hu,hfd,part,Zdb w (by simp [hd]:(P.underlying fd.type).isSome=true),hag,Zm hn,asAgg]
     ·have:=hvd.1; simp only [QJ,QK,Qw] at this ⊢; simp [hl]; omega
     ·intro i x y hx hy
      refine hvd.2 i x y hx ?_
      rw [<-hy,<-Q3]
      congr 1
      simp
    ·rename_i hag
     obtain⟨v,hv',hK⟩:=Qa.1 h
     have hil:fd.offset<l'.size:=by rw [<-hl]; exact (Qc.1 hv').1
     refine Does.quiet (c:=l'[fd.offset]) hR hK ?_ (hv _ v _ hv' (by simp [hil]))
     simp [execOp,ho,he,Instr.field,run_underlying hu,hfd,part,Zdb w (by simp [hd]:(P.underlying fd.type).isSome=true),hag,asAgg,hil]
  ·exact absurd h (by simp)
 ·exact absurd h (by simp)
theorem Zpf(hF:FrR nt μ φ a)(hR:Rel μ σ w){t:TypeId}{x i:Operand}(h:evOp P Γ q ty φ σ K (.indexAddr t x i)=some r){o:Oper}(ho:o.op=.indexAddr t x i):Does false P μ σ w K r (execOp a.eval o):=by
 simp only [evOp] at h
 split at h
 ·rename_i k n hn
  have hi:=(hF.ev hn).int_inv
  split at h
  ·rename_i e hd hu hx
   obtain⟨es,hes,h⟩:=Qa.1 h
   split at h
   case isFalse=>exact absurd h (by simp)
   rename_i hc
   obtain⟨ad,len,cap,he,rfl,hl,_,hcase⟩:=(hF.ev hx).slice_inv
   rcases hcase with ⟨_,_,rfl⟩ | ⟨_,_,_,_,_,rfl⟩ | ⟨b,off,L,hha,hb,rfl,hN⟩
   ·omega
   ·omega
   ·refine Does.quiet (c:=.pointer (some ⟨L.blk,L.off+off+n.toNat*es,none⟩)) hR h ?_ ?_
    ·simp [execOp,ho,he,hi,Instr.indexAt,run_underlying hu,asIntOf,hc,Zm hes,Addr.add_lit]
    ·simp only [Hdl.idx,hha,Ptr.add,Qn]
     rw [Q0]; exact .ptr hb
  ·rename_i m e p hu hx
   obtain⟨es,hes,h⟩:=Qa.1 h
   split at h
   case isFalse=>exact absurd h (by simp)
   rename_i hc
   obtain⟨u,rfl,h⟩:=Qa.1 h
   have hvp:=hF.ev hx
   rcases hvp.ptr_inv with ⟨e,_⟩ | ⟨b,off,L,e,hb,he⟩
   ·cases e
   ·rw [he] at hvp
    refine Does.quiet hR h ?_ (hvp.ptr_add (n.toNat*es))
    simp [execOp,ho,he,hi,Instr.indexAt,run_underlying hu,asIntOf,Instr.sureAddr,hc,Zm hes]
  ·exact absurd h (by simp)
 ·exact absurd h (by simp)
theorem Zus(hF:FrR nt μ φ a)(hR:Rel μ σ w){x:Operand}{i:Nat}(h:evOp P Γ q ty φ σ K (.extract x i)=some r){o:Oper}(ho:o.op=.extract x i):Does false P μ σ w K r (execOp a.eval o):=by
 simp only [evOp] at h
 split at h
 ·rename_i l hl
  obtain⟨v,hv,hK⟩:=Qa.1 h
  have hvx:=hF.ev hl
  generalize he:a.eval x=c at hvx
  cases hvx with
  | @tuple l l' hll hvl=>
  have hil:i<l'.size:=by rw [<-hll]; exact (Qc.1 hv).1
  exact Does.quiet hR hK (by simp [execOp,ho,he,Instr.extract,hil]) (hvl i v l'[i] hv (by simp [hil]))
 ·exact absurd h (by simp)
end
end Go.Ab

namespace Go.Ab
open Go Go.RowKit
section
variable {R:Type} {P:Program} {Γ:Gam} {μ:Mu} {σ:Store} {w:World} {φ:Fr} {a:Act} {K:AV->Store->Option R} {r:R} {nt:Nat} {q:Bool} {ty:TypeId}
theorem Zzw(zs:List AV)(n j:Nat):(Qu n zs).flatten[j]?=if j<n*zs.length then zs[j % zs.length]? else none:=by
 induction n generalizing j with
 | zero=>simp
 | succ n ih=>
  rw [QB,QU]
  by_cases c:j<zs.length
  ·rw [Qe c,if_pos (by rw [Qx]; omega),Nat.mod_eq_of_lt c]
  ·rw [Qf (by omega),ih]
   by_cases d:j-zs.length<n*zs.length
   ·rw [if_pos d,if_pos (by rw [Qx]; omega)]
    congr 1
    exact (Nat.mod_eq_sub_mod (by omega)).symm
   ·rw [if_neg d,if_neg (by rw [Qx]; omega)]
theorem Zkx(zs:List AV)(n:Nat):mkCells zs n=(Qu n zs).flatten:=by
 unfold mkCells
 split
 ·rename_i z
  induction n with
  | zero=>rfl
  | succ n ih=>rw [QB,QB,QU,<-ih]; rfl
 ·rfl
theorem Zfk(zs:List AV)(n:Nat):(mkCells zs n).length=n*zs.length:=by
 rw [Zkx]; induction n with
 | zero=>simp
 | succ n ih=>rw [QB,QU,Qj,ih,Qx]; omega
theorem Zky{zs:List AV}{z:Array Value}(h:VL μ zs z.toList)(n:Nat):VL μ (mkCells zs n) ((Qac (n*zs.length)).map (z[· % z.size]!)).toList:=by
 have hsz:zs.length=z.size:=by simpa using h.1
 refine⟨by rw [Zfk]; simp,fun i x y hx hy=>?_⟩
 rw [Zkx,Zzw] at hx
 split at hx
 ·rename_i hi
  have hpos:0<zs.length:=by
   rcases Nat.eq_zero_or_pos zs.length with e | e
   ·rw [e] at hi; simp at hi
   ·exact e
  have hm:i % z.size<z.size:=Nat.mod_lt _ (by omega)
  simp only [Q7,QT,Array.toList_range,List.getElem?_range hi,Qn,Qa3.injEq] at hy
  refine h.2 _ x y hx ?_
  rw [hsz,<-hy,getElem!_pos z (i % z.size) hm]
  simp [hm]
 ·exact absurd hx (by simp)
theorem Zfj(hF:FrR nt μ φ a){t:TypeId}{l c:Operand}(h:evOp P Γ q ty φ σ K (.makeSlice t l c)=some r){o:Oper}(ho:o.op=.makeSlice t l c):∃ l es mk,K (mk σ.objs.length) (σ.push l es)=some r/\Lays P μ w (execOp a.eval o) l es mk:=by
 simp only [evOp] at h
 split at h
 ·rename_i k1 n k2 m e hl hc hu
  have el:=(hF.ev hl).int_inv
  have ec:=(hF.ev hc).int_inv
  split at h
  ·rename_i by_ zs hby hzs
   split at h
   case isFalse=>exact absurd h (by simp)
   rename_i hcond
   obtain⟨h3,h4⟩:=hcond
   split at h
   case isFalse=>exact absurd h (by simp)
   rename_i hcond
   obtain⟨⟨h0,h1⟩,h2⟩:=hcond
   unfold zeroCells at hzs
   obtain⟨zv,hzv,rfl⟩:=Qg.1 hzs
   obtain⟨i,z,hi,hiz,hvz,hzu⟩:=Zdd hzv μ
   have hvl:=hvz.cells hzu
   have hsz:i.size=zv.cells.length:=by simp [szOf,hi] at h4; exact h4
   have hbs:i.bytes=by_:=by simp [byOf,hi] at hby; exact hby
   have hm:m<=281474976710656:=by
    have:m*1<=m*(by_:Int):=Int.mul_le_mul_of_nonneg_left (by omega) (by omega)
    omega
   have hrun:=run_make (P:=P) w t e i z hu hi hiz k1 k2 n m h0 h1 (by rw [hbs,Int.mul_comm]; exact h2) (by omega)
   have hcells:madeCells z.cells (m.toNat*i.size)=(Qac (m.toNat*zv.cells.length)).map (z.cells[· % z.cells.size]!):=by rw [hsz]; rfl
   rw [hcells] at hrun
   have hmv:=Zky (μ:=μ) hvl m.toNat
   refine⟨_,_,fun i=>.slice ⟨some (i,0),n.toNat,some m.toNat⟩,h,.inr ⟨_,_,rfl⟩,w,(0,0),(Qac (m.toNat*zv.cells.length)).map (z.cells[· % z.cells.size]!),e,.slice (some ⟨w.heap.size,0,none⟩) n.toNat m.toNat,.inl rfl,Thaw.zero _,?_,?_,?_,fun μ' i hi'=>?_⟩
   ·simp [execOp,ho,el,ec,hrun]
   ·rw [Ql (by rw [hmv.1]; exact Qh _)]; exact hmv
   ·rw [hmv.1]; simp
   ·refine VR.sl (L:=⟨w.heap.size,0,_,_⟩) (o:=0) hi' (by simp) (by omega) ?_
    simp
  ·exact absurd h (by simp)
 ·exact absurd h (by simp)
theorem Zpg(hF:FrR nt μ φ a)(hR:Rel μ σ w){t:TypeId}{l c:Operand}(h:evOp P Γ q ty φ σ K (.makeSlice t l c)=some r){o:Oper}(ho:o.op=.makeSlice t l c):Does false P μ σ w K r (execOp a.eval o):=by
 obtain⟨l,es,mk,hK,hl⟩:=Zfj hF h ho
 exact hl.does hR hK
theorem Zf6(hF:FrR nt μ φ a){x:Option Operand}{l:Option Int}(h:optInt φ x=some l):(x=none/\l=none)\/∃ y k n,x=some y/\l=some n/\a.eval y=.int k n:=by
 cases x with
 | none=>simp [optInt] at h; exact .inl ⟨rfl,h.symm⟩
 | some y=>
  simp only [optInt] at h
  split at h
  ·rename_i k n hn
   injection h with h
   exact .inr ⟨y,k,n,rfl,h.symm,(hF.ev hn).int_inv⟩
  ·exact absurd h (by simp)
def capM(mx:Option Int)(cap:Nat):Nat:=match mx with | some m=>m.toNat | none=>cap
theorem Z5r(hR:Rel μ σ w){h h':Hdl}{es:Nat}{lo hi mx:Option Int}(hs:σ.sub h es lo hi mx=some h'){A:Option Addr}{cap:Nat}(hv:VR μ (.slice h) (.slice A h.len cap)) :
  VR μ (.slice h') (Go.sliced A (lo.getD 0).toNat (hi.getD h.len).toNat (capM mx cap) es):=by
 unfold Store.sub at hs
 split at hs
 case isFalse=>exact absurd hs (by simp)
 rename_i hc
 obtain⟨⟨hes,m0,m1⟩,⟨h0,h1⟩,l0,l1⟩:=hc
 have hs':=Qa3.inj hs
 clear hs
 subst hs'
 obtain⟨A',len,cap',e,e',hl,hcap,hcase⟩:=hv.slice_inv
 injection e with e1 e2 e3; subst e1 e2 e3
 generalize hM:capM mx cap=M
 unfold capM at hM
 have hMc:M<=cap:=by rw [<-hM]; cases mx <;> simp at m1 ⊢ <;> omega
 have hHM:(hi.getD h.len).toNat<=M:=by rw [<-hM]; cases mx <;> simp at h1 m1 ⊢ <;> omega
 generalize hH:(hi.getD h.len).toNat=H at *
 generalize hLo:(lo.getD 0).toNat=Lo at *
 have hLH:Lo<=H:=by omega
 have hcap':∀ x,(match mx with | some m=>some (m.toNat-Lo) | none=>h.cap.map (·-Lo))=some x->x=M-Lo:=by
  intro x hx
  cases mx with
  | some m=>simp at hx hM; omega
  | none=>
   simp at hx hM
   obtain⟨y,hy,rfl⟩:=hx
   have:=hcap y hy; omega
 unfold Go.sliced
 rcases hcase with ⟨hha,rfl,rfl⟩ | ⟨b,o,ad,hha,rfl,rfl⟩ | ⟨b,o,L,hha,hb,rfl,hN⟩
 ·have:M=0:=by omega
  subst this
  have:H=0:=by omega
  subst this
  have:Lo=0:=by omega
  subst this
  rw [hha]
  simp only [Qz,if_true]
  exact .slN hcap'
 ·have:M=0:=by omega
  subst this
  have:H=0:=by omega
  subst this
  have:Lo=0:=by omega
  subst this
  rw [hha]
  simp only [Qn,if_true]
  exact .sl0 hcap'
 ·rw [hha]
  simp only [Qn]
  by_cases e:M=Lo
  ·have:H=Lo:=by omega
   subst this
   rw [if_pos e]
   simp only [Qa0,e]
   exact .sl0 (fun x hx=>by have:=hcap' x hx; omega)
  ·rw [if_neg e,Addr.add_lit,Q0]
   have hLes:Lo=0\/L.es=es:=by
    unfold Store.esOk at hes
    rw [hha] at hes
    simp only at hes
    by_cases h0:h.len=0
    ·left; omega
    right
    have hb0:Qi h.len 0=false:=by
     cases hb:Qi h.len 0 with
     | false=>rfl
     | true=>exact absurd (Qp hb) h0
    rw [hb0] at hes
    simp only [cond_false] at hes
    cases ho:σ.objs[b]? with
    | none=>simp [ho] at hes
    | some ob=>
     cases ob with
     | map l=>simp [ho] at hes
     | loop _ _ _ _ _ _=>simp [ho] at hes
     | dead=>simp [ho] at hes
     | cells l rw es'=>
      simp [ho] at hes; subst hes
      exact (hR.cells b l rw es' L ho hb).1
   refine .sl hb hcap' (by omega) ?_
   rcases hLes with rfl | hLes
   ·have h2:M*L.es<=cap*L.es:=Q4 _ hMc
    simp only [Nat.zero_mul,Qaa,QY]
    omega
   ·rw [hLes] at hN ⊢
    have h1:(M-Lo)*es+Lo*es=M*es:=by rw [<-Qx]; congr 1; omega
    have h2:M*es<=cap*es:=Q4 _ hMc
    omega
theorem Zzo(hF:FrR nt μ φ a)(hR:Rel μ σ w){t:TypeId}{x:Operand}{lo hi mx:Option Operand}(h:evOp P Γ q ty φ σ K (.slice t x lo hi mx)=some r){o:Oper}(ho:o.op=.slice t x lo hi mx):Does false P μ σ w K r (execOp a.eval o):=by
 simp only [evOp] at h
 split at h
 ·rename_i hd e hx hu
  obtain⟨es,hes,h⟩:=Qa.1 h
  obtain⟨l,hl,h⟩:=Qa.1 h
  obtain⟨u,hu',h⟩:=Qa.1 h
  obtain⟨m,hm,h⟩:=Qa.1 h
  obtain⟨h',hs,h⟩:=Qa.1 h
  split at h
  ·exact absurd h (by simp)
  ·rename_i hnm
   have hvx:=hF.ev hx
   obtain⟨A,len,cap,he,rfl,hle,_,_⟩:=hvx.slice_inv
   rw [he] at hvx
   refine Does.quiet hR h ?_ (Z5r hR hs hvx)
   have hpe:P.underlying t=some (.slice (P.elem t)):=by simp [Program.elem,hu]
   have hee:P.elem t=e:=by simp [Program.elem,hu]
   unfold Store.sub at hs
   split at hs
   case isFalse=>exact absurd hs (by simp)
   rename_i hc
   obtain⟨⟨_,m0,m1⟩,⟨h0,h1⟩,l0,l1⟩:=hc
   simp only [execOp,ho,he,Sem.run_bind,run_sliceAt_slice w t _ _ _ _ hpe]
   rcases Zf6 hF hl with ⟨rfl,rfl⟩ | ⟨y,k,n,rfl,rfl,hy⟩ <;> rcases Zf6 hF hu' with ⟨rfl,rfl⟩ | ⟨y',k',n',rfl,rfl,hy'⟩ <;> rcases Zf6 hF hm with ⟨rfl,rfl⟩ | ⟨y2,k2,n2,rfl,rfl,hy2⟩
   ·simp [run_slice_all w t A hd.len cap hpe,hee,Zm hes,capM]
   ·simp at hnm
   ·simp only [Qz,Qn,hy']; simp only [Q8,Q9] at h0 h1 m0 m1 l0 l1
    rw [run_slice_h w t A hd.len cap hpe k' n' h0 (by omega),hee,Zm hes]; rfl
   ·simp only [Qz,Qn,hy',hy2]; simp only [Q8,Q9] at h0 h1 m0 m1 l0 l1
    rw [run_slice_hm w t A hd.len cap hpe k' k2 n' n2 h0 h1 (by omega),hee,Zm hes]; rfl
   ·simp only [Qz,Qn,hy]; simp only [Q8,Q9] at h0 h1 m0 m1 l0 l1
    rw [run_slice_l w t A hd.len cap hpe k n l0 l1,hee,Zm hes]
    simp [Qat,capM]
   ·simp at hnm
   ·simp only [Qz,Qn,hy,hy']; simp only [Q8,Q9] at h0 h1 m0 m1 l0 l1
    rw [run_slice_lh w t A hd.len cap hpe k k' n n' l0 l1 (by omega),hee,Zm hes]; rfl
   ·simp only [Qz,Qn,hy,hy',hy2]; simp only [Q8,Q9] at h0 h1 m0 m1 l0 l1
    rw [run_slice_lhm w t A hd.len cap hpe k k' k2 n n' n2 l0 l1 h1 (by omega),hee,Zm hes]; rfl
 ·rename_i p n e hx hu
  split at h
  case h_2=>exact absurd h (by simp)
  obtain⟨es,hes,h⟩:=Qa.1 h
  obtain⟨hd,hw,hK⟩:=Qa.1 h
  unfold Store.whole at hw
  cases p with
  | none=>exact absurd hw (by simp)
  | some bo=>
   obtain⟨b,off⟩:=bo
   simp only at hw
   split at hw
   case h_2=>exact absurd hw (by simp)
   rename_i l rw' es' hob
   split at hw
   case isFalse=>exact absurd hw (by simp)
   rename_i hc
   obtain⟨⟨rfl,hn⟩,hle⟩:=hc
   injection hw with hw; subst hw
   have hvx:=hF.ev hx
   rcases hvx.ptr_inv with ⟨e1,_⟩ | ⟨b',off',L,e1,hb,he⟩
   ·cases e1
   ·injection e1 with e1; injection e1 with e1 e2; subst e1 e2
    obtain⟨hLe,hLN,_⟩:=hR.cells b l rw' es' L hob hb
    refine Does.quiet (c:=.slice (some ⟨L.blk,L.off+off,none⟩) n n) hR hK ?_ (.sl hb (by simp) (Qh _) (by rw [hLe]; omega))
    have hal:P.arrayLen t=n:=by simp [Program.arrayLen,hu]
    have hpe:P.underlying t=some (.array (P.arrayLen t) (P.elem t)):=by rw [hal]; simp [Program.elem,hu]
    have hee:P.elem t=e:=by simp [Program.elem,hu]
    simp [execOp,ho,he,Sem.run_bind,run_sliceAt_array_all w t _ hpe,hee,Zm hes,hal,slicedAt,show ¬ (n=0) by omega,Addr.add_lit]
 ·exact absurd h (by simp)
theorem Zil(hF:FrR nt μ φ a){l:List (Nat×Operand)}{l':List (Nat×AV)}(h:evParts φ l=some l') :
  l'.length=l.length/\∀ (i:Nat) (x:Nat×AV) (y:Nat×Value),l'[i]?=some x->(l.map fun p=>(p.1,a.eval p.2))[i]?=some y->x.1=y.1/\VR μ x.2 y.2/\x.2≠.undef:=by
 obtain⟨h1,h2⟩:=Zc9 h
 refine⟨h1,fun i x y hx hy=>?_⟩
 rw [QT] at hy
 obtain⟨p,hp,rfl⟩:=Qg.1 hy
 have:=h2 i p x hp hx
 obtain⟨v,hv,hk⟩:=Qa.1 this
 split at hk
 ·exact absurd hk (by simp)
 ·rename_i hu
  injection hk with hk; subst hk
  exact⟨rfl,hF.ev hv,by intro e; subst e; simp [AV.isU] at hu⟩
theorem Zw8(vs:List Value):∀ (k off:Nat) (cs:Array Value),((vs.zipIdx k).foldl (fun cs (c,j)=>cs.setIfInBounds (off+j) c) cs).toList=if off+k+vs.length<=cs.size then cs.toList.take (off+k)++vs++cs.toList.drop (off+k+vs.length) else ((vs.zipIdx k).foldl (fun cs (c,j)=>cs.setIfInBounds (off+j) c) cs).toList:=by
 induction vs with
 | nil=>intro k off cs; simp
 | cons v vs ih=>
  intro k off cs
  by_cases c:off+k+(v::vs).length<=cs.size
  ·rw [if_pos c]
   simp only [Qr] at c
   rw [List.zipIdx_cons,Qaq,ih,if_pos (by simp; omega)]
   have hlt:off+k<cs.toList.length:=by simp; omega
   rw [QQ]
   simpa [Q0] using list_seg_step cs.toList (off+k) v vs (by simp; omega)
  ·rw [if_neg c]
theorem Zis{pl:Nat->Option (Nat×Nat)}(l:List (Nat×AV)):∀ {l':List (Nat×Value)} {cells res:List AV} {cc:Array Value} (_:fillL pl cells l=some res) (_:VL μ cells cc.toList) (_:l.length=l'.length)
  (_:∀ (i:Nat) (x:Nat×AV) (y:Nat×Value),l[i]?=some x->l'[i]?=some y->x.1=y.1/\VR μ x.2 y.2/\x.2≠.undef),∃ cr,Instr.fill pl cc l'=some cr/\VL μ res cr.toList:=by
 induction l with
 | nil=>
  intro l' cells res cc h hv hl _
  have:l'=[]:=Qo (by simpa using hl.symm)
  subst this
  simp only [fillL] at h
  injection h with h; subst h
  exact⟨cc,rfl,hv⟩
 | cons p l ih=>
  intro l' cells res cc h hv hl hp
  cases l' with
  | nil=>simp at hl
  | cons p' l'=>
   obtain⟨i,v⟩:=p
   obtain⟨i',c⟩:=p'
   obtain⟨e,hvc,hu⟩:=hp 0 _ _ rfl rfl
   dsimp only at e hvc hu
   subst e
   simp only [fillL] at h
   cases hpl:pl i with
   | none=>simp [hpl] at h
   | some x=>
    obtain⟨off,size⟩:=x
    simp only [hpl] at h
    split at h
    case isFalse=>exact absurd h (by simp)
    rename_i hc
    obtain⟨hs,hfit⟩:=hc
    have hcl:VL μ v.cells c.cells.toList:=hvc.cells hu
    have hcs:c.cells.size=size:=by rw [<-hs]; have:=hcl.1; simpa using this.symm
    have hccs:cells.length=cc.size:=by simpa using hv.1
    simp only [Instr.fill,hpl]
    rw [if_neg (by simp [hcs]; omega)]
    refine ih h ?_ (by simpa using hl) (fun j x y hx hy=>hp (j+1) x y (by simpa using hx) (by simpa using hy))
    have hfold:=Zw8 c.cells.toList 0 off cc
    rw [if_pos (by simp [hcs]; omega)] at hfold
    have e1:(c.cells.zipIdx.foldl (fun cs (c,j)=>cs.setIfInBounds (off+j) c) cc)=((c.cells.toList.zipIdx 0).foldl (fun cs (c,j)=>cs.setIfInBounds (off+j) c) cc):=by
     rw [<-Qag]; simp
    rw [e1,hfold]
    simp only [QY,Qw,hcs]
    exact ((hv.take off).append hcl).append (hv.drop (off+size))
end
end Go.Ab

namespace Go.Ab
open Go Go.RowKit
section
variable {R:Type} {P:Program} {Γ:Gam} {μ:Mu} {σ:Store} {w:World} {φ:Fr} {a:Act} {K:AV->Store->Option R} {r:R} {nt:Nat} {q:Bool} {ty:TypeId}
theorem Zsf{α β:Type}(xs:Array α){f:α->Sem β}(g:α->β)(h:∀ x∈xs.toList,(f x).run P w=.ok (g x) w):(xs.mapM f).run P w=.ok (xs.map g) w:=by
 rw [QS]
 have key:∀ l:List α,(∀ x∈l,(f x).run P w=.ok (g x) w)->(l.mapM f).run P w=.ok (l.map g) w:=by
  intro l
  induction l with
  | nil=>intro _; simp
  | cons x l ih=>
   intro h
   rw [Qau]
   simp [h x (by simp),ih (fun y hy=>h y (by simp [hy]))]
 have:=key xs.toList h
 simp [this]
 apply QZ
 simp
theorem Zq6(ps:Array (Nat×Operand))(ρ:Operand->Value):(ps.map fun (x:Nat×Operand)=>(x.1,ρ x.2)).toList=ps.toList.map fun p=>(p.1,ρ p.2):=by simp
theorem Zes(hF:FrR nt μ φ a){t:TypeId}{len:Nat}{ps:Array (Nat×Operand)}(h:evOp P Γ q ty φ σ K (.buildSlice t len ps)=some r){o:Oper}(ho:o.op=.buildSlice t len ps):∃ l es mk,K (mk σ.objs.length) (σ.push l es)=some r/\Lays P μ w (execOp a.eval o) l es mk:=by
 simp only [evOp] at h
 split at h
 ·rename_i e hu
  split at h
  ·rename_i zs hzs
   split at h
   case isFalse=>exact absurd h (by simp)
   rename_i hc
   obtain⟨hsz,hfit⟩:=hc
   obtain⟨l,hl,h⟩:=Qa.1 h
   obtain⟨cs,hcs,hK⟩:=Qa.1 h
   unfold zeroCells at hzs
   obtain⟨zv,hzv,rfl⟩:=Qg.1 hzs
   obtain⟨i,z,hi,hiz,hvz,hzu⟩:=Zdd hzv μ
   have hvl:=hvz.cells hzu
   have hmv:=Zky (μ:=μ) hvl len
   obtain⟨h1,h2⟩:=Zil hF hl
   obtain⟨cr,hfill,hcv⟩:=Zis l hcs hmv (by simpa using h1) h2
   refine⟨_,_,fun i=>.slice ⟨some (i,0),len,some len⟩,hK,.inr ⟨_,_,rfl⟩,w,(0,0),cr,e,.slice (some ⟨w.heap.size,0,none⟩) len len,.inl rfl,Thaw.zero _,?_,(by rw [Ql (by rw [hcv.1]; exact Qh _)]; exact hcv),(by rw [hcv.1]; simp),fun μ' i hi'=>?_⟩
   ·have hps:=Zq6 ps a.eval
    have hnot:¬ (16777216<len*zv.cells.length):=by omega
    by_cases e0:len*zv.cells.length=0
    ·have e1:(Qac (len*zv.cells.length)).map (z.cells[· % z.cells.size]!)=#[]:=by rw [e0]; simp
     rw [e1] at hfill
     simp [execOp,ho,Instr.buildSlice,run_underlying hu,Zm hsz,e0,newRow,hfill,Array.range_zero']
    ·simp [execOp,ho,Instr.buildSlice,run_underlying hu,Zm hsz,e0,hnot,zeroValue,typeInfo,hi,hiz,newRow,hfill]
   ·refine VR.sl (L:=⟨w.heap.size,0,_,_⟩) (o:=0) hi' (by simp) (Qh _) ?_
    have hl1:cs.length=cr.size:=by simpa using hcv.1
    have hl2:cs.length=len*zv.cells.length:=by
     have:∀ (l:List (Nat×AV)) (pl:Nat->Option (Nat×Nat)) (c d:List AV),fillL pl c l=some d->d.length=c.length:=by
      intro l pl
      induction l with
      | nil=>intro c d h; simp only [fillL] at h; injection h with h; rw [h]
      | cons p l ih=>
       intro c d h
       obtain⟨i,v⟩:=p
       simp only [fillL] at h
       split at h
       ·exact absurd h (by simp)
       ·split at h
        ·rename_i hc
         rw [ih _ _ h]
         simp only [Qj,QJ,QK]
         omega
        ·exact absurd h (by simp)
     rw [this _ _ _ _ hcs,Zfk]
    dsimp only
    rw [<-hl1,hl2]; omega
  ·exact absurd h (by simp)
 ·exact absurd h (by simp)
theorem Zoc(hF:FrR nt μ φ a)(hR:Rel μ σ w){t:TypeId}{len:Nat}{ps:Array (Nat×Operand)}(h:evOp P Γ q ty φ σ K (.buildSlice t len ps)=some r){o:Oper}(ho:o.op=.buildSlice t len ps):Does false P μ σ w K r (execOp a.eval o):=by
 obtain⟨l,es,mk,hK,hl⟩:=Zes hF h ho
 exact hl.does hR hK
theorem Zr0(hF:FrR nt μ φ a)(hR:Rel μ σ w){fn:Fn}{fi ca:Array Operand}(h:evOp P Γ q ty φ σ K (.makeFunc fn fi ca)=some r){o:Oper}(ho:o.op=.makeFunc fn fi ca):Does false P μ σ w K r (execOp a.eval o):=by
 simp only [evOp] at h
 split at h
 ·rename_i f
  obtain⟨x,hx,h⟩:=Qa.1 h
  obtain⟨y,hy,hK⟩:=Qa.1 h
  have vx:=hF.evs hx
  have vy:=hF.evs hy
  refine Does.quiet (c:=.func (.func f) (fi.map a.eval) (ca.map a.eval)) hR hK (by simp [execOp,ho,Instr.makeFunc]) (.func (by simpa using vx.1) (by simpa using vy.1) ?_ ?_)
  ·intro i u v hu hv
   refine vx.2 i u v hu ?_
   rw [<-Q3,Q7] at hv; exact hv
  ·intro i u v hu hv
   refine vy.2 i u v hu ?_
   rw [<-Q3,Q7] at hv; exact hv
 ·exact absurd h (by simp)
theorem Zzl(hF:FrR nt μ φ a)(hR:Rel μ σ w){t:TypeId}{ps:Array (Nat×Operand)}(h:evOp P Γ q ty φ σ K (.build t ps)=some r){o:Oper}(ho:o.op=.build t ps):Does false P μ σ w K r (execOp a.eval o):=by
 simp only [evOp] at h
 split at h
 ·rename_i zs fs hzs hu
  split at h
  case isFalse=>exact absurd h (by simp)
  rename_i hall
  obtain⟨l,hl,h⟩:=Qa.1 h
  obtain⟨cs,hcs,hK⟩:=Qa.1 h
  unfold zeroCells at hzs
  obtain⟨zv,hzv,rfl⟩:=Qg.1 hzs
  obtain⟨i,z,hi,hiz,hvz,hzu⟩:=Zdd hzv μ
  have hvl:=hvz.cells hzu
  obtain⟨h1,h2⟩:=Zil hF hl
  obtain⟨cr,hfill,hcv⟩:=Zis l hcs hvl (by simpa using h1) h2
  have hmap:(fs.mapM fun (f:Field)=>(Prod.mk f.offset <$> sizeOf f.type:Sem (Nat×Nat))).run P w=.ok (fs.map fun f=>(f.offset,(szOf P f.type).getD 0)) w:=by
   refine Zsf _ _ fun f hf=>?_
   have:=QV.1 hall f hf
   obtain⟨n,hn⟩:=QC.1 this
   simp [Zm hn,hn]
  have hpl:(fun i=>(fs.map fun f=>(f.offset,(szOf P f.type).getD 0))[i]?)=placeS P fs.toList:=by
   funext i
   simp only [placeS,Qah,Q3]
   cases hf:fs[i]? with
   | none=>rfl
   | some f=>
    have:=QV.1 hall f (by rw [Array.mem_toList_iff]; exact Array.mem_of_getElem? hf)
    obtain⟨n,hn⟩:=QC.1 this
    simp [hn]
  rw [<-hpl] at hfill
  simp only [Qah] at hfill
  refine Does.quiet (c:=.agg cr) hR hK ?_ (.agg (by simpa using hcv.1) fun i x y hx hy=>hcv.2 i x y hx (by simpa using hy))
  simp [execOp,ho,Instr.build,zeroValue,typeInfo,hi,hiz,run_underlying hu,hmap,hfill]
 ·exact absurd h (by simp)
theorem Zkv{isMax:Bool}{k:IntKind}(l:List AV):∀ {x:Int} {l':List Value} {K:AV->Option R} (_:maxK isMax x l k K=some r) (_:VL μ l l'),
  ∃ n,K (.int k n)=some r/\(l'.foldlM (if isMax then Builtin.max2 else Builtin.min2) (.int k x)).run P w=.ok (.int k n) w:=by
 induction l with
 | nil=>intro x l' K h hv; obtain rfl:=hv.inv_nil; exact⟨x,h,rfl⟩
 | cons v l ih=>
  intro x l' K h hv
  obtain⟨c,cr,rfl,hvc,hvr⟩:=hv.inv_cons
  cases v with
  | int k' y=>
   simp only [maxK] at h
   split at h
   ·rename_i e; subst e
    obtain rfl:=hvc.int_inv
    obtain⟨n,hK,hrun⟩:=ih h hvr
    refine⟨n,hK,?_⟩
    rw [List.foldlM_cons]
    cases isMax
    ·simp only [QP,if_false] at hrun ⊢
     simp only [Builtin.min2,Sem.run_bind]
     simpa [mn2] using hrun
    ·simp only [if_true] at hrun ⊢
     simp only [Builtin.max2,Sem.run_bind]
     simpa [mx2] using hrun
   ·exact absurd h (by simp)
  | _=>simp [maxK] at h
theorem Zun{σ':Store}(hR:Rel μ σ w){t t' e ty:TypeId}(hu:P.underlying t=some (.slice e)){es:Nat}(hes:szOf P e=some es){hd g:Hdl}{xs:List AV}{d s:Value}(vd:VR μ (.slice hd) d)(vs:VR μ (.slice g) s)
  (hr:σ.readSl ⟨g.a,min g.len hd.len,g.cap⟩ es=some xs) (hs:σ.stL hd.a xs 0=some σ') :
  ∃ w',(Builtin.copy_ #[t,t'] ty #[d,s]).run P w=.ok (.int .i64 (min g.len hd.len:Nat)) w'/\Ste μ σ w μ σ' w':=by
 obtain⟨a,len,cap,rfl,rfl,hl,hc,hcase⟩:=vs.slice_inv
 obtain⟨a',len',cap',rfl,rfl,hl',hc',hcase'⟩:=vd.slice_inv
 have vs':VR μ (.slice ⟨g.a,min g.len hd.len,g.cap⟩) (.slice a (min g.len hd.len) cap):=by
  rcases hcase with ⟨e1,e2,e3⟩ | ⟨b,o,ad,e1,e2,e3⟩ | ⟨b,o,L,e1,e2,e3,e4⟩
  ·have:min g.len hd.len=0:=by omega
   subst e2 e3; rw [e1,this]; exact .slN hc
  ·have:min g.len hd.len=0:=by omega
   subst e2 e3; rw [e1,this]; exact .sl0 hc
  ·subst e3; rw [e1]; exact .sl e2 hc (by omega) e4
 obtain⟨cs,hcl,hcv,hfirst⟩:=Zhy (P:=P) hR hr vs'
 have hf:(Builtin.firstCells es (min g.len hd.len) (.slice a g.len cap)).run P w=.ok cs.toArray w:=by
  have:=hfirst w rfl
  cases a <;> exact this
 have run:∀ w',(∀ ad,a'=some ad->(storeCells ad cs).run P w=.ok () w')->(a'=none->w'=w)->(Builtin.copy_ #[t,t'] ty #[.slice a' hd.len cap',.slice a g.len cap]).run P w=.ok (.int .i64 (min g.len hd.len:Nat)) w':=by
  intro w' h1 h2
  have hf:=hf
  rw [Qan] at hf
  cases a' with
  | none=>
   rw [h2 rfl]
   simp [Builtin.copy_,run_underlying hu,Builtin.lenOf,Zm hes,hf,goInt,Qan]
  | some ad=>simp [Builtin.copy_,run_underlying hu,Builtin.lenOf,Zm hes,hf,h1 ad rfl,goInt,Qan]
 have zero:min g.len hd.len=0->∃ w',(Builtin.copy_ #[t,t'] ty #[.slice a' hd.len cap',.slice a g.len cap]).run P w=.ok (.int .i64 (min g.len hd.len:Nat)) w'/\Ste μ σ w μ σ' w':=by
  intro h0
  have e1:cs=[]:=Qo (by rw [hcl]; simp [h0])
  have e2:xs=[]:=Qo (by rw [hcv.1,e1]; rfl)
  subst e1 e2
  simp only [Store.stL] at hs
  injection hs with hs; subst hs
  exact⟨w,run w (fun _ _=>rfl) fun _=>rfl,Ste.refl hR⟩
 rcases hcase' with ⟨e1,e2,e3⟩ | ⟨b,o,ad,e1,e2,e3⟩ | ⟨b,o,L,e1,e2,e3,e4⟩
 ·exact zero (by omega)
 ·exact zero (by omega)
 ·subst e3
  rw [e1] at hs
  obtain⟨w',hrun,hste⟩:=Zn2 (P:=P) xs hR hs (VR.ptr e2) hcv
  exact⟨w',run w' (fun ad e=>by injection e with e; subst e; exact hrun) (fun e=>by cases e),hste⟩
theorem Zuq(hF:FrR nt μ φ a)(hR:Rel μ σ w){b:Builtin}{args:List Operand}{vs:List AV}(hvs:φ.evs args=some vs){ts:List TypeId}(h:evBuiltin P b ts vs σ K=some r){o:Oper}{c:Call}(ho:o.op=.call c)
  (hc:c.callee=.builtin b) (hca:c.args.toList=args) (hct:c.argTypes.toList=ts):Does (b == .append || b == .copy) P μ σ w K r (execOp a.eval o):=by
 have hv:=hF.evs hvs
 have hargs:c.args.map a.eval=(args.map a.eval).toArray:=by apply QZ; simp [hca]
 have hts:c.argTypes=ts.toArray:=by apply QZ; simp [hct]
 have ex:execOp a.eval o=(do let d <-resolve a.eval c o.type; invoke d.target d.args):=by simp only [execOp,ho]
 have inv:∀ (s:Sem Value) (x:Value) (w':World),s.run P w=.ok x w'->(∀ cs,builtin b c.argTypes o.type cs (c.args.map a.eval)=(do pure (.value (<-s))))->(execOp a.eval o).run P w=.ok (.value x) w':=by
  intro s x w' hs hb
  rw [ex]
  simp only [resolve,hc,Sem.run_bind,Sem.run_pure,Qd,invoke,hb,hs]
 unfold evBuiltin at h
 split at h
 ·rename_i hd
  split at h
  ·rename_i t
   split at h
   ·rename_i e hu
    obtain⟨c1,cr,hcr,hv1,hvr⟩:=hv.inv_cons
    obtain rfl:=hvr.inv_nil
    obtain⟨A,len,cap,rfl,rfl,_⟩:=hv1.slice_inv
    rw [hcr] at hargs
    refine Does.quiet (c:=.int .i64 hd.len) hR h (inv (Builtin.len_ c.argTypes o.type (c.args.map a.eval)) _ _ ?_ (fun _=>rfl)) (.int _ _)
    rw [hargs,hts]
    simp [Builtin.len_,run_underlying hu,goInt]
   ·exact absurd h (by simp)
  ·exact absurd h (by simp)
 ·rename_i s
  split at h
  ·rename_i t
   split at h
   ·rename_i hu
    obtain⟨c1,cr,hcr,hv1,hvr⟩:=hv.inv_cons
    obtain rfl:=hvr.inv_nil
    obtain rfl:=hv1.str_inv
    rw [hcr] at hargs
    refine Does.quiet (c:=.int .i64 s.size) hR h (inv (Builtin.len_ c.argTypes o.type (c.args.map a.eval)) _ _ ?_ (fun _=>rfl)) (.int _ _)
    rw [hargs,hts]
    simp [Builtin.len_,run_underlying hu,goInt]
   ·exact absurd h (by simp)
  ·exact absurd h (by simp)
 ·rename_i hd
  split at h
  ·rename_i t
   split at h
   ·rename_i e hu
    obtain⟨c0,hc0,h⟩:=Qa.1 h
    obtain⟨c1,cr,hcr,hv1,hvr⟩:=hv.inv_cons
    obtain rfl:=hvr.inv_nil
    obtain⟨A,len,cap,rfl,rfl,_,hcp,_⟩:=hv1.slice_inv
    obtain rfl:=hcp _ hc0
    rw [hcr] at hargs
    refine Does.quiet (c:=.int .i64 c0) hR h (inv (Builtin.cap_ c.argTypes o.type (c.args.map a.eval)) _ _ ?_ (fun _=>rfl)) (.int _ _)
    rw [hargs,hts]
    simp [Builtin.cap_,run_underlying hu,goInt]
   ·exact absurd h (by simp)
  ·exact absurd h (by simp)
 ·rename_i hd g
  split at h
  ·rename_i t t'
   split at h
   ·rename_i e hu
    obtain⟨es,hes,h⟩:=Qa.1 h
    obtain⟨xs,hxs,h⟩:=Qa.1 h
    obtain⟨σ',hst,h⟩:=Qa.1 h
    obtain⟨c1,cr,hcr,hv1,hvr⟩:=hv.inv_cons
    obtain⟨c2,cr2,rfl,hv2,hvr2⟩:=hvr.inv_cons
    obtain rfl:=hvr2.inv_nil
    obtain⟨w',hrun,hste⟩:=Zun (ty:=o.type) (t':=t') hR hu hes hv1 hv2 hxs hst
    rw [hcr] at hargs
    refine⟨_,_,μ,w',_,h,.inl (inv (Builtin.copy_ c.argTypes o.type (c.args.map a.eval)) (.int .i64 (min g.len hd.len:Nat)) w' ?_ (fun _=>rfl)),⟨hste,fun e=>by cases e⟩,.int _ _⟩
    rw [hargs,hts]
    exact hrun
   ·exact absurd h (by simp)
  ·exact absurd h (by simp)
 ·rename_i k x l
  obtain⟨c1,cr,hcr,hv1,hvr⟩:=hv.inv_cons
  obtain rfl:=hv1.int_inv
  obtain⟨n,hK,hrun⟩:=Zkv (P:=P) (w:=w) l h hvr
  rw [hcr] at hargs
  refine Does.quiet hR hK (inv (Builtin.max_ c.argTypes o.type (c.args.map a.eval)) _ _ ?_ (fun _=>rfl)) (.int _ _)
  rw [hargs]
  exact hrun
 ·rename_i k x l
  obtain⟨c1,cr,hcr,hv1,hvr⟩:=hv.inv_cons
  obtain rfl:=hv1.int_inv
  obtain⟨n,hK,hrun⟩:=Zkv (P:=P) (w:=w) l h hvr
  rw [hcr] at hargs
  refine Does.quiet hR hK (inv (Builtin.min_ c.argTypes o.type (c.args.map a.eval)) _ _ ?_ (fun _=>rfl)) (.int _ _)
  rw [hargs]
  exact hrun
 ·rename_i hd g
  split at h
  ·rename_i t t'
   split at h
   ·rename_i e e' hu hu'
    split at h
    ·rename_i es by_ hes hby
     split at h
     case isFalse=>exact absurd h (by simp)
     rename_i hz
     obtain⟨xs,hxs,h⟩:=Qa.1 h
     obtain⟨rr,hrr,hK⟩:=Qa.1 h
     obtain⟨hd',σ'⟩:=rr
     obtain⟨c1,cr,hcr,hv1,hvr⟩:=hv.inv_cons
     obtain⟨c2,cr2,rfl,hv2,hvr2⟩:=hvr.inv_cons
     obtain rfl:=hvr2.inv_nil
     rw [hcr] at hargs
     obtain⟨μ',w',cv,hrun,hst,hvv⟩:=Zv9 (ty:=o.type) hR hu hu' hes hby hz hv1 hv2 hxs hrr
     refine⟨_,_,μ',w',cv,hK,.inl (inv (Builtin.append_ c.argTypes o.type (c.args.map a.eval)) _ _ ?_ (fun _=>rfl)),⟨hst,fun e=>by cases e⟩,hvv⟩
     rw [hargs,hts]
     exact hrun
    ·exact absurd h (by simp)
   ·exact absurd h (by simp)
  ·exact absurd h (by simp)
 ·exact absurd h (by simp)
end
end Go.Ab

namespace Go.Ab
open Go Go.RowKit
theorem Ste.newMap{μ:Mu}{σ:Store}{w:World}(h:Rel μ σ w) :
  Ste μ σ w (μ.up σ.objs.length ⟨w.heap.size,0,0,0⟩) { σ with objs:=σ.objs++[.map []] } (w.alloc (.map #[] 0)):=by
 have hget:∀ (i:Nat),(σ.objs++[.map []])[i]?=if i=σ.objs.length then some (.map []) else σ.objs[i]?:=by
  intro i
  by_cases e:i=σ.objs.length
  ·subst e; simp
  ·rw [if_neg e]
   by_cases c:i<σ.objs.length
   ·rw [Qe c]
   ·rw [Qf (by omega),Qk (l:=σ.objs) (by omega),Qk (by simp; omega)]
 have hsz:(w.alloc (.map #[] 0)).heap.size=w.heap.size+1:=by simp
 have hnew:(w.alloc (.map #[] 0)).heap[w.heap.size]?=some (.map #[] 0):=by
  exact World.alloc_heap_new w (.map #[] 0)
 have hold:∀ c,c<w.heap.size->(w.alloc (.map #[] 0)).heap[c]?=w.heap[c]?:=fun c hc=>by
  rw [Below.heap_alloc _ _ _ hc]
 have hmono:∀ b L,μ b=some L->(μ.up σ.objs.length ⟨w.heap.size,0,0,0⟩) b=some L:=fun b L hb=>by
  rw [Mu.up_ne _ _ (by have:=h.dom b L hb; omega)]; exact hb
 have hos:(w.alloc (.map #[] 0)).os=w.os:=rfl
 have htp:(w.alloc (.map #[] 0)).tape=w.tape:=rfl
 have hou:(w.alloc (.map #[] 0)).output=w.output:=rfl
 have hdr:(w.alloc (.map #[] 0)).drawn=w.drawn:=rfl
 generalize w.alloc (.map #[] 0)=w' at *
 refine⟨⟨?_,?_,?_,?_,?_,?_⟩,?_,?_,rfl,?_,by omega,hos,htp,hou,fun c hc _=>hold c hc,?_,by rw [hdr]; exact Qh _⟩
 ·intro b L hb
  simp only [Qj,Qr,QD]
  by_cases e:b=σ.objs.length
  ·omega
  ·rw [Mu.up_ne _ _ e] at hb; have:=h.dom b L hb; omega
 ·intro b L hb
  by_cases e:b=σ.objs.length
  ·subst e; rw [Mu.up_self] at hb; injection hb with hb; subst hb; exact .inr (.inl ⟨_,_,hnew⟩)
  ·rw [Mu.up_ne _ _ e] at hb; exact (h.dat b L hb).of (hold _ (h.lt b L hb))
 ·intro b k rw es' L ho hb
  simp only [hget] at ho
  by_cases e:b=σ.objs.length
  ·rw [if_pos e] at ho; cases ho
  ·rw [if_neg e] at ho
   rw [Mu.up_ne _ _ e] at hb
   obtain⟨h1,h2,h3⟩:=h.cells b k rw es' L ho hb
   exact⟨h1,h2,fun j v hj=>by obtain⟨c,hc,hv'⟩:=h3 j v hj; exact⟨c,(Zy (hold _ (h.lt b L hb))).trans hc,hv'.mono hmono⟩⟩
 ·intro b k es' L ho hb
  simp only [hget] at ho
  by_cases e:b=σ.objs.length
  ·rw [if_pos e] at ho; cases ho
  ·rw [if_neg e] at ho
   rw [Mu.up_ne _ _ e] at hb
   rw [hold _ (h.lt b L hb)]
   exact h.rw b k es' L ho hb
 ·intro b k L ho hx hb
  simp only [hget] at ho
  by_cases e:b=σ.objs.length
  ·subst e
   rw [if_pos rfl] at ho; injection ho with ho; subst ho
   rw [Mu.up_self] at hb; injection hb with hb; subst hb
   exact⟨_,hnew,rfl,fun i x y hx=>by simp at hx⟩
  ·rw [if_neg e] at ho
   rw [Mu.up_ne _ _ e] at hb
   rw [hold _ (h.lt b L hb)]
   obtain⟨ob,h1,h2⟩:=h.obj b k L ho hx hb
   exact⟨ob,h1,h2.mono hmono⟩
 ·intro b b' o o' L L' h1 h2 h3 h4 h5 h6 h7
  simp only [hget] at h1 h3
  by_cases e:b=σ.objs.length
  ·have e':b'≠σ.objs.length:=fun x=>h5 (e.trans x.symm)
   rw [Mu.up_ne _ _ e'] at h7
   subst e
   rw [Mu.up_self] at h6; injection h6 with h6; subst h6
   have:=h.lt b' L' h7
   dsimp only; omega
  ·rw [if_neg e] at h1
   rw [Mu.up_ne _ _ e] at h6
   by_cases e':b'=σ.objs.length
   ·subst e'
    rw [Mu.up_self] at h7; injection h7 with h7; subst h7
    have:=h.lt b L h6
    dsimp only; omega
   ·rw [if_neg e'] at h3
    rw [Mu.up_ne _ _ e'] at h7
    exact h.sep b b' o o' L L' h1 h2 h3 h4 h5 h6 h7
 ·intro b hb; exact Mu.up_ne _ _ (by omega)
 ·simp
 ·intro b hb hbl
  simp only [hget]; rw [if_neg (by omega)]
 ·rintro c ⟨b,o,L,hb,hf,hp,hL,rfl⟩ hc
  simp only [hget] at hb
  by_cases e:b=σ.objs.length
  ·subst e
   rw [Mu.up_self] at hL; injection hL with hL; subst hL
   simp only at hc; omega
  ·rw [if_neg e] at hb
   rw [Mu.up_ne _ _ e] at hL
   exact⟨b,o,L,hb,hf,hp,hL,rfl⟩
theorem Zk3{o:AObj}(h:o.other=true):o.free=true:=by cases o <;> first | rfl | cases h
theorem Rel.wobj{μ:Mu}{σ:Store}{w:World}(h:Rel μ σ w){b:Nat}{o:AObj}(ho:σ.objs[b]?=some o)(hx:o.other=true){L:Loc}(hb:μ b=some L){o':AObj}{ob:Obj}
  (hc:∀ l rw es,o'≠.cells l rw es) (hd:(∃ es clock,ob=.map es clock)\/∃ r,ob=.loop r) (hOR:o'.other=true->OR μ o' ob):Rel μ (σ.setO b o') (w.putObj L.blk ob):=by
 have hlt:b<σ.objs.length:=(Qc.1 ho).1
 have hL:L.blk<w.heap.size:=h.lt b L hb
 have hget:∀ (i:Nat),(σ.setO b o').objs[i]?=if b=i then some o' else σ.objs[i]?:=by
  intro i; show (σ.objs.set b o')[i]?=_
  rw [Qq]; by_cases e:b=i
  ·rw [if_pos e,if_pos e,if_pos (e ▸ hlt)]
  ·rw [if_neg e,if_neg e]
 have hfar:∀ c,c≠L.blk->(w.putObj L.blk ob).heap[c]?=w.heap[c]?:=fun c hc=>World.putObj_heap_other hc
 have hsame:(w.putObj L.blk ob).heap[L.blk]?=some ob:=World.putObj_heap_same hL
 have hne:∀ (i:Nat) (o:AObj) (L':Loc),i≠b->σ.objs[i]?=some o->o.alive=true->μ i=some L'->L'.blk≠L.blk:=fun i p L' hi hio ha hL=>Ne.symm (h.sep b i _ p L L' ho (Zk3 hx) hio ha (Ne.symm hi) hb hL)
 have hold:∀ (i:Nat) (p:AObj),(σ.setO b o').objs[i]?=some p->∃ p':AObj,σ.objs[i]?=some p'/\(p.free=true->p'.free=true)/\(p.alive=true->p'.alive=true):=by
  intro i p hi
  rw [hget] at hi
  by_cases e:b=i
  ·subst e; exact⟨o,ho,fun _=>Zk3 hx,fun _=>Zby hx⟩
  ·rw [if_neg e] at hi; exact⟨p,hi,id,id⟩
 refine⟨?_,?_,?_,?_,?_,?_⟩
 ·intro i L' hi; simpa [Store.setO] using h.dom i L' hi
 ·intro i L' hi
  by_cases e:L'.blk=L.blk
  ·rw [e]
   rcases hd with ⟨es,clock,rfl⟩ | ⟨r,rfl⟩
   ·exact .inr (.inl ⟨es,clock,hsame⟩)
   ·exact .inr (.inr ⟨r,hsame⟩)
  ·exact (h.dat i L' hi).of (hfar _ e)
 ·intro i k rw es' L' hi hL'
  rw [hget] at hi
  by_cases e:b=i
  ·rw [if_pos e] at hi; injection hi with hi; exact absurd hi (hc _ _ _)
  ·rw [if_neg e] at hi
   obtain⟨h1,h2,h3⟩:=h.cells i k rw es' L' hi hL'
   exact⟨h1,h2,fun j v hj=>by obtain⟨c,hc,hv'⟩:=h3 j v hj; exact⟨c,(Zy (hfar _ (hne i _ L' (Ne.symm e) hi rfl hL'))).trans hc,hv'⟩⟩
 ·intro i k es' L' hi hL'
  rw [hget] at hi
  by_cases e:b=i
  ·rw [if_pos e] at hi; injection hi with hi; exact absurd hi (hc _ _ _)
  ·rw [if_neg e] at hi
   rw [hfar _ (hne i _ L' (Ne.symm e) hi rfl hL')]
   exact h.rw i k es' L' hi hL'
 ·intro i k L' hi hx' hL'
  rw [hget] at hi
  by_cases e:b=i
  ·subst e
   rw [if_pos rfl] at hi; injection hi with hi; subst hi
   obtain rfl:L=L':=by rw [hb] at hL'; injection hL'
   exact⟨ob,hsame,hOR hx'⟩
  ·rw [if_neg e] at hi
   rw [hfar _ (hne i _ L' (Ne.symm e) hi (Zby hx') hL')]
   exact h.obj i k L' hi hx' hL'
 ·intro i i' p p' L1 L2 h1 h2 h3 h4 h5 h6 h7
  obtain⟨q,hq1,hq2,hq3⟩:=hold i p h1
  obtain⟨q',hq1',hq2',hq3'⟩:=hold i' p' h3
  exact h.sep i i' q q' L1 L2 hq1 (hq2 h2) hq1' (hq3' h4) h5 h6 h7
theorem Ste.wobj{μ μ0:Mu}{σ σ0:Store}{w w0:World}(hs:Ste μ0 σ0 w0 μ σ w){b:Nat}{o:AObj}(ho:σ.objs[b]?=some o)(hx:o.other=true){L:Loc}(hb:μ b=some L){o':AObj}{ob:Obj}
  (hc:∀ l rw es,o'≠.cells l rw es) (hd:(∃ es clock,ob=.map es clock)\/∃ r,ob=.loop r) (hOR:o'.other=true->OR μ o' ob)
  (hk:σ0.prot<=b\/σ0.objs.length<=b) (hpr:L.blk<w0.heap.size->Own μ0 σ0 L.blk) :
  Ste μ0 σ0 w0 μ (σ.setO b o') (w.putObj L.blk ob) where
 rel:=hs.rel.wobj ho hx hb hc hd hOR
 agree:=hs.agree
 len:=by simpa [Store.setO] using hs.len
 prot:=hs.prot
 keep:=fun i hi hl=>by
  rw [<-hs.keep i hi hl]
  show (σ.objs.set b o')[i]?=_
  rw [Qq,if_neg (by omega)]
 size:=by rw [World.putObj_size]; exact hs.size
 os:=hs.os
 tape:=hs.tape
 output:=hs.output
 drawn:=hs.drawn
 pres:=fun c hc hn=>by
  rw [World.putObj_heap_other (fun e=>hn (by subst e; exact hpr hc))]
  exact hs.pres c hc hn
 own:=by
  rintro c ⟨i,p,L',hi,hf,hp,hL',rfl⟩ hc
  by_cases e:b=i
  ·subst e
   obtain rfl:L=L':=by rw [hb] at hL'; injection hL'
   exact hpr hc
  ·refine hs.own _ ⟨i,p,L',?_,hf,hp,hL',rfl⟩ hc
   have:(σ.objs.set b o')[i]?=some p:=hi
   rwa [Qq,if_neg e] at this
section
variable {P:Program} {μ:Mu}
theorem Zbu{kd:IntKind}{k:IntKind}{n:Int}:∀ (l:List (AV×AV)) (es:List MapEntry) (i:Nat) (o:Option Nat),l.length=es.length->(∀ (j:Nat) (x:AV×AV) (y:MapEntry),l[j]?=some x->es[j]?=some y->ER μ x y)->mapIdx k n l i=some o ->
  (o=none->Instr.findNow (.int kd) (.int k n) es i=some none)/\∀ j,o=some j->∃ (x:AV×AV) (y:MapEntry),i<=j/\l[j-i]?=some x/\es[j-i]?=some y/\y.key=.int k n/\Instr.findNow (.int kd) (.int k n) es i=some (some (j,y.val))
 | [],es,i,o,hl,_,h=>by
  have:es=[]:=Qo (by simpa using hl.symm)
  subst this
  simp [mapIdx] at h
  subst h
  exact⟨fun _=>rfl,fun j e=>by cases e⟩
 | (u,v)::l,es,i,o,hl,hE,h=>by
  obtain⟨e,es,rfl⟩:∃ e es',es=e::es':=by
   cases es with
   | nil=>simp at hl
   | cons e es=>exact⟨e,es,rfl⟩
  have h0:=(hE 0 (u,v) e rfl rfl).1
  cases u with
  | int k' m=>
   simp only [mapIdx] at h
   have hk:e.key=.int k' m:=by cases hh:e.key <;> rw [hh] at h0 <;> cases h0; rfl
   split at h
   ·rename_i ek
    subst ek
    split at h
    ·rename_i em
     subst em
     injection h with h; subst h
     refine And.intro (fun e=>by cases e) (fun j ej=>?_)
     injection ej with ej; subst ej
     exact⟨(.int k' m,v),e,Qh _,by simp,by simp,hk,by simp [Instr.findNow,Instr.sameNow,hk]⟩
    ·rename_i em
     have ih:=Zbu (kd:=kd) l es (i+1) o (by simpa using hl) (fun j x y hx hy=>hE (j+1) x y (by simpa using hx) (by simpa using hy)) h
     have hs:Instr.sameNow (.int kd) (.int k' n) e.key=some false:=by
      rw [hk]; simp [Instr.sameNow]; intro hh; exact em hh.symm
     refine⟨fun eo=>?_,fun j ej=>?_⟩
     ·simp only [Instr.findNow,hs]; exact ih.1 eo
     ·obtain⟨x,y,h1,h2,h3,h4,h5⟩:=ih.2 j ej
      refine⟨x,y,by omega,?_,?_,h4,by simp only [Instr.findNow,hs]; exact h5⟩
      ·rw [show j-i=(j-(i+1))+1 by omega]; simpa using h2
      ·rw [show j-i=(j-(i+1))+1 by omega]; simpa using h3
   ·cases h
  | _=>simp [mapIdx] at h
theorem Zv6{t:TypeId}{z:AV}(h:zeroOf P t=some z)(w:World):∃ c,(zeroValue t).run P w=.ok c w/\VR μ z c:=by
 unfold zeroOf at h
 obtain⟨c,hc,hz⟩:=Qa.1 h
 obtain⟨i,hi,hiz⟩:=Qa.1 hc
 refine⟨c,by simp [zeroValue,typeInfo,hi,hiz],(Zk0 hz μ).1⟩
end
section
variable {R:Type} {P:Program} {Γ:Gam} {μ:Mu} {σ:Store} {w:World} {φ:Fr} {a:Act} {K:AV->Store->Option R} {r:R} {nt:Nat} {q:Bool} {ty:TypeId}
theorem Zgw{t:TypeId}{kd k:IntKind}{n:Int}(h:P.underlying t=some (.int kd))(b:Bool)(m:Nat)(w:World):(Instr.checkKey b (m+1) t (.int k n)).run P w=.ok () w:=by
 unfold Instr.checkKey
 simp only [Sem.run_bind,run_underlying h,Qd]
 rfl
theorem Zks{t key elem:TypeId}{kd k:IntKind}{n:Int}{ok:Bool}{cx:Value}{es:Array MapEntry}{res:Option (Nat×Value)}(hu:P.underlying t=some (.map key elem))(hk:P.underlying key=some (.int kd))
  (hes:(cx=.map none/\es=#[])\/∃ b clock,cx=.map (some b)/\w.heap[b]?=some (.map es clock)) (hf:Instr.findNow (.int kd) (.int k n) es.toList 0=some res) :
  (∀ v j,res=some (j,v)->(Instr.lookup t cx (.int k n) ok).run P w=.ok (if ok=true then .tuple #[v,.bool true] else v) w) /\
  (∀ z,res=none->(zeroValue elem).run P w=.ok z w->(Instr.lookup t cx (.int k n) ok).run P w=.ok (if ok=true then .tuple #[z,.bool false] else z) w):=by
 have h1:∀ b,(Instr.checkKey b 10000 key (.int k n)).run P w=.ok () w:=fun b=>Zgw hk b 9999 w
 have h2:(Instr.findKey key (.int k n) es.toList).run P w=.ok res w:=by
  simp only [Instr.findKey,Sem.run_bind,run_underlying hk,Qd,hf,Sem.run_pure]
 constructor
 ·rintro v j rfl
  rcases hes with ⟨rfl,rfl⟩ | ⟨b,clock,rfl,hb⟩
  ·simp only [Instr.lookup,Sem.run_bind,run_underlying hu,Qd,Sem.run_pure,h1,h2]
  ·have hg:(getObj b).run P w=.ok (.map es clock) w:=by simp [getObj,Sem.run,hb]
   simp only [Instr.lookup,Sem.run_bind,run_underlying hu,Qd,Sem.run_pure,hg,h1,h2]
 ·rintro z rfl hz
  rcases hes with ⟨rfl,rfl⟩ | ⟨b,clock,rfl,hb⟩
  ·simp only [Instr.lookup,Sem.run_bind,run_underlying hu,Qd,Sem.run_pure,h1,h2,hz]
  ·have hg:(getObj b).run P w=.ok (.map es clock) w:=by simp [getObj,Sem.run,hb]
   simp only [Instr.lookup,Sem.run_bind,run_underlying hu,Qd,Sem.run_pure,hg,h1,h2,hz]
theorem Zjf(hF:FrR nt μ φ a)(hR:Rel μ σ w){t:TypeId}{x:Operand}(h:evOp P Γ q ty φ σ K (.makeInterface t x)=some r){o:Oper}(ho:o.op=.makeInterface t x):Does false P μ σ w K r (execOp a.eval o):=by
 simp only [evOp] at h
 split at h
 ·cases h
 ·cases h
 ·rename_i d hn hu
  obtain⟨v,hv,hK⟩:=Qa.1 h
  refine Does.quiet (c:=.iface t (a.eval x)) hR hK ?_ (.iface (hF.ev hv))
  simp only [execOp,ho,Instr.makeInterface,Sem.run_bind,run_underlying hu,Qd]
  cases d <;> first | rfl | (exact absurd rfl (hn _))
theorem Zut(hF:FrR nt μ φ a)(hR:Rel μ σ w){t:TypeId}{x:Option Operand}(h:evOp P Γ q ty φ σ K (.makeMap t x)=some r){o:Oper}(ho:o.op=.makeMap t x):Does false P μ σ w K r (execOp a.eval o):=by
 have hs:=Ste.newMap hR
 have qt:Qt σ { σ with objs:=σ.objs++[.map []] } w (w.alloc (.map #[] 0)):=⟨fun b hb=>by simp only []; rw [Qe hb],fun c hc=>Below.heap_alloc w _ c hc⟩
 have hv:VR (μ.up σ.objs.length ⟨w.heap.size,0,0,0⟩) (.map (some σ.objs.length)) (.map (some w.heap.size)):=.map (L:=⟨w.heap.size,0,0,0⟩) (Mu.up_self _ _ _)
 simp only [evOp] at h
 split at h
 ·exact⟨_,_,_,_,_,h,.inl (by simp [execOp,ho,Instr.makeMap]),⟨hs,fun _=>qt⟩,hv⟩
 ·split at h
  ·rename_i x k e k' n hu hx
   have hx':=(hF.ev hx).int_inv
   exact⟨_,_,_,_,_,h,.inl (by simp [execOp,ho,Instr.makeMap,run_underlying hu,hx',asInt,asIntOf]),⟨hs,fun _=>qt⟩,hv⟩
  ·cases h
theorem Zwp(hF:FrR nt μ φ a)(hR:Rel μ σ w){t:TypeId}{x i:Operand}{ok:Bool}(h:evOp P Γ q ty φ σ K (.lookup t x i ok)=some r)(hc:∀ {t:TypeId} {v:AV} {K:AV->Option R},castT P t v K=some r->K v=some r){o:Oper}(ho:o.op=.lookup t x i ok):Does false P μ σ w K r (execOp a.eval o):=by
 simp only [evOp] at h
 split at h
 case h_2=>cases h
 rename_i key elem m k n hu hx hi
 split at h
 case h_2=>cases h
 rename_i kd hk
 obtain⟨z,hz,h⟩:=Qa.1 h
 obtain⟨ov,hov,h⟩:=Qa.1 h
 have hi':=(hF.ev hi).int_inv
 have hxv:=hF.ev hx
 generalize he:a.eval x=cx at hxv
 have ent:∃ es:Array MapEntry,((cx=.map none/\es=#[])\/∃ b clock,cx=.map (some b)/\w.heap[b]?=some (.map es clock))/\((ov=none/\Instr.findNow (.int kd) (.int k n) es.toList 0=some none)\/∃ v j c,ov=some v/\Instr.findNow (.int kd) (.int k n) es.toList 0=some (some (j,c))/\VR μ v c):=by
  cases hxv with
  | mapN=>
   simp only [Store.look] at hov
   injection hov with hov
   exact⟨#[],.inl ⟨rfl,rfl⟩,.inl ⟨hov.symm,rfl⟩⟩
  | @map b L hb=>
   simp only [Store.look] at hov
   split at hov
   ·rename_i l ho'
    obtain⟨ob,hob,hOR⟩:=hR.obj b _ L ho' rfl hb
    cases ob with
    | map es clock=>
     refine⟨es,.inr ⟨_,clock,rfl,hob⟩,?_⟩
     obtain⟨hl,hE⟩:=hOR
     split at hov
     ·cases hov
     ·rename_i hm
      injection hov with hov
      have:=Zbu (kd:=kd) (μ:=μ) l es.toList 0 none (by simpa using hl) (fun j x y hx hy=>hE j x y hx (by simpa using hy)) hm
      exact .inl ⟨hov.symm,this.1 rfl⟩
     ·rename_i j hm
      obtain⟨p,hp,hov⟩:=Qg.1 hov
      obtain⟨x',y,h1,h2,h3,h4,h5⟩:=(Zbu (kd:=kd) (μ:=μ) l es.toList 0 (some j) (by simpa using hl) (fun j x y hx hy=>hE j x y hx (by simpa using hy)) hm).2 j rfl
      rw [Qaa] at h2 h3
      rw [hp] at h2; injection h2 with h2; subst h2
      exact .inr ⟨_,j,_,hov.symm,h5,(hE j p y hp (by simpa using h3)).2⟩
    | _=>exact hOR.elim
   ·cases hov
 obtain⟨es,hes,hcase⟩:=ent
 rcases hcase with ⟨rfl,hf⟩ | ⟨v,j,c,rfl,hf,hvc⟩
 ·rw [if_neg (by simp [AV.isO])] at h
  obtain⟨c,hzr,hzv⟩:=Zv6 (μ:=μ) hz w
  have hrun:(execOp a.eval o).run P w=.ok (.value (if ok=true then .tuple #[c,.bool false] else c)) w:=by
   simp only [execOp,ho,he,hi',Sem.run_bind,Qd,Sem.run_pure,(Zks (ok:=ok) hu hk hes hf).2 c rfl hzr]
  refine Does.quiet hR h hrun ?_
  cases ok
  ·exact hzv
  ·exact .tuple rfl fun i x y hx hy=>by
    rcases i with _ | _ | i
    ·simp at hx hy; subst hx hy; exact hzv
    ·simp at hx hy; subst hx hy; exact .bool _
    ·simp at hx
 ·rw [if_pos (by simp [AV.isO])] at h
  have h:=hc h
  have hrun:(execOp a.eval o).run P w=.ok (.value (if ok=true then .tuple #[c,.bool true] else c)) w:=by
   simp only [execOp,ho,he,hi',Sem.run_bind,Qd,Sem.run_pure,(Zks (ok:=ok) hu hk hes hf).1 c j rfl]
  refine Does.quiet hR h hrun ?_
  cases ok
  ·exact hvc
  ·exact .tuple rfl fun i x y hx hy=>by
    rcases i with _ | _ | i
    ·simp at hx hy; subst hx hy; exact hvc
    ·simp at hx hy; subst hx hy; exact .bool _
    ·simp at hx
theorem Zph(hF:FrR nt μ φ a)(hR:Rel μ σ w){t:TypeId}{m k x:Operand}(h:evOp P Γ q ty φ σ K (.mapUpdate t m k x)=some r){o:Oper}(ho:o.op=.mapUpdate t m k x):Does true P μ σ w K r (execOp a.eval o):=by
 simp only [evOp] at h
 split at h
 case h_2=>cases h
 rename_i key elem mm kk n v hu hm hk hx
 split at h
 case h_2=>cases h
 rename_i kd hkd
 obtain⟨σ',hup,h⟩:=Qa.1 h
 have hk':=(hF.ev hk).int_inv
 have hmv:=hF.ev hm
 have hxv:=hF.ev hx
 generalize he:a.eval m=cm at hmv
 cases hmv with
 | mapN=>simp [Store.upd] at hup
 | @map b L hb=>
  simp only [Store.upd] at hup
  split at hup
  case h_2=>cases hup
  rename_i l ho'
  obtain⟨ob,hob,hOR⟩:=hR.obj b _ L ho' rfl hb
  cases ob with
  | map es clock=>
   obtain⟨hl,hE⟩:=hOR
   have hck:(Instr.checkKey false 10000 key (.int kk n)).run P w=.ok () w:=Zgw hkd false 9999 w
   have hget:(getObj L.blk).run P w=.ok (.map es clock) w:=by simp [getObj,Sem.run,hob]
   have hset:∀ o2:Obj,(setObj L.blk o2).run P w=.ok () (w.putObj L.blk o2):=fun o2=>by simp [setObj,Sem.run,hob,World.putObj]
   have own:σ.prot<=b->Own μ σ L.blk:=fun hp=>⟨b,_,L,ho',rfl,hp,hb,rfl⟩
   split at hup
   case isFalse=>cases hup
   rename_i hp
   split at hup
   ·cases hup
   ·rename_i hidx
    injection hup with hup; subst hup
    have hf:=(Zbu (kd:=kd) (μ:=μ) l es.toList 0 none (by simpa using hl) (fun j x y hx hy=>hE j x y hx (by simpa using hy)) hidx).1 rfl
    refine⟨_,_,μ,w.putObj L.blk (.map (es.push { key:=.int kk n,val:=a.eval x,born:=clock }) (clock+1)),undef,h,.inr ⟨?_,rfl⟩,⟨?_,fun e=>by cases e⟩,.undef _⟩
    ·simp only [execOp,ho,Instr.mapUpdate,he,hk',Sem.run_bind,run_underlying hu,Qd,hget,hck,Instr.findKey,run_underlying hkd,hf,Sem.run_pure,hset]
    ·refine Ste.wobj (Ste.refl hR) ho' rfl hb (by simp) (.inl ⟨_,_,rfl⟩) (fun _=>⟨by simp [hl],fun i x' y' hx' hy'=>?_⟩) (.inl hp) (fun _=>own hp)
     by_cases c:i<l.length
     ·rw [Qe c] at hx'
      rw [Qae,if_neg (by omega)] at hy'
      exact hE i x' y' hx' hy'
     ·by_cases c2:i=l.length
      ·subst c2
       rw [Qf (Qh _),Qa0] at hx'
       rw [Qae,if_pos (by omega)] at hy'
       simp at hx' hy'; subst hx' hy'
       exact⟨.int ..,hxv⟩
      ·rw [Qk (by simp; omega)] at hx'; cases hx'
   ·rename_i j hidx
    injection hup with hup; subst hup
    obtain⟨x',y,h1,h2,h3,h4,hf⟩:=(Zbu (kd:=kd) (μ:=μ) l es.toList 0 (some j) (by simpa using hl) (fun j x y hx hy=>hE j x y hx (by simpa using hy)) hidx).2 j rfl
    rw [Qaa] at h2 h3
    have h3':es[j]?=some y:=by simpa using h3
    have hst:∀ w:World,(Instr.keyThatStays (((es[j]?).map (·.key)).getD (.int kk n)) (.int kk n)).run P w=.ok (.int kk n) w:=fun w=>by
     rw [h3']; simp [Instr.keyThatStays,h4,Instr.sameBits]
    refine⟨_,_,μ,w.putObj L.blk (.map (es.modify j fun e=>{ e with key:=.int kk n,val:=a.eval x }) clock),undef,h,.inr ⟨?_,rfl⟩,⟨?_,fun e=>by cases e⟩,.undef _⟩
    ·simp only [execOp,ho,Instr.mapUpdate,he,hk',Sem.run_bind,run_underlying hu,Qd,hget,hck,Instr.findKey,run_underlying hkd,hf,Sem.run_pure,hst,hset]
    ·refine Ste.wobj (Ste.refl hR) ho' rfl hb (by simp) (.inl ⟨_,_,rfl⟩) (fun _=>⟨by simp [hl],fun i x2 y2 hx2 hy2=>?_⟩) (.inl hp) (fun _=>own hp)
     rw [Qq] at hx2
     rw [Q2] at hy2
     by_cases c:j=i
     ·subst c
      rw [if_pos rfl] at hx2
      rw [if_pos rfl,h3'] at hy2
      split at hx2
      ·injection hx2 with hx2; injection hy2 with hy2; subst hx2 hy2
       exact⟨.int ..,hxv⟩
      ·cases hx2
     ·rw [if_neg c] at hx2 hy2
      exact hE i x2 y2 hx2 hy2
  | _=>exact hOR.elim
end
end Go.Ab

namespace Go.Ab
open Go Go.RowKit
def W(ro:Option Nat):Fence:={ Fence.wide with round:=ro }
theorem Zlj{ro:Option Nat}{n:Nat}{P:Program}{f:FuncId}{args:Array Value}{w:World}{R:Ending->World->Prop}(h:Calls P f args w R):CallsIn (W ro) n P f args w R:=by
 have h1:CallsIn Fence.wide n P f args w R:=callsIn_wide.2 h
 exact h1
section
variable {R:Type} {P:Program} {μ:Mu} {K:AV->Option R} {r:R}
theorem Zmx{c:CK}{v:AV}(h:castK c v K=some r):K v=some r:=by
 cases c <;> simp only [castK] at h <;> obtain⟨n,hn,hK⟩:=Qa.1 h <;> cases v <;> simp [AV.asInt,AV.asBool,AV.asStr,AV.asPtr,AV.asSl,AV.asMap,AV.asFn,AV.asIfc] at hn
 ·obtain⟨rfl,rfl⟩:=hn; exact hK
 ·subst hn; exact hK
 ·subst hn; exact hK
 ·subst hn; exact hK
 ·subst hn; exact hK
 ·subst hn; exact hK
 ·subst hn; exact hK
 ·subst hn; exact hK
theorem Zwm{v:AV}{n:Nat}(cs:List CK):∀ {i:Nat} {K:List AV->Option R} (_:castL v n cs i K=some r),cs=[]/\K []=some r\/∃ l,v=.agg l/\l.length=n/\i+cs.length<=n/\K ((l.drop i).take cs.length)=some r:=by
 induction cs with
 | nil=>intro i K h; exact .inl ⟨rfl,h⟩
 | cons c cs ih=>
  intro i K h
  simp only [castL] at h
  obtain⟨x,hx,h⟩:=Qa.1 h
  have h:=Zmx h
  cases v with
  | agg l=>
   simp only [AV.aggAt] at hx
   split at hx
   ·rename_i hl
    have hil:i<l.length:=(Qc.1 hx).1
    have hxe:l[i]=x:=(Qc.1 hx).2
    refine .inr ⟨l,rfl,hl,?_,?_⟩
    ·rcases ih h with ⟨rfl,_⟩ | ⟨l',e,_,h2,_⟩
     ·simp; omega
     ·simp; omega
    ·rw [QA hil,Qr,QO,hxe]
     rcases ih h with ⟨rfl,h2⟩ | ⟨l',e,_,_,h2⟩
     ·simpa using h2
     ·injection e with e; subst e; exact h2
   ·exact absurd hx (by simp)
  | _=>simp [AV.aggAt] at hx
theorem Zep{t:TypeId}{v:AV}(h:castT P t v K=some r):K v=some r:=by
 unfold castT at h
 split at h
 ·obtain⟨cs,hcs,h⟩:=Qa.1 h
  split at h
  ·exact absurd h (by simp)
  ·rename_i h0
   rcases Zwm cs h with ⟨rfl,_⟩ | ⟨l,rfl,hl,_,hK⟩
   ·simp at h0
   ·rw [Qav,Ql (by omega)] at hK; exact hK
 ·split at h
  ·exact Zmx h
  ·exact absurd h (by simp)
theorem Zui{v:AV}{n:Nat}(ts:List TypeId):∀ {i:Nat} {K:List AV->Option R} (_:castTs P v n ts i K=some r),ts=[]/\K []=some r\/∃ l,v=.tuple l/\l.length=n/\i+ts.length<=n/\K ((l.drop i).take ts.length)=some r:=by
 induction ts with
 | nil=>intro i K h; exact .inl ⟨rfl,h⟩
 | cons c cs ih=>
  intro i K h
  simp only [castTs] at h
  obtain⟨x,hx,h⟩:=Qa.1 h
  have h:=Zep h
  cases v with
  | tuple l=>
   simp only [AV.item] at hx
   split at hx
   ·rename_i hl
    have hil:i<l.length:=(Qc.1 hx).1
    have hxe:l[i]=x:=(Qc.1 hx).2
    refine .inr ⟨l,rfl,hl,?_,?_⟩
    ·rcases ih h with ⟨rfl,_⟩ | ⟨l',e,_,h2,_⟩
     ·simp; omega
     ·simp; omega
    ·rw [QA hil,Qr,QO,hxe]
     rcases ih h with ⟨rfl,h2⟩ | ⟨l',e,_,_,h2⟩
     ·simpa using h2
     ·injection e with e; subst e; exact h2
   ·exact absurd hx (by simp)
  | _=>simp [AV.item] at hx
theorem Zgv{t:TypeId}{v:AV}(h:castR P t v K=some r):∃ v',K v'=some r/\∀ {μ:Mu} {c:Value},VR μ v c->VR μ v' c:=by
 unfold castR at h
 split at h
 ·split at h
  ·exact⟨.undef,h,fun _=>.undef _⟩
  ·rename_i ts hu h0
   rcases Zui _ h with ⟨e,_⟩ | ⟨l,rfl,hl,_,hK⟩
   ·have:ts.size=0:=by rw [<-Qw,e]; rfl
    exact absurd this h0
   ·rw [Qav,Ql (by rw [hl]; simp)] at hK
    exact⟨_,hK,fun h=>h⟩
 ·exact⟨v,Zep h,fun h=>h⟩
end
def Fun.Does(f:Fun)(P:Program)(μ:Mu)(w:World)(cargs:Array Value)(R:Ending->World->Prop):Prop:=
 match f with
 | .fn g=>(callFunc g cargs).run P w=.ok (.enter g cargs) w/\Calls P g cargs w R
 | .yl l=>∀ L,μ l=some L->∃ fn tmps x y,(Instr.yield L.blk cargs).run P w=.ok (.round L.blk fn tmps x y) w/\∀ n,RoundIn Fence.wide n P L.blk fn tmps x y w R
theorem Fun.Does.mono{f:Fun}{P:Program}{μ:Mu}{w:World}{cargs:Array Value}{R R':Ending->World->Prop}(h:f.Does P μ w cargs R)(hr:∀ e w',R e w'->R' e w'):f.Does P μ w cargs R':=by
 cases f with
 | fn g=>exact⟨h.1,h.2.mono hr⟩
 | yl l=>exact fun L hL=>let ⟨k,tmps,x,y,h1,h2⟩:=h L hL; ⟨k,tmps,x,y,h1,fun n=>(h2 n).mono hr⟩
def GS(P:Program)(Γ:Gam):Prop:=∀ g args σ v σ',Γ g args σ=some (v,σ') ->
 ∀ (μ:Mu) (w:World) (cargs:Array Value),Rel μ σ w->VL μ args cargs.toList->g.Does P μ w cargs fun e w'=>∃ μ' c,e=.returned c/\VR μ' v c/\Ste μ σ w μ' σ' w'
theorem Rel.prot{μ:Mu}{σ:Store}{w:World}(h:Rel μ σ w)(n:Nat):Rel μ { σ with prot:=n } w:=⟨h.dom,h.dat,h.cells,h.rw,h.obj,h.sep⟩
theorem Ste.unprot{μ μ':Mu}{σ σ':Store}{w w':World}(h:Ste μ { σ with prot:=σ.objs.length } w μ' σ' w') :
  Ste μ σ w μ' { σ' with prot:=σ.prot } w'/\Qt σ { σ' with prot:=σ.prot } w w':=by
 have hno:∀ c,¬ Own μ { σ with prot:=σ.objs.length } c:=by
  rintro c ⟨b,o,L,ho,_,hp,_⟩
  have:=(Qc.1 ho).1
  dsimp only at hp this
  omega
 have hk:∀ b,b<σ.objs.length->σ'.objs[b]?=σ.objs[b]?:=fun b hb=>h.keep b hb hb
 refine⟨⟨h.rel.prot _,h.agree,h.len,rfl,fun b _ hb=>hk b hb,h.size,h.os,h.tape,h.output,fun c hc _=>h.pres c hc (hno c),?_,h.drawn⟩,hk,fun c hc=>h.pres c hc (hno c)⟩
 rintro c ⟨b,o,L,ho,hf,hp,hb,hc⟩ hlt
 by_cases e:b<σ.objs.length
 ·refine⟨b,o,L,(hk b e).symm.trans ho,hf,hp,(h.agree b e).symm.trans hb,hc⟩
 ·exact absurd (h.own c ⟨b,o,L,ho,hf,by rw [h.prot]; show σ.objs.length<=b; omega,hb,hc⟩ hlt) (hno c)
theorem Ze1{P:Program}{Γ:Gam}(hΓ:GS P Γ){q:Bool}{g:Fun}{args:List AV}{σ σ':Store}{v:AV}(h:callG Γ q g args σ=some (v,σ')) :
  ∀ (μ:Mu) (w:World) (cargs:Array Value),Rel μ σ w->VL μ args cargs.toList->g.Does P μ w cargs fun e w'=>∃ μ' c,e=.returned c/\VR μ' v c/\Ste μ σ w μ' σ' w'/\(q=true->Qt σ σ' w w'):=by
 cases q with
 | false=>
  exact fun μ w cargs hR hv=>(hΓ _ _ _ _ _ h μ w cargs hR hv).mono fun e w' ⟨μ',c,e1,e2,e3⟩=>⟨μ',c,e1,e2,e3,fun e=>by cases e⟩
 | true=>
  simp only [callG] at h
  obtain⟨⟨v',σ1⟩,hr,e⟩:=Qg.1 h
  simp only [Prod.mk.injEq] at e
  obtain⟨rfl,rfl⟩:=e
  exact fun μ w cargs hR hv=>(hΓ _ _ _ _ _ hr μ w cargs (hR.prot _) hv).mono fun e w' ⟨μ',c,e1,e2,e3⟩=>⟨μ',c,e1,e2,e3.unprot.1,fun _=>e3.unprot.2⟩
def effOp(q:Bool):Op->Bool
 | .store ..=>true
 | .mapUpdate ..=>true
 | .convert s d _=>Qi s d
 | .call c=>match c.callee with
  | .builtin b=>b == .append || b == .copy
  | _=>!q
 | _=>false
section
variable {R:Type} {P:Program} {Γ:Gam} {μ:Mu} {σ:Store} {w:World} {φ:Fr} {a:Act} {K:AV->Store->Option R} {r:R} {nt:Nat} {q:Bool} {ty:TypeId} {ro:Option Nat} {n:Nat}
theorem Does.wpIn{eff:Bool}{o:Oper}(h:Does eff P μ σ w K r (execOp a.eval o))(hd:∀ c,o.op≠.defer c){next:Act->World->Prop}{Q:Exit->Act->World->Prop}
  (hn:∀ v σ' μ' w' c,K v σ'=some r->Ste μ σ w μ' σ' w'->(eff=false->Qt σ σ' w w')->VR μ' v c->next (a.put o.dst c) w'):o.wpIn (W ro) n P a w next Q:=by
 obtain⟨v,σ',μ',w',c,hK,hrun,⟨hs,hq⟩,hv⟩:=h
 refine⟨fun _ _=>trivial,?_⟩
 rw [Oper.semAt_eq _ _ _ hd]
 rcases hrun with hrun | ⟨hrun,rfl⟩
 ·rw [hrun]; exact hn v σ' μ' w' c hK hs hq hv
 ·rw [hrun]; exact hn v σ' μ' w' undef hK hs hq hv
theorem Zod(hF:FrR nt μ φ a)(hR:Rel μ σ w){x:Operand}{t u:TypeId}{ok:Bool}(h:evOp P Γ q ty φ σ K (.typeAssert x t u ok)=some r){o:Oper}(ho:o.op=.typeAssert x t u ok):Does false P μ σ w K r (execOp a.eval o):=by
 simp only [evOp] at h
 split at h
 case h_3=>cases h
 case h_1=>cases h
 rename_i d hn hu
 split at h
 case h_2=>cases h
 rename_i s v hx
 split at h
 case isFalse=>cases h
 rename_i es
 subst es
 have h:=Zep h
 have hxv:=hF.ev hx
 generalize he:a.eval x=cx at hxv
 cases hxv with
 | iface hv=>
  rename_i c
  have hrun:(execOp a.eval o).run P w=.ok (.value (if ok=true then .tuple #[c,.bool true] else c)) w:=by
   simp only [execOp,ho,Instr.typeAssert,he,Sem.run_bind,run_underlying hu,Qd]
   cases d <;> first | (exact absurd rfl (hn _)) | (cases ok <;> simp)
  refine Does.quiet hR h hrun ?_
  cases ok
  ·exact hv
  ·exact .tuple rfl fun i x y hx hy=>by
    rcases i with _ | _ | i
    ·simp at hx hy; subst hx hy; exact hv
    ·simp at hx hy; subst hx hy; exact .bool _
    ·simp at hx
theorem Zst{ts:Array TypeId}{t:TypeId}{ad:Addr}{s1 s2:ByteArray}(w:World):(Builtin.ssaWrapNilChk_ ts t #[.pointer (some ad),.string s1,.string s2]).run P w=.ok (.pointer (some ad)) w:=rfl
theorem Zlk{t:TypeId}{name:String}{f:FuncId}{pe:Option TypeId}(hm:methOf P t name=some (f,pe)){v c:Value}{args:Array Value}(hv:(pe=none/\v=c)\/∃ e ad,pe=some e/\v=.pointer (some ad)/\(loadVar e ad).run P w=.ok c w) :
  (callMethod (.iface t v) name args).run P w=(callFunc f (#[c]++args)).run P w:=by
 unfold methOf at hm
 split at hm
 ·cases hm
 ·rename_i i hi
  split at hm
  ·cases hm
  ·rename_i m hfind
   split at hm
   case isFalse=>cases hm
   rename_i hpath
   have hp:m.path.toList=[]:=by simpa using hpath
   split at hm
   ·cases hm
   ·rename_i f' pr hfunc
    obtain⟨k,hk⟩:∃ k,P.types.size+Made.depth=k+1:=⟨P.types.size+99,by simp [Made.depth]⟩
    have hti:(typeInfo t).run P w=.ok i w:=by simp [typeInfo,hi]
    simp only [callMethod,Sem.run_bind,Sem.run_pure,run_program,Qd,hk,method,hti,hfind,hp,follow,hfunc,receiverAt,Place.get]
    split at hm
    ·rename_i e hu
     injection hm with hm; simp only [Prod.mk.injEq] at hm; obtain⟨rfl,rfl⟩:=hm
     rcases hv with ⟨_,rfl⟩ | ⟨e',ad,h1,_⟩
     ·simp [run_underlying hu]
     ·cases h1
    ·rename_i e hu
     injection hm with hm; simp only [Prod.mk.injEq] at hm; obtain⟨rfl,rfl⟩:=hm
     rcases hv with ⟨h1,_⟩ | ⟨e',ad,h1,rfl,hl⟩
     ·cases h1
     ·injection h1 with h1; subst h1
      simp [run_underlying hu,hpath,Zst,strVal,asAddr,hl]
    ·rename_i d hd hu
     injection hm with hm; simp only [Prod.mk.injEq] at hm; obtain⟨rfl,rfl⟩:=hm
     rcases hv with ⟨_,rfl⟩ | ⟨e',ad,h1,_⟩
     ·simp only [run_underlying hu,Qd]
      cases d <;> first | (exact absurd rfl (hd _)) | simp
     ·cases h1
    ·cases hm
theorem Zj3(hΓ:GS P Γ)(hF:FrR nt μ φ a)(hR:Rel μ σ w)(o:Oper)(h:evOp P Γ q o.type φ σ K o.op=some r){next:Act->World->Prop}{Q:Exit->Act->World->Prop}
  (hn:∀ v σ' μ' w' c,K v σ'=some r->Ste μ σ w μ' σ' w'->(effOp q o.op=false->Qt σ σ' w w')->VR μ' v c->next (a.put o.dst c) w'):o.wpIn (W ro) n P a w next Q:=by
 cases ho:o.op with
 | move x=>rw [ho] at h hn; exact (Zsy hF hR h (.inl ho)).wpIn (by simp [ho]) hn
 | assign x=>rw [ho] at h hn; exact (Zsy hF hR h (.inr ho)).wpIn (by simp [ho]) hn
 | pick c x y=>rw [ho] at h hn; exact (Z1l hF hR h ho).wpIn (by simp [ho]) hn
 | alloc t=>rw [ho] at h hn; exact (Zzj hR h ho).wpIn (by simp [ho]) hn
 | box t x=>rw [ho] at h hn; exact (Z4g hF hR h ho).wpIn (by simp [ho]) hn
 | load t x=>rw [ho] at h hn; exact (Z1k hF hR h ho).wpIn (by simp [ho]) hn
 | store t x y=>rw [ho] at h hn; exact (Zzp hF hR h ho).wpIn (by simp [ho]) hn
 | nilCheck x=>rw [ho] at h hn; exact (Zr1 hF hR h ho).wpIn (by simp [ho]) hn
 | binOp op t x y t'=>rw [ho] at h hn; exact (Zzk hF hR h ho).wpIn (by simp [ho]) hn
 | unOp op t x=>rw [ho] at h hn; exact (Z1m hF hR h ho).wpIn (by simp [ho]) hn
 | convert s d x=>rw [ho] at h hn; exact (Zur hF hR h ho).wpIn (by simp [ho]) (fun v σ' μ' w' c hK hs hq hv=>hn v σ' μ' w' c hK hs (fun e=>hq (by simpa [effOp] using e)) hv)
 | fieldAddr s x f=>rw [ho] at h hn; exact (Zpe hF hR h ho).wpIn (by simp [ho]) hn
 | field s x f=>rw [ho] at h hn; exact (Zzm hF hR h ho).wpIn (by simp [ho]) hn
 | indexAddr t x i=>rw [ho] at h hn; exact (Zpf hF hR h ho).wpIn (by simp [ho]) hn
 | index t x i=>rw [ho] at h hn; exact (Zzn hF hR h ho).wpIn (by simp [ho]) hn
 | extract x i=>rw [ho] at h hn; exact (Zus hF hR h ho).wpIn (by simp [ho]) hn
 | makeSlice t l c=>rw [ho] at h hn; exact (Zpg hF hR h ho).wpIn (by simp [ho]) hn
 | slice t x l u m=>rw [ho] at h hn; exact (Zzo hF hR h ho).wpIn (by simp [ho]) hn
 | buildSlice t len ps=>rw [ho] at h hn; exact (Zoc hF hR h ho).wpIn (by simp [ho]) hn
 | build t ps=>rw [ho] at h hn; exact (Zzl hF hR h ho).wpIn (by simp [ho]) hn
 | makeFunc f x y=>rw [ho] at h hn; exact (Zr0 hF hR h ho).wpIn (by simp [ho]) hn
 | makeInterface t x=>rw [ho] at h hn; exact (Zjf hF hR h ho).wpIn (by simp [ho]) hn
 | typeAssert x t u ok=>rw [ho] at h hn; exact (Zod hF hR h ho).wpIn (by simp [ho]) hn
 | makeMap t x=>rw [ho] at h hn; exact (Zut hF hR h ho).wpIn (by simp [ho]) hn
 | lookup t x i ok=>rw [ho] at h hn; exact (Zwp hF hR h Zep ho).wpIn (by simp [ho]) hn
 | mapUpdate t m k x=>rw [ho] at h hn; exact (Zph hF hR h ho).wpIn (by simp [ho]) hn
 | call c=>
  rw [ho] at h hn
  simp only [evOp] at h
  split at h
  ·rename_i b hb
   obtain⟨vs,hvs,h⟩:=Qa.1 h
   refine (Zuq hF hR hvs h ho hb rfl rfl).wpIn (by simp [ho]) (fun v σ' μ' w' c' hK hs hq hv=>hn v σ' μ' w' c' hK hs (fun e=>hq ?_) hv)
   simpa [effOp,hb] using e
  ·rename_i f hf
   split at h
   ·rename_i g x y hg
    obtain⟨vs,hvs,h⟩:=Qa.1 h
    obtain⟨⟨v,σ'⟩,hr,h⟩:=Qa.1 h
    obtain⟨v',hK,hcast⟩:=Zgv h
    have hfv:=hF.ev hg
    generalize he:a.eval f=cf at hfv
    cases hfv with
    | @func _ _ _ x' y' hx hy vx vy=>
    have hvl:=hF.evs hvs
    have hVx:VL μ x x'.toList:=⟨by simpa using hx,fun i u v hu hv=>vx i u v hu (by simpa using hv)⟩
    have hVy:VL μ y y'.toList:=⟨by simpa using hy,fun i u v hu hv=>vy i u v hu (by simpa using hv)⟩
    obtain⟨hent,hcalls⟩:=Ze1 hΓ hr μ w (x'++c.args.map a.eval++y') hR (by simp only [Qaf,Q7]; exact (hVx.append hvl).append hVy)
    refine⟨fun _ _=>trivial,?_⟩
    rw [Oper.semAt_eq _ _ _ (by simp [ho])]
    have hrun:(execOp a.eval o).run P w=.ok (.enter g (x'++c.args.map a.eval++y')) w:=by
     simp only [execOp,ho,resolve,hf,he,Deferred.ofValue,Sem.run_bind,Sem.run_pure,Qd,invoke,hent]
    rw [hrun]
    refine⟨fun e=>by simp [W,Fence.wide] at e,Zlj (hcalls.mono ?_)⟩
    rintro e w' ⟨μ',cv,rfl,hv,hs,hq⟩
    exact hn v' σ' μ' w' cv hK hs (fun e=>hq (by simpa [effOp,hf] using e)) (hcast hv)
   ·rename_i l hg
    obtain⟨vs,hvs,h⟩:=Qa.1 h
    obtain⟨⟨v,σ'⟩,hr,h⟩:=Qa.1 h
    obtain⟨v',hK,hcast⟩:=Zgv h
    have hfv:=hF.ev hg
    generalize he:a.eval f=cf at hfv
    cases hfv with
    | @yld _ L hL=>
    have hvl:=hF.evs hvs
    obtain⟨fn,tmps,x,y,hyl,hround⟩:=Ze1 hΓ hr μ w (c.args.map a.eval) hR (by simp only [Q7]; exact hvl) L hL
    refine⟨fun _ _=>trivial,?_⟩
    rw [Oper.semAt_eq _ _ _ (by simp [ho])]
    have hrun:(execOp a.eval o).run P w=.ok (.round L.blk fn tmps x y) w:=by
     simp only [execOp,ho,resolve,hf,he,Deferred.ofValue,Sem.run_bind,Sem.run_pure,Qd,invoke,Array.empty_append,hyl]
    rw [hrun]
    have h1:RoundIn Fence.wide (n-1) P L.blk fn tmps x y w (fun | .returned v,w''=>next (a.put o.dst v) w'' | .panicked chain,w''=>Q (.panic chain) a w'' | .outgrown,_=>LetsOut Q):=by
     refine (hround (n-1)).mono ?_
     rintro e w' ⟨μ',cv,rfl,hv,hs,hq⟩
     exact hn v' σ' μ' w' cv hK hs (fun e=>hq (by simpa [effOp,hf] using e)) (hcast hv)
    exact⟨fun e=>by simp [W,Fence.wide] at e,h1⟩
   ·exact absurd h (by simp)
  ·rename_i recv name hcal
   split at h
   case h_2=>cases h
   rename_i t v hrecv
   split at h
   case h_1=>cases h
   rename_i f pe hmeth
   have hrv:=hF.ev hrecv
   generalize he:a.eval recv=cr at hrv
   cases hrv with
   | iface hv0=>
   rename_i c0
   have fin:∀ (u:AV) (cu:Value),((pe=none/\c0=cu)\/∃ e ad,pe=some e/\c0=.pointer (some ad)/\(loadVar e ad).run P w=.ok cu w)->VR μ u cu->((φ.evs c.args.toList).bind fun args=>(callG Γ q (.fn f) (u::args) σ).bind fun r=>castR P o.type r.1 fun v=>K v r.2)=some r->o.wpIn (W ro) n P a w next Q:=by
    intro u cu hcase hvu h
    obtain⟨vs,hvs,h⟩:=Qa.1 h
    obtain⟨⟨v',σ'⟩,hr,h⟩:=Qa.1 h
    obtain⟨v2,hK,hcast⟩:=Zgv h
    have hvl:=hF.evs hvs
    obtain⟨hent,hcalls⟩:=Ze1 hΓ hr μ w (#[cu]++c.args.map a.eval) hR (by have:=VL.cons hvu hvl; simpa using this)
    refine⟨fun _ _=>trivial,?_⟩
    rw [Oper.semAt_eq _ _ _ (by simp [ho])]
    have hrun:(execOp a.eval o).run P w=.ok (.enter f (#[cu]++c.args.map a.eval)) w:=by
     simp only [execOp,ho,resolve,hcal,he,Sem.run_bind,Sem.run_pure,Qd,invoke]
     have h0:(#[Qao t c0]++Qam a.eval c.args)[0]?=some (.iface t c0):=by rw [Array.getElem?_append_left (by simp)]; rfl
     have h1:(#[Qao t c0]++Qam a.eval c.args).extract 1 (#[Qao t c0]++Qam a.eval c.args).size=Qam a.eval c.args:=by
      apply QZ; simp [Ql]
     rw [h0]
     simp only [h1]
     rw [Zlk hmeth hcase,hent]
    rw [hrun]
    refine⟨fun e=>by simp [W,Fence.wide] at e,Zlj (hcalls.mono ?_)⟩
    rintro e w' ⟨μ',cv,rfl,hv,hs,hq⟩
    exact hn v2 σ' μ' w' cv hK hs (fun e=>hq (by simpa [effOp,hcal] using e)) (hcast hv)
   split at h
   ·exact fin v c0 (.inl ⟨rfl,rfl⟩) hv0 h
   ·rename_i e
    split at h
    case h_2=>cases h
    rename_i p
    rcases hv0.ptr_inv with ⟨rfl,_⟩ | ⟨b,off,L,rfl,hb,rfl⟩
    ·exact (Zib h).elim
    ·obtain⟨u,cu,hK,hrun,hvu⟩:=Zhk hR h hv0
     exact fin u cu (.inr ⟨e,_,rfl,rfl,hrun⟩) hvu hK
 | _=>rw [ho] at h; simp [evOp] at h
end
end Go.Ab

namespace Go.Ab
open Go Go.RowKit
theorem FrR.know{nt:Nat}{μ:Mu}{φ:Fr}{a:Act}(h:FrR nt μ φ a){d:Nat}{v:AV}(hv:VR μ v (a.tmps.getD d undef)):FrR nt μ ((d,v)::φ) a:=by
 refine⟨fun t u ht=>?_,h.2⟩
 rw [Fr.get_cons] at ht
 by_cases e:d=t
 ·rw [if_pos e] at ht; injection ht with ht; subst ht e; exact hv
 ·rw [if_neg e] at ht; exact h.1 t u ht
theorem Fr.put_inv{nt:Nat}{φ:Fr}{d:Option Tmp}{v:AV}{R:Type}{K:Fr->Option R}{r:R}(h:Fr.put nt φ d v R K=some r) :
  ∃ φ',K φ'=some r/\∀ {μ:Mu} {a:Act} {c:Value},FrR nt μ φ a->VR μ v c->FrR nt μ φ' (a.put d c):=by
 cases d with
 | none=>exact⟨φ,h,fun hF _=>hF⟩
 | some t=>
  simp only [Fr.put] at h
  by_cases e:QG t nt=true
  ·rw [e] at h
   exact⟨_,h,fun hF hv=>hF.put (by rw [Qaw] at e; exact e) hv⟩
  ·rw [QX] at e
   rw [e] at h; exact absurd h (by simp)
theorem Fr.put_know{nt:Nat}{φ:Fr}{d:Tmp}{v:AV}{R:Type}{K:Fr->Option R}{r:R}(h:Fr.put nt φ (some d) v R K=some r) :
  ∃ φ',K φ'=some r/\∀ {μ:Mu} {a:Act},FrR nt μ φ a->VR μ v (a.tmps.getD d undef)->FrR nt μ φ' a:=by
 simp only [Fr.put] at h
 by_cases e:QG d nt=true
 ·rw [e] at h
  exact⟨_,h,fun hF hv=>hF.know hv⟩
 ·rw [QX] at e
  rw [e] at h; exact absurd h (by simp)
theorem Act.put_defers(a:Act)(d:Option Tmp)(v:Value):(a.put d v).defers=a.defers:=by cases d <;> rfl
theorem VR.skipped(μ:Mu):VR μ AV.skipped Go.undef:=VR.tuple (l:=[]) (l':=#[]) rfl (fun i x y hx=>by simp at hx)
theorem Zh3{ops:Array Oper}{tmps:Array Value}{j d:Nat}{l:Array Value}(hg:guardOf ops j=some d)(hv:tmps.getD d undef=.tuple l):yielded ops tmps j=none:=by
 unfold yielded
 unfold guardOf at hg
 rw [hg]
 simp only [QL]
 rw [Qs] at hv
 cases h:tmps[d]? with
 | none=>rfl
 | some v=>rw [h] at hv; simp at hv; subst hv; rfl
theorem VR.tuple_inv{μ:Mu}{l:List AV}{c:Value}(h:VR μ (.tuple l) c):∃ l',c=.tuple l':=by cases h; exact⟨_,rfl⟩
theorem Zlh{ops:Array Oper}{tmps:Array Value}{j d:Nat}{b:Bool}(hg:guardOf ops j=some d)(hv:tmps.getD d undef=.bool b):yielded ops tmps j=some b:=by
 unfold yielded
 unfold guardOf at hg
 rw [hg]
 simp only [QL]
 rw [Qs] at hv
 cases h:tmps[d]? with
 | none=>rw [h] at hv; simp [undef] at hv
 | some v=>rw [h] at hv; simp at hv; subst hv; rfl
section
variable {P:Program} {Γ:Gam} {nt qs:Nat} {ops:Array Oper} {ro:Option Nat} {n:Nat}
theorem Zr5(hΓ:GS P Γ)(l:List Oper):∀ (i:Nat) (_:∀ j,l[j]?=ops[i+j]?) {R:Type} {φ:Fr} {σ:Store} {K:Fr->Store->Option R} {r:R} (_:evOps P Γ nt qs ops l i φ σ K=some r) {μ:Mu} {w:World} {a:Act} (_:FrR nt μ φ a) (_:Rel μ σ w)
  {Q:Exit->Act->World->Prop} (_:∀ φ' σ' μ' a' w',K φ' σ'=some r->FrR nt μ' φ' a'->Ste μ σ w μ' σ' w'->a'.defers=a.defers->Q .normal a' w'),wpOpsIn (W ro) n P ops Q (Qap i l.length) a w:=by
 induction l with
 | nil=>
  intro i _ R φ σ K r h μ w a hF hR Q hQ
  simp only [evOps] at h
  exact hQ φ σ μ a w h hF (Ste.refl hR) rfl
 | cons o l ih=>
  intro i hl R φ σ K r h μ w a hF hR Q hQ
  have h0:ops[i]?=some o:=by simpa using (hl 0).symm
  have hl':∀ j,l[j]?=ops[i+1+j]?:=fun j=>by have:=hl (j+1); simpa [Q0,Nat.add_comm 1 j] using this
  simp only [Qr,List.range'_succ,wpOpsIn,h0]
  have exec:∀ {φ:Fr},FrR nt μ φ a->evOp P Γ (bitOn qs i) o.type φ σ (fun v σ'=>Fr.put nt φ o.dst v R fun φ'=>evOps P Γ nt qs ops l (i+1) φ' σ' K) o.op=some r->o.wpIn (W ro) n P a w (wpOpsIn (W ro) n P ops Q (Qap (i+1) l.length)) Q:=by
   intro φ hF h
   refine Zj3 hΓ hF hR o h ?_
   intro v σ' μ' w' c hK hs _ hv
   obtain⟨φ',hK',hput⟩:=Fr.put_inv hK
   refine ih (i+1) hl' hK' (hput (hF.mono (hs.mu hR)) hv) hs.rel ?_
   intro φ2 σ2 μ2 a2 w2 hK2 hF2 hs2 hd2
   exact hQ φ2 σ2 μ2 a2 w2 hK2 hF2 (hs.trans hs2) (hd2.trans (Act.put_defers _ _ _))
  have skip:∀ {φ:Fr},FrR nt μ φ a->Fr.put nt φ o.dst AV.skipped R (fun φ'=>evOps P Γ nt qs ops l (i+1) φ' σ K)=some r->wpOpsIn (W ro) n P ops Q (Qap (i+1) l.length) (a.put o.dst undef) w:=by
   intro φ hF h
   obtain⟨φ',hK',hput⟩:=Fr.put_inv h
   refine ih (i+1) hl' hK' (hput hF (VR.skipped _)) hR ?_
   intro φ2 σ2 μ2 a2 w2 hK2 hF2 hs2 hd2
   exact hQ φ2 σ2 μ2 a2 w2 hK2 hF2 hs2 (hd2.trans (Act.put_defers _ _ _))
  simp only [evOps] at h
  cases hg:o.guard with
  | none=>
   simp only [hg] at h
   rw [if_pos (by simp [Region.wanted,hg])]
   exact exec hF h
  | some jw=>
   obtain⟨j,want⟩:=jw
   simp only [hg] at h
   cases hd:guardOf ops j with
   | none=>simp [hd] at h
   | some d=>
    simp only [hd] at h
    split at h
    ·rename_i b hb
     have hvb:=(hF.1 d _ hb).bool_inv
     have hy:=Zlh hd hvb
     split at h
     ·rename_i hbt
      obtain⟨φ1,h1,hkn⟩:=Fr.put_know h
      have hF1:=hkn hF (by rw [hvb,hbt]; exact .bool _)
      cases want with
      | true=>
       rw [if_pos (by simp [Region.wanted,hg,hy,hbt])]
       exact exec hF1 h1
      | false=>
       rw [if_neg (by simp [Region.wanted,hg,hy,hbt])]
       exact⟨fun _ _=>trivial,skip hF1 h1⟩
     ·rename_i hbt
      have hbf:b=false:=by simpa using hbt
      obtain⟨φ1,h1,hkn⟩:=Fr.put_know h
      have hF1:=hkn hF (by rw [hvb,hbf]; exact .bool _)
      cases want with
      | true=>
       rw [if_neg (by simp [Region.wanted,hg,hy,hbf])]
       exact⟨fun _ _=>trivial,skip hF1 h1⟩
      | false=>
       rw [if_pos (by simp [Region.wanted,hg,hy,hbf])]
       exact exec hF1 h1
    ·rename_i b hb
     obtain⟨l',hl'⟩:=(hF.1 d _ hb).tuple_inv
     rw [if_neg (by simp [Region.wanted,hg,Zh3 hd hl'])]
     exact⟨fun _ _=>trivial,skip hF h⟩
    ·exact absurd h (by simp)
end
def Df(B:Nat)(a:Act)(w:World):Prop:=∃ Ds:List Nat,a.defers=Ds.map (fun D=>{ target:=.collected D,args:=#[] })/\Ds.Nodup/\∀ D∈Ds,B<=D/\w.heap[D]?=some (.deferred (some []))
theorem Dat.not{w:World}{c:Nat}(h:Dat w c):∀ ds,w.heap[c]?≠some (Obj.deferred ds):=by
 intro ds e
 rcases h with ⟨x,ty,fz,h⟩ | ⟨es,clock,h⟩ | ⟨r,h⟩ <;> (rw [e] at h; cases h)
theorem Own.not{μ:Mu}{σ:Store}{w:World}(h:Rel μ σ w){c:Nat}(ho:Own μ σ c):∀ ds,w.heap[c]?≠some (.deferred ds):=by
 obtain⟨b,o,L,hb,hf,_,hL,rfl⟩:=ho
 exact (h.dat b L hL).not
theorem Df.ste{B:Nat}{a a':Act}{μ μ':Mu}{σ σ':Store}{w w':World}(h:Df B a w)(hR:Rel μ σ w)(hs:Ste μ σ w μ' σ' w')(hd:a'.defers=a.defers):Df B a' w':=by
 obtain⟨Ds,h1,h2,h3⟩:=h
 refine⟨Ds,hd.trans h1,h2,fun D hD=>?_⟩
 obtain⟨h4,h5⟩:=h3 D hD
 exact⟨h4,by rw [hs.pres D (Qm.1 h5).1 (fun ho=>ho.not hR _ h5)]; exact h5⟩
theorem Ste.loop{μ:Mu}{σ:Store}{w:World}(h:Rel μ σ w){φ:Fr}{ps:Array Tmp}{x y:Code}{nt:Nat}{rec:Loop}(hr:rec.params=ps/\rec.assign=x/\rec.body=y/\nt<=rec.tmps.size/\rec.state=.ready/\rec.pending=none)
  (hv:∀ t v,φ.get t=some v->VR μ v (rec.tmps.getD t undef)) :
  Ste μ σ w (μ.up σ.objs.length ⟨w.heap.size+1,0,0,0⟩) { σ with objs:=σ.objs++[.loop φ ps.toList x y nt .ready] } ((w.alloc (.deferred (some []))).alloc (.loop rec)):=by
 have hget:∀ (i:Nat),(σ.objs++[.loop φ ps.toList x y nt .ready])[i]?=if i=σ.objs.length then some (.loop φ ps.toList x y nt .ready) else σ.objs[i]?:=by
  intro i
  by_cases e:i=σ.objs.length
  ·subst e; simp
  ·rw [if_neg e]
   by_cases c:i<σ.objs.length
   ·rw [Qe c]
   ·rw [Qf (by omega),Qk (l:=σ.objs) (by omega),Qk (by simp; omega)]
 have hsz:((w.alloc (.deferred (some []))).alloc (.loop rec)).heap.size=w.heap.size+2:=by simp
 have hnew:((w.alloc (.deferred (some []))).alloc (.loop rec)).heap[w.heap.size+1]?=some (.loop rec):=by
  have:=World.alloc_heap_new (w.alloc (.deferred (some []))) (.loop rec); rwa [World.size_alloc] at this
 have hold:∀ c,c<w.heap.size->((w.alloc (.deferred (some []))).alloc (.loop rec)).heap[c]?=w.heap[c]?:=fun c hc=>by
  rw [Below.heap_alloc _ _ _ (by simp; omega),Below.heap_alloc _ _ _ hc]
 have hmono:∀ b L,μ b=some L->(μ.up σ.objs.length ⟨w.heap.size+1,0,0,0⟩) b=some L:=fun b L hb=>by
  rw [Mu.up_ne _ _ (by have:=h.dom b L hb; omega)]; exact hb
 have hos:((w.alloc (.deferred (some []))).alloc (.loop rec)).os=w.os:=rfl
 have htp:((w.alloc (.deferred (some []))).alloc (.loop rec)).tape=w.tape:=rfl
 have hou:((w.alloc (.deferred (some []))).alloc (.loop rec)).output=w.output:=rfl
 have hdr:((w.alloc (.deferred (some []))).alloc (.loop rec)).drawn=w.drawn:=rfl
 generalize (w.alloc (.deferred (some []))).alloc (.loop rec)=w' at *
 refine⟨⟨?_,?_,?_,?_,?_,?_⟩,?_,?_,rfl,?_,by omega,hos,htp,hou,fun c hc _=>hold c hc,?_,by rw [hdr]; exact Qh _⟩
 ·intro b L hb
  simp only [Qj,Qr,QD]
  by_cases e:b=σ.objs.length
  ·omega
  ·rw [Mu.up_ne _ _ e] at hb; have:=h.dom b L hb; omega
 ·intro b L hb
  by_cases e:b=σ.objs.length
  ·subst e; rw [Mu.up_self] at hb; injection hb with hb; subst hb; exact .inr (.inr ⟨_,hnew⟩)
  ·rw [Mu.up_ne _ _ e] at hb; exact (h.dat b L hb).of (hold _ (h.lt b L hb))
 ·intro b k rw es' L ho hb
  simp only [hget] at ho
  by_cases e:b=σ.objs.length
  ·rw [if_pos e] at ho; cases ho
  ·rw [if_neg e] at ho
   rw [Mu.up_ne _ _ e] at hb
   obtain⟨h1,h2,h3⟩:=h.cells b k rw es' L ho hb
   exact⟨h1,h2,fun j v hj=>by obtain⟨c,hc,hv'⟩:=h3 j v hj; exact⟨c,(Zy (hold _ (h.lt b L hb))).trans hc,hv'.mono hmono⟩⟩
 ·intro b k es' L ho hb
  simp only [hget] at ho
  by_cases e:b=σ.objs.length
  ·rw [if_pos e] at ho; cases ho
  ·rw [if_neg e] at ho
   rw [Mu.up_ne _ _ e] at hb
   rw [hold _ (h.lt b L hb)]
   exact h.rw b k es' L ho hb
 ·intro b k L ho hx hb
  simp only [hget] at ho
  by_cases e:b=σ.objs.length
  ·subst e
   rw [if_pos rfl] at ho; injection ho with ho; subst ho
   rw [Mu.up_self] at hb; injection hb with hb; subst hb
   obtain⟨r1,r2,r3,r4,r5,r6⟩:=hr
   exact⟨_,hnew,⟨by simpa using r1,r2,r3,r4,r5,r6⟩,fun t v ht=>(hv t v ht).mono hmono⟩
  ·rw [if_neg e] at ho
   rw [Mu.up_ne _ _ e] at hb
   rw [hold _ (h.lt b L hb)]
   obtain⟨ob,h1,h2⟩:=h.obj b k L ho hx hb
   exact⟨ob,h1,h2.mono hmono⟩
 ·intro b b' o o' L L' h1 h2 h3 h4 h5 h6 h7
  simp only [hget] at h1 h3
  by_cases e:b=σ.objs.length
  ·have e':b'≠σ.objs.length:=fun x=>h5 (e.trans x.symm)
   rw [Mu.up_ne _ _ e'] at h7
   subst e
   rw [Mu.up_self] at h6; injection h6 with h6; subst h6
   have:=h.lt b' L' h7
   dsimp only; omega
  ·rw [if_neg e] at h1
   rw [Mu.up_ne _ _ e] at h6
   by_cases e':b'=σ.objs.length
   ·subst e'
    rw [Mu.up_self] at h7; injection h7 with h7; subst h7
    have:=h.lt b L h6
    dsimp only; omega
   ·rw [if_neg e'] at h3
    rw [Mu.up_ne _ _ e'] at h7
    exact h.sep b b' o o' L L' h1 h2 h3 h4 h5 h6 h7
 ·intro b hb; exact Mu.up_ne _ _ (by omega)
 ·simp
 ·intro b hb hbl
  simp only [hget]; rw [if_neg (by omega)]
 ·rintro c ⟨b,o,L,hb,hf,hp,hL,rfl⟩ hc
  simp only [hget] at hb
  by_cases e:b=σ.objs.length
  ·subst e
   rw [Mu.up_self] at hL; injection hL with hL; subst hL
   simp only at hc; omega
  ·rw [if_neg e] at hb
   rw [Mu.up_ne _ _ e] at hL
   exact⟨b,o,L,hb,hf,hp,hL,rfl⟩
def Apart(φ:Fr)(ap:List (Nat×Nat)):Prop:=∀ x∈ap,∃ p q,φ.get x.1=some (.ptr p)/\φ.get x.2=some (.ptr q)/\Ptr.off p q=true
theorem Zfr{R:Type}{φ:Fr}{x:Option R}{r:R}:∀ {ap:List (Nat×Nat)},apartK φ x ap=some r->Apart φ ap/\x=some r
 | [],h=>⟨fun y hy=>by simp at hy,h⟩
 | y::l,h=>by
  simp only [apartK] at h
  split at h
  ·rename_i p q h1 h2
   split at h
   ·rename_i h3
    obtain⟨g1,g2⟩:=Zfr h
    refine⟨fun z hz=>?_,g2⟩
    rcases Qaz.1 hz with rfl | hz
    ·exact⟨p,q,h1,h2,h3⟩
    ·exact g1 z hz
   ·cases h
  ·cases h
def DrS(P:Program)(Γ:Gam)(dr:DrawOk):Prop:=∀ (ops:Array Oper) (qs:Nat) (ap:List (Nat×Nat)),dr ops=some (qs,ap)->∀ (ro:Option Nat) (n nt:Nat) {R:Type} {φ:Fr} {σ:Store} {K:Fr->Store->Option R} {r:R} (_:evOps P Γ nt qs ops ops.toList 0 φ σ K=some r) (_:Apart φ ap) {μ:Mu} {w:World} {a:Act} (_:FrR nt μ φ a) (_:Rel μ σ w)
  {Q:Exit->Act->World->Prop} (_:∀ φ' σ' μ' a' w',K φ' σ'=some r->FrR nt μ' φ' a'->Ste μ σ w μ' σ' w'->a'.defers=a.defers->Q .normal a' w') (t:Nat),wpOpsIn (W ro) n P ops Q (Region.schedule (P.follows .mixedOrders) ops t) a w
def AX.ex:AX->Exit
 | .normal=>.normal
 | .exit i=>.exit i
 | .ret=>.ret
theorem Zdh(m i:Nat):bitOn m i=m.testBit i:=by
 unfold bitOn
 rw [Nat.testBit_eq_decide_div_mod_eq,Nat.shiftRight_eq_div_pow]
 cases h:Qi (m / 2^i % 2) 1 with
 | true=>simp [Qp h]
 | false=>
  have:¬ (m / 2^i % 2=1):=fun e=>by rw [e] at h; simp at h
  simp [this]
theorem Fr.sel_get(φ:Fr)(S:Nat):∀ (n:Nat) (t:Nat) (v:AV),Fr.get (φ.sel S n) t=some v->φ.get t=some v:=by
 intro n
 induction n with
 | zero=>intro t v h; simp [Fr.sel,Fr.get] at h
 | succ n ih=>
  intro t v h
  simp only [Fr.sel] at h
  cases hb:bitOn S n with
  | false=>rw [hb] at h; exact ih t v h
  | true=>
   rw [hb] at h
   simp only [cond_true] at h
   split at h
   ·rename_i u hu
    rw [Fr.get_cons] at h
    by_cases e:n=t
    ·rw [if_pos e] at h; rw [<-e,hu]; exact h
    ·rw [if_neg e] at h; exact ih t v h
   ·exact ih t v h
theorem FrR.sel{nt:Nat}{μ:Mu}{φ:Fr}{a:Act}(h:FrR nt μ φ a)(S n:Nat):FrR nt μ (φ.sel S n) a:=⟨fun t v ht=>h.1 t v (Fr.sel_get φ S n t v ht),h.2⟩
theorem Z38(L:List Nat)(φ:Fr):∀ (vs:List AV),(∀ (i:Nat) (t:Nat) (v:AV),L[i]?=some t->vs[i]?=some v->φ.get t=some v)->∀ t v,Fr.get (L.zip vs) t=some v->φ.get t=some v:=by
 induction L with
 | nil=>intro vs _ t v h; simp [Fr.get] at h
 | cons x L ih=>
  intro vs hv t v h
  cases vs with
  | nil=>simp [Fr.get] at h
  | cons u vs=>
   simp only [Qai] at h
   rw [Fr.get_cons] at h
   by_cases e:x=t
   ·rw [if_pos e] at h; injection h with h; subst h e; exact hv 0 _ _ rfl rfl
   ·rw [if_neg e] at h
    exact ih vs (fun i t v h1 h2=>hv (i+1) t v (by simpa using h1) (by simpa using h2)) t v h
theorem Zz0(φ:Fr):(φ.map (·.1)).zip (φ.map (·.2))=φ:=by
 induction φ with
 | nil=>rfl
 | cons p φ ih=>simp only [Qay,Qai,ih]
section
variable {P:Program} {Γ:Gam} {dr:DrawOk} {k nt:Nat} {rf:Bool} {ro:Option Nat} {n B:Nat}
theorem Zd1(hΓ:GS P Γ)(hdr:DrS P Γ dr)(hrf:rf=true->ro=none)(c:Code):∀ {R:Type} {N:Live} {φ:Fr} {σ:Store} {K:AX->Fr->Store->Option R} {r:R} (_:evCode P Γ dr k nt rf c N φ σ K=some r) {μ:Mu} {w:World} {a:Act} (_:FrR nt μ φ a) (_:Rel μ σ w) (_:Df B a w) (_:B<=w.heap.size)
  {Q:Exit->Act->World->Prop} (_:∀ e φ' σ' μ' a' w',K e φ' σ'=some r->FrR nt μ' φ' a'->Ste μ σ w μ' σ' w'->Df B a' w'->Q e.ex a' w'),c.wpIn (W ro) n P Q a w:=by
 induction c with
 | skip=>
  intro R N φ σ K r h μ w a hF hR hD hB Q hQ
  exact wpIn_skip (hQ .normal φ σ μ a w h hF (Ste.refl hR) hD)
 | region id ops draw=>
  intro R N φ σ K r h μ w a hF hR hD hB Q hQ
  have fin:∀ φ' σ' μ' a' w',K .normal φ' σ'=some r->FrR nt μ' φ' a'->Ste μ σ w μ' σ' w'->a'.defers=a.defers->Q .normal a' w':=
   fun φ' σ' μ' a' w' hK hF' hs hd=>hQ .normal φ' σ' μ' a' w' hK hF' hs (hD.ste hR hs hd)
  cases draw with
  | false=>
   simp only [evCode] at h
   refine wpIn_region ?_
   have:=Zr5 (ro:=ro) (n:=n) hΓ ops.toList 0 (fun j=>by simp) h hF hR fin
   rw [List.range_eq_range',<-Qw]; exact this
  | true=>
   simp only [evCode] at h
   obtain⟨⟨qs,ap⟩,hq,h⟩:=Qa.1 h
   obtain⟨hap,h⟩:=Zfr h
   refine wpIn_region_draw fun t=>?_
   have hR':Rel μ σ { w with drawn:=w.drawn+1 }:=(Ste.drew hR).rel
   refine hdr ops qs ap hq ro n nt h hap hF hR' (fun φ' σ' μ' a' w' hK hF' hs hd=>?_) t
   exact fin φ' σ' μ' a' w' hK hF' ((Ste.drew hR).trans hs) hd
 | seq x y ihx ihy=>
  intro R N φ σ K r h μ w a hF hR hD hB Q hQ
  simp only [evCode] at h
  refine wpIn_seq (ihx h hF hR hD hB ?_)
  intro e φ' σ' μ' a' w' hK hF' hs hD'
  cases e with
  | normal=>
   refine ihy hK (show FrR nt μ' (bif Code.plain x then φ' else φ'.sel (liveC y N) nt) a' by cases Code.plain x; exact hF'.sel _ _; exact hF') hs.rel hD' (Q5 hB hs.size) ?_
   intro e2 φ2 σ2 μ2 a2 w2 hK2 hF2 hs2 hD2
   exact hQ e2 φ2 σ2 μ2 a2 w2 hK2 hF2 (hs.trans hs2) hD2
  | exit i=>exact hQ (.exit i) φ' σ' μ' a' w' hK hF' hs hD'
  | ret=>exact hQ .ret φ' σ' μ' a' w' hK hF' hs hD'
 | cond c x y ihx ihy=>
  intro R N φ σ K r h μ w a hF hR hD hB Q hQ
  simp only [evCode] at h
  split at h
  ·rename_i t ht
   have hc:=(hF.ev ht).bool_inv
   split at h
   ·rename_i e; subst e
    exact wpIn_cond hc (ihx h hF hR hD hB hQ)
   ·rename_i e
    have e:t=false:=by simpa using e
    subst e
    exact wpIn_cond hc (ihy h hF hR hD hB hQ)
  ·exact absurd h (by simp)
 | block id c ih=>
  intro R N φ σ K r h μ w a hF hR hD hB Q hQ
  simp only [evCode] at h
  refine wpIn_block (ih h hF hR hD hB ?_)
  intro e φ' σ' μ' a' w' hK hF' hs hD'
  cases e with
  | normal=>exact hQ .normal φ' σ' μ' a' w' hK hF' hs hD'
  | exit i=>
   simp only [AX.ex,Exit.inBlock]
   by_cases e:i=id
   ·subst e
    rw [if_pos rfl]
    simp only [Nat.beq_refl,cond_true] at hK
    exact hQ .normal φ' σ' μ' a' w' hK hF' hs hD'
   ·rw [if_neg e]
    have:Qi i id=false:=by
     cases hb:Qi i id with
     | false=>rfl
     | true=>exact absurd (Qp hb) e
    simp only [this,cond_false] at hK
    exact hQ (.exit i) φ' σ' μ' a' w' hK hF' hs hD'
  | ret=>exact hQ .ret φ' σ' μ' a' w' hK hF' hs hD'
 | loop c ih=>
  intro R N φ σ K r h μ w a hF hR hD hB Q hQ
  simp only [evCode] at h
  obtain⟨⟨e0,φ0,σ0⟩,h,hK0⟩:=Qa.1 h
  simp only at hK0
  refine wpIn_loop_rounds k ?_
  have key:∀ (j:Nat) (vs:List AV) (σ1:Store),iter j (loopK nt (evCode P Γ dr k nt rf c) ((φ.sel (liveC c { N with n:=0 }) nt).map (·.1)) N (liveC c { N with n:=0 })) (vs,σ1)=some (e0,φ0,σ0) ->
    ∀ {μ1:Mu} {a1:Act} {w1:World},FrR nt μ1 (((φ.sel (liveC c { N with n:=0 }) nt).map (·.1)).zip vs) a1->Ste μ σ w μ1 σ1 w1->Df B a1 w1->Code.roundsIn (W ro) n P c Q j a1 w1:=by
   intro j
   induction j with
   | zero=>intro vs σ1 h; simp [iter] at h
   | succ j ihj=>
    intro vs σ1 h μ1 a1 w1 hF1 hs1 hD1
    simp only [iter] at h
    split at h
    ·exact absurd h (by simp)
    ·rename_i s' hs'
     obtain⟨vs',σ'⟩:=s'
     simp only [loopK] at hs'
     refine ih hs' hF1 hs1.rel hD1 (Q5 hB hs1.size) ?_
     intro e φ2 σ2 μ2 a2 w2 hK2 hF2 hs2 hD2
     cases e with
     | normal=>
      simp only [loopE] at hK2
      obtain⟨us,hus,hK2⟩:=Qa.1 hK2
      injection hK2 with hK2; injection hK2 with hK2
      simp only [Prod.mk.injEq] at hK2
      obtain⟨rfl,rfl⟩:=hK2
      obtain⟨_,h2⟩:=Zc9 hus
      exact ihj us σ2 h ⟨fun t v ht=>hF2.1 t v (Z38 _ φ2 us (fun i t v h3 h4=>h2 i t v h3 h4) t v ht),hF2.2⟩ (hs1.trans hs2) hD2
     | exit i=>
      simp only [loopE] at hK2
      injection hK2 with hK2; cases hK2
     | ret=>
      simp only [loopE] at hK2
      injection hK2 with hK2; cases hK2
    ·rename_i r' hs'
     injection h with h; subst h
     simp only [loopK] at hs'
     refine ih hs' hF1 hs1.rel hD1 (Q5 hB hs1.size) ?_
     intro e φ2 σ2 μ2 a2 w2 hK2 hF2 hs2 hD2
     cases e with
     | normal=>
      simp only [loopE] at hK2
      obtain⟨us,hus,hK2⟩:=Qa.1 hK2
      injection hK2 with hK2; cases hK2
     | exit i=>
      simp only [loopE] at hK2
      injection hK2 with hK2; injection hK2 with hK2
      simp only [Prod.mk.injEq] at hK2
      obtain⟨rfl,rfl,rfl⟩:=hK2
      exact hQ (.exit i) _ _ μ2 a2 w2 hK0 (hF2.sel _ nt) (hs1.trans hs2) hD2
     | ret=>
      simp only [loopE] at hK2
      injection hK2 with hK2; injection hK2 with hK2
      simp only [Prod.mk.injEq] at hK2
      obtain⟨rfl,rfl,rfl⟩:=hK2
      exact hQ .ret _ _ μ2 a2 w2 hK0 (hF2.sel _ nt) (hs1.trans hs2) hD2
  exact key k _ σ h (by rw [Zz0]; exact hF.sel _ _) (Ste.refl hR) hD
 | exit i=>
  intro R N φ σ K r h μ w a hF hR hD hB Q hQ
  exact wpIn_exit (hQ (.exit i) φ σ μ a w h hF (Ste.refl hR) hD)
 | ret=>
  intro R N φ σ K r h μ w a hF hR hD hB Q hQ
  exact wpIn_ret (hQ .ret φ σ μ a w h hF (Ste.refl hR) hD)
 | rangeFunc f ps x y _ _=>
  intro R N φ σ K r h μ w a hF hR hD hB Q hQ
  simp only [evCode] at h
  cases rf with
  | false=>exact absurd h (by simp)
  | true=>
   simp only at h
   split at h
   ·rename_i g p q hg
    obtain⟨⟨ev,σv⟩,hr0,h⟩:=Qa.1 h
    simp only [rangeV] at hr0
    obtain⟨⟨v,σ'⟩,hr,hr0⟩:=Qa.1 hr0
    obtain rfl:=hrf rfl
    have hfv:=hF.ev hg
    generalize he:a.eval f=cf at hfv
    cases hfv with
    | @func _ _ _ p' q' hp hq vp vq=>
    refine wpIn_rangeFunc fun fn _=>?_
    obtain⟨rec,hrec⟩:∃ rec:Loop,rec={ state:=.ready,pending:=none,fn,tmps:=a.tmps,params:=ps,assign:=x,body:=y,defers:=w.heap.size }:=⟨_,rfl⟩
    have hs0:=Ste.loop hR (φ:=φ.sel (liveC x ⟨liveC y ⟨0,0,[]⟩,0,[]⟩) nt) (ps:=ps) (x:=x) (y:=y) (nt:=nt) (rec:=rec) (by rw [hrec]; exact⟨rfl,rfl,rfl,hF.2,rfl,rfl⟩) (by rw [hrec]; exact (hF.sel _ _).1)
    generalize hμ1:μ.up σ.objs.length ⟨w.heap.size+1,0,0,0⟩=μ1 at hs0
    generalize hw1:(w.alloc (.deferred (some []))).alloc (.loop rec)=w1 at hs0
    have hl1:μ1 σ.objs.length=some ⟨w.heap.size+1,0,0,0⟩:=by rw [<-hμ1]; exact Mu.up_self _ _ _
    have hVp:VL μ p p'.toList:=⟨by simpa using hp,fun i u v hu hv=>vp i u v hu (by simpa using hv)⟩
    have hVq:VL μ q q'.toList:=⟨by simpa using hq,fun i u v hu hv=>vq i u v hu (by simpa using hv)⟩
    have hargs:VL μ1 (p++[.yld σ.objs.length]++q) (p'++#[Qaj (Fn.yield (w.heap.size+1)) #[] #[]]++q').toList:=by
     simp only [Qaf]
     exact ((hs0.vl hR hVp).append (VL.cons (.yld hl1) (VL.nil _))).append (hs0.vl hR hVq)
    obtain⟨hent,hcalls⟩:=hΓ _ _ _ _ _ hr μ1 w1 (p'++#[Qaj (Fn.yield (w.heap.size+1)) #[] #[]]++q') hs0.rel hargs
    refine⟨w.heap.size+1,[{ target:=.collected w.heap.size,args:=#[] }],w1,{ target:=.fn (.func g) q',args:=p'++#[Qaj (Fn.yield (w.heap.size+1)) #[] #[]] },w1,g,p'++#[Qaj (Fn.yield (w.heap.size+1)) #[] #[]]++q',w1,?_,?_,fun _ _=>trivial,?_,fun e=>by simp [W,Fence.wide] at e,?_⟩
    ·rw [<-hw1,hrec]; exact run_enterLoop_outer _ _ _ _ _
    ·simp only [resolve,rangeCall,he,Deferred.ofValue]
     simp [Act.eval]
    ·simp only [invoke,hent]
    ·have hDw1:w1.heap[w.heap.size]?=some (.deferred (some [])):=by
      rw [<-hw1]; exact (Below.heap_alloc _ _ _ (by simp)).trans (World.alloc_heap_new w _)
     have hD1:Df B { a with defers:=[{ target:=.collected w.heap.size,args:=#[] }]++a.defers } w1:=by
      obtain⟨Ds,g1,g2,g3⟩:=hD
      refine⟨w.heap.size::Ds,by simp [g1],?_,?_⟩
      ·rw [Qas]
       refine⟨fun hm=>?_,g2⟩
       have:=(Qm.1 (g3 _ hm).2).1
       omega
      ·intro D hm
       rw [Qaz] at hm
       rcases hm with rfl | hm
       ·exact⟨hB,hDw1⟩
       ·obtain⟨k1,k2⟩:=g3 D hm
        refine⟨k1,?_⟩
        have hlt:=(Qm.1 k2).1
        rw [<-hw1,Below.heap_alloc _ _ _ (by simp; omega),Below.heap_alloc _ _ _ hlt]; exact k2
     refine Zlj (hcalls.mono ?_)
     rintro e w2 ⟨μ2,c,rfl,hv,hs⟩
     have hl2:μ2 σ.objs.length=some ⟨w.heap.size+1,0,0,0⟩:=by rw [hs.agree _ (by simp)]; exact hl1
     have hFe:FrR nt μ2 φ { a with defers:=[{ target:=.collected w.heap.size,args:=#[] }]++a.defers }:=(hF.mono (hs0.mu hR)).mono (hs.mu hs0.rel)
     have hD2:Df B { a with defers:=[{ target:=.collected w.heap.size,args:=#[] }]++a.defers } w2:=hD1.ste hs0.rel hs rfl
     have over:∀ (φ':Fr) (ps':List Tmp) (x' y':Code) (nt':Nat) (st:LSt),σ'.objs[σ.objs.length]?=some (.loop φ' ps' x' y' nt' st)->st≠.busy->∃ r,w2.heap[w.heap.size+1]?=some (.loop r)/\st.ok r /\
       (Instr.endLoop (w.heap.size+1)).run P w2=.ok r.pending (w2.putObj (w.heap.size+1) (.loop { r with state:=.exhausted })) /\
       Ste μ σ w μ2 (σ'.setO σ.objs.length .dead) (w2.putObj (w.heap.size+1) (.loop { r with state:=.exhausted })) /\
       Df B { a with defers:=[{ target:=.collected w.heap.size,args:=#[] }]++a.defers } (w2.putObj (w.heap.size+1) (.loop { r with state:=.exhausted })):=by
      intro φ' ps' x' y' nt' st hst hnb
      obtain⟨ob,h1,h2⟩:=hs.rel.obj _ _ _ hst rfl hl2
      cases ob with
      | loop r=>
       obtain⟨⟨_,_,_,_,h3⟩,_⟩:=h2
       have hk:=Ste.wobj (o':=.dead) (ob:=.loop { r with state:=.exhausted }) (hs0.trans hs) hst rfl hl2 (by intro l rw es e; cases e) (.inr ⟨_,rfl⟩) (by intro e; cases e) (.inr (Qh _)) (fun e=>absurd e (by simp))
       refine⟨r,h1,h3,run_endLoop h1 ?_,hk,?_⟩
       ·cases st with
        | ready=>rw [h3.1]; simp
        | busy=>exact absurd rfl hnb
        | fin e=>rw [h3.1]; simp
       ·obtain⟨Ds,g1,g2,g3⟩:=hD2
        refine⟨Ds,g1,g2,fun D hm=>?_⟩
        obtain⟨k1,k2⟩:=g3 D hm
        refine⟨k1,?_⟩
        rw [World.putObj_heap_other (fun e=>by rw [e,h1] at k2; cases k2)]; exact k2
      | _=>exact h2.elim
     have hFe':=hFe.sel N.all nt
     simp only at hr0 h
     split at hr0
     ·rename_i φ' ps' x' y' nt' hst
      injection hr0 with hr0
      simp only [Prod.mk.injEq] at hr0
      obtain⟨rfl,rfl⟩:=hr0
      obtain⟨r,h1,h2,h3,h4,h5⟩:=over _ _ _ _ _ _ hst (by simp)
      refine⟨r.pending,_,h3,?_⟩
      rw [h2.2] at h4 h5 ⊢
      exact hQ .normal _ _ μ2 _ _ h hFe' h4 h5
     ·rename_i φ' ps' x' y' nt' e hst
      injection hr0 with hr0
      simp only [Prod.mk.injEq] at hr0
      obtain⟨rfl,rfl⟩:=hr0
      obtain⟨r,h1,h2,h3,h4,h5⟩:=over _ _ _ _ _ _ hst (by simp)
      refine⟨r.pending,_,h3,?_⟩
      obtain⟨_,h6,h7⟩:=h2
      rw [h6] at h4 h5 ⊢
      cases e with
      | normal=>exact absurd rfl h7
      | exit i=>exact wpIn_exit (hQ (.exit i) _ _ μ2 _ _ h hFe' h4 h5)
      | ret=>exact wpIn_ret (hQ .ret _ _ μ2 _ _ h hFe' h4 h5)
     ·exact absurd hr0 (by simp)
   ·exact absurd h (by simp)
 | scope c _=>intro R N φ σ K r h; simp [evCode] at h
 | label l=>intro R N φ σ K r h; simp [evCode] at h
 | goto l=>intro R N φ σ K r h; simp [evCode] at h
 | refuse s=>intro R N φ σ K r h; simp [evCode] at h
end
end Go.Ab

namespace Go.Ab
open Go Go.RowKit
section
variable {P:Program} {μ:Mu} {σ:Store} {w:World} {φ:Fr} {a:Act} {nt:Nat}
def resOneS(tmps:Array Value):ResultVar->Sem Value
 | .tmp t=>pure (tmps.getD t undef)
 | .cell a t=>do loadVar t (<-asAddr (tmps.getD a undef))
theorem Zvx(hF:FrR nt μ φ a)(hR:Rel μ σ w)(l:List ResultVar):∀ {K:List AV->Option (AV×Store)} {r:AV×Store} (_:resL P φ σ l K=some r),
  ∃ vs cs,K vs=some r/\VL μ vs cs/\(l.mapM (resOneS a.tmps)).run P w=.ok cs w:=by
 induction l with
 | nil=>intro K r h; exact⟨[],[],h,VL.nil _,by simp⟩
 | cons x l ih=>
  intro K r h
  simp only [resL] at h
  have one:∃ v c,resL P φ σ l (fun l=>K (v::l))=some r/\VR μ v c/\(resOneS a.tmps x).run P w=.ok c w:=by
   cases x with
   | tmp t=>
    simp only [resOne] at h
    obtain⟨v,hv,h⟩:=Qa.1 h
    exact⟨v,_,h,hF.1 t v hv,rfl⟩
   | cell t ty=>
    simp only [resOne] at h
    split at h
    ·rename_i p hp
     have hvp:=hF.1 t _ hp
     rcases hvp.ptr_inv with ⟨rfl,_⟩ | ⟨b,o,L,rfl,hb,he⟩
     ·exact (Zib h).elim
     ·rw [he] at hvp
      obtain⟨v,c,hK,hrun,hv⟩:=Zhk hR h hvp
      exact⟨v,c,hK,hv,by simp only [resOneS,he,asAddr,Sem.run_bind,Sem.run_pure,Qd,hrun]⟩
    ·exact absurd h (by simp)
  obtain⟨v,c,h1,h2,h3⟩:=one
  obtain⟨vs,cs,h4,h5,h6⟩:=ih h1
  exact⟨v::vs,c::cs,h4,VL.cons h2 h5,by rw [Qau]; simp [h3,h6]⟩
theorem Zk7(hF:FrR nt μ φ a)(hR:Rel μ σ w){fn:Func}{v:AV}{σ':Store}(h:resK P fn φ σ=some (v,σ')):σ'=σ/\∃ c,(results fn a.tmps).run P w=.ok c w/\VR μ v c:=by
 unfold resK at h
 obtain⟨vs,cs,hK,hv,hrun⟩:=Zvx hF hR _ h
 have hm:(fn.results.mapM (resOneS a.tmps)).run P w=.ok cs.toArray w:=by
  rw [QS]; simp [hrun]
 have hres:(results fn a.tmps).run P w=.ok (if h:cs.toArray.size=1 then cs.toArray[0] else .tuple cs.toArray) w:=by
  unfold results
  have e:∀ x:ResultVar,(match x with | ResultVar.tmp t=>(pure (a.tmps.getD t undef):Sem Value) | .cell b t=>do loadVar t (<-asAddr (a.tmps.getD b undef)))=resOneS a.tmps x:=by
   intro x; cases x <;> rfl
  have hm':(fn.results.mapM fun x=>(match x with | ResultVar.tmp t=>(pure (a.tmps.getD t undef):Sem Value) | .cell b t=>do loadVar t (<-asAddr (a.tmps.getD b undef)))).run P w=.ok cs.toArray w:=by
   rw [show (fun x=>(match x with | ResultVar.tmp t=>(pure (a.tmps.getD t undef):Sem Value) | .cell b t=>do loadVar t (<-asAddr (a.tmps.getD b undef))))=resOneS a.tmps from funext e]; exact hm
  simp only [Sem.run_bind]
  refine Eq.trans (congrArg (fun q=>Qat q _) hm') ?_
  rfl
 split at hK
 ·injection hK with hK
  simp only [Prod.mk.injEq] at hK
  obtain⟨rfl,rfl⟩:=hK
  obtain⟨c,cr,rfl,hvc,hvr⟩:=hv.inv_cons
  obtain rfl:=hvr.inv_nil
  exact⟨rfl,c,hres,hvc⟩
 ·rename_i hne
  injection hK with hK
  simp only [Prod.mk.injEq] at hK
  obtain⟨rfl,rfl⟩:=hK
  refine⟨rfl,.tuple cs.toArray,?_,.tuple (by simpa using hv.1) fun i x y hx hy=>hv.2 i x y hx (by simpa using hy)⟩
  rw [hres,dif_neg]
  intro e
  have:vs.length=1:=by rw [hv.1]; simpa using e
  cases vs with
  | nil=>simp at this
  | cons x xs=>
   cases xs with
   | nil=>exact hne x rfl
   | cons y ys=>simp at this
theorem Z5a{ro:Option Nat}{n:Nat}{fn:Func}{tmps:Array Value}{B:Nat}(Ds:List Nat):∀ {w:World} (_:Ds.Nodup) (_:∀ D∈Ds,B<=D/\w.heap[D]?=some (Obj.deferred (some [])))
  {R:Ending->World->Prop} (_:∀ w':World,w'.heap.size=w.heap.size->w'.os=w.os->w'.tape=w.tape->w'.output=w.output->w'.drawn=w.drawn->(∀ k,(k<B\/∀ ds,w.heap[k]?≠some (Obj.deferred ds))->w'.heap[k]?=w.heap[k]?)->∃ c,(results fn tmps).run P w'=.ok c w'/\R (.returned c) w'),
  LeavesInM (W ro) n P fn tmps R (Ds.map fun D=>{ target:=.collected D,args:=#[] }) .returning w:=by
 induction Ds with
 | nil=>
  intro w _ _ R h
  exact h w rfl rfl rfl rfl rfl (fun _ _=>rfl)
 | cons D Ds ih=>
  intro w hnd hD R h
  obtain⟨hB,hw⟩:=hD D (by simp)
  have hfar:∀ k,k≠D->(w.putObj D (.deferred none)).heap[k]?=w.heap[k]?:=fun k hk=>World.putObj_heap_other hk
  rw [Qas] at hnd
  refine⟨by simp,.inl ⟨D,_,rfl,run_takeDeferred hw,ih hnd.2 (fun E hE=>?_) (fun w' h1 h2 h3 h4 h6 h5=>h w' (h1.trans (by simp [World.putObj])) h2 h3 h4 h6 fun k hk=>?_)⟩⟩
  ·obtain⟨h1,h2⟩:=hD E (by simp [hE])
   exact⟨h1,by rw [hfar E (fun e=>hnd.1 (e ▸ hE))]; exact h2⟩
  ·have hne:k≠D:=by
    rintro rfl
    rcases hk with hk | hk
    ·omega
    ·exact hk _ hw
   rw [h5 k ?_,hfar k hne]
   rcases hk with hk | hk
   ·exact .inl hk
   ·exact .inr (fun ds=>by rw [hfar k hne]; exact hk ds)
theorem Zwa(l:List AV):∀ (i t:Nat) (v:AV),(argFr l i).get t=some v->i<=t/\l[t-i]?=some v:=by
 induction l with
 | nil=>intro i t v h; simp [argFr,Fr.get] at h
 | cons x l ih=>
  intro i t v h
  simp only [argFr] at h
  rw [Fr.get_cons] at h
  by_cases e:i=t
  ·rw [if_pos e] at h; subst e; simpa using h
  ·rw [if_neg e] at h
   obtain⟨h1,h2⟩:=ih (i+1) t v h
   refine⟨by omega,?_⟩
   rw [show t-i=(t-(i+1))+1 by omega,QF]; exact h2
theorem Zpm{Γ:Gam}{dr:DrawOk}{k:Nat}(hΓ:GS P Γ)(hdr:DrS P Γ dr){g:FuncId}{fn:Func}(hf:P.funcs[g]?=some fn){args:List AV}{σ σ':Store}{v:AV}(h:evBody P Γ dr k fn args σ=some (v,σ'))
  {μ:Mu} {w:World} {cargs:Array Value} (hR:Rel μ σ w) (hv:VL μ args cargs.toList):Calls P g cargs w fun e w'=>∃ μ' c,e=.returned c/\VR μ' v c/\Ste μ σ w μ' σ' w':=by
 unfold evBody at h
 split at h
 ·exact absurd h (by simp)
 ·rename_i c hb
  refine (callsIn_wide (n:=0)).1 (callsIn_of_wp_marks (F:=Fence.wide) (n:=0) hf hb trivial ?_)
  have hF:FrR fn.ntmps μ (argFr args 0) { tmps:=cargs++Qar (fn.ntmps-cargs.size) undef,defers:=[] }:=by
   refine⟨fun t u ht=>?_,by simp; omega⟩
   obtain⟨_,h2⟩:=Zwa args 0 t u ht
   rw [Qaa] at h2
   have htl:t<cargs.size:=by have:=(Qc.1 h2).1; rw [hv.1] at this; simpa using this
   refine hv.2 t u _ h2 ?_
   simp [htl,Array.getElem?_append]
  refine Zd1 (ro:=none) (n:=0) (B:=w.heap.size) hΓ hdr (fun _=>rfl) c h hF hR ⟨[],rfl,Qax,by simp⟩ (Qh _) ?_
  intro e φ' σ2 μ' a' w' hK hF' hs hD
  have fin:resK P fn φ' σ2=some (v,σ')->LeavesInM Fence.wide 0 P fn a'.tmps (fun e w'=>∃ μ' c,e=.returned c/\VR μ' v c/\Ste μ σ w μ' σ' w') a'.defers .returning w':=by
   intro hK
   obtain⟨rfl,_⟩:=Zk7 hF' hs.rel hK
   obtain⟨Ds,h1,h2,h3⟩:=hD
   rw [h1]
   refine Z5a (ro:=none) Ds h2 h3 ?_
   intro w2 k1 k2 k3 k4 k6 k5
   have hsame:∀ b L,μ' b=some L->w2.heap[L.blk]?=w'.heap[L.blk]?:=fun b L hb=>k5 _ (.inr ((hs.rel.dat b L hb).not))
   have hR2:Rel μ' σ' w2:=hs.rel.same (by omega) hsame
   obtain⟨_,cv2,hres2,hcv2⟩:=Zk7 hF' hR2 hK
   refine⟨cv2,hres2,μ',cv2,rfl,hcv2,hR2,hs.agree,hs.len,hs.prot,hs.keep,by have:=hs.size; omega,k2.trans hs.os,k3.trans hs.tape,k4.trans hs.output,fun c hc hn=>?_,hs.own,by rw [k6]; exact hs.drawn⟩
   rw [k5 c (.inl hc)]; exact hs.pres c hc hn
  cases e with
  | normal=>exact fin hK
  | ret=>exact fin hK
  | exit i=>exact absurd hK (by simp)
theorem Df.obj{B:Nat}{w:World}(h:Df B a w){b:Nat}{r:Loop}(hb:w.heap[b]?=some (.loop r))(ob:Obj):Df B a (w.putObj b ob):=by
 obtain⟨Ds,g1,g2,g3⟩:=h
 refine⟨Ds,g1,g2,fun D hm=>?_⟩
 obtain⟨k1,k2⟩:=g3 D hm
 refine⟨k1,?_⟩
 rw [World.putObj_heap_other (fun e=>by rw [e,hb] at k2; cases k2)]; exact k2
theorem Zox(ps:List Tmp):∀ {args:List AV} {cs:List Value} {φ:Fr} {T:Array Value} (_:FrR nt μ φ { tmps:=T,defers:=[] }) (_:VL μ args cs) (_:ps.length=args.length) (_:(ps.all fun t=>QG t nt)=true),
  FrR nt μ (roundFr ps args φ) { tmps:=(ps.zip cs).foldl (fun tmps (t,a)=>tmps.setIfInBounds t a) T,defers:=[] }:=by
 induction ps with
 | nil=>intro args cs φ T hF _ _ _; exact hF
 | cons t ps ih=>
  intro args cs φ T hF hv hl hall
  cases args with
  | nil=>simp at hl
  | cons v args=>
   obtain⟨c,cs',rfl,h1,h2⟩:=hv.inv_cons
   rw [List.all_cons,Q6,Qaw] at hall
   have:=ih (hF.put hall.1 h1) h2 (by simpa using hl) hall.2
   have e:roundFr (t::ps) (v::args) φ=roundFr ps args ((t,v)::φ):=by simp [roundFr]
   rw [e]
   exact this
theorem Zog{Γ:Gam}{dr:DrawOk}{k:Nat}(hΓ:GS P Γ)(hdr:DrS P Γ dr){l:Nat}{args:List AV}{σ σ':Store}{v:AV}(h:evRound P Γ dr k l args σ=some (v,σ'))
  {μ:Mu} {w:World} {cargs:Array Value} (hR:Rel μ σ w) (hv:VL μ args cargs.toList):(Fun.yl l).Does P μ w cargs fun e w'=>∃ μ' c,e=.returned c/\VR μ' v c/\Ste μ σ w μ' σ' w':=by
 intro L hL
 unfold evRound at h
 split at h
 ·rename_i φ ps x y nt ho
  split at h
  ·rename_i hc
   obtain⟨hp,hlen,hall⟩:=hc
   obtain⟨ob,hob,hOR⟩:=hR.obj _ _ _ ho rfl hL
   cases ob with
   | loop r=>
    obtain⟨⟨r1,r2,r3,r4,r5,r6⟩,hfr⟩:=hOR
    have hown:Own μ σ L.blk:=⟨l,_,L,ho,rfl,hp,hL,rfl⟩
    refine⟨r.fn,_,r.assign,r.body,run_yield hob (by rw [r1]; have:=hv.1; simp at this ⊢; omega),fun n=>roundIn_of_wpIn trivial ?_⟩
    have hF:FrR nt μ (roundFr ps args φ) { tmps:=(r.params.zip cargs).foldl (fun tmps (t,a)=>tmps.setIfInBounds t a) r.tmps,defers:=[] }:=by
     have:=Zox ps (φ:=φ) (T:=r.tmps) ⟨hfr,r4⟩ hv hlen hall
     rw [r1,<-Qag]
     simpa using this
    rw [r2,r3]
    obtain⟨⟨e1,φ1',σ1'⟩,hx,h⟩:=Qa.1 h
    simp only at h
    refine Zd1 (ro:=some L.blk) (n:=n) (B:=w.heap.size) hΓ hdr (fun e=>by cases e) x hx hF hR ⟨[],rfl,Qax,by simp⟩ (Qh _) ?_
    intro e φ1 σ1 μ1 a1 w1 hK hF1 hs1 hD1
    injection hK with hK
    simp only [Prod.mk.injEq] at hK
    obtain⟨rfl,rfl,rfl⟩:=hK
    cases e with
    | normal=>
     simp only at h
     split at h
     ·rename_i φ' ps' x' y' nt' ho1
      have hL1:μ1 l=some L:=by rw [hs1.agree l (Qc.1 ho).1]; exact hL
      obtain⟨ob1,hob1,hOR1⟩:=hs1.rel.obj _ _ _ ho1 rfl hL1
      cases ob1 with
      | loop q=>
       obtain⟨⟨q1,q2,q3,q4,q5,q6⟩,hfr1⟩:=hOR1
       refine⟨_,run_beginRound hob1 q5,?_⟩
       have hs2:=Ste.wobj (o':=.loop φ' ps' x' y' nt' .busy) (ob:=.loop { q with state:=.busy }) hs1 ho1 rfl hL1 (by intro l rw es e; cases e) (.inr ⟨_,rfl⟩)
        (fun _=>⟨⟨q1,q2,q3,q4,rfl⟩,hfr1⟩) (.inl hp) (fun _=>hown)
       obtain⟨⟨e2,σ2'⟩,hy,h⟩:=Qa.1 h
       simp only at h
       refine Zd1 (ro:=some L.blk) (n:=n) (B:=w.heap.size) hΓ hdr (fun e=>by cases e) y hy (hF1.sel _ _) hs2.rel (hD1.obj hob1 _) hs2.size ?_
       intro e φ2 σ2 μ2 a2 w2 hK hF2 hs3 hD2
       injection hK with hK
       simp only [Prod.mk.injEq] at hK
       obtain⟨rfl,rfl⟩:=hK
       split at h
       ·rename_i φ'' ps'' x'' y'' nt'' ho2
        have hs4:=hs2.trans hs3
        have hL2:μ2 l=some L:=by rw [hs4.agree l (Qc.1 ho).1]; exact hL
        obtain⟨ob2,hob2,hOR2⟩:=hs4.rel.obj _ _ _ ho2 rfl hL2
        cases ob2 with
        | loop s=>
         obtain⟨⟨s1,s2,s3,s4,s5⟩,hfr2⟩:=hOR2
         have fin:∀ (jump:Option Code) (st:LSt),st.ok { s with state:=if jump.isNone then .ready else .done,pending:=jump }->Ste μ σ w μ2 (σ2.setO l (.loop φ'' ps'' x'' y'' nt'' st)) (w2.putObj L.blk (.loop { s with state:=if jump.isNone then .ready else .done,pending:=jump })):=
          fun jump st hst=>Ste.wobj hs4 ho2 rfl hL2 (by intro l rw es e; cases e) (.inr ⟨_,rfl⟩) (fun _=>⟨⟨s1,s2,s3,s4,hst⟩,hfr2⟩) (.inl hp) (fun _=>hown)
         cases e with
         | normal=>
          injection h with hK; simp only [Prod.mk.injEq] at hK; obtain⟨rfl,rfl⟩:=hK
          exact⟨_,_,run_endRound none hob2,μ2,_,rfl,.bool _,fin none .ready ⟨rfl,rfl⟩⟩
         | exit i=>
          injection h with hK; simp only [Prod.mk.injEq] at hK; obtain⟨rfl,rfl⟩:=hK
          exact⟨_,_,run_endRound (some (.exit i)) hob2,μ2,_,rfl,.bool _,fin (some (.exit i)) (.fin (.exit i)) ⟨rfl,rfl,by simp⟩⟩
         | ret=>
          injection h with hK; simp only [Prod.mk.injEq] at hK; obtain⟨rfl,rfl⟩:=hK
          exact⟨_,_,run_endRound (some .ret) hob2,μ2,_,rfl,.bool _,fin (some .ret) (.fin .ret) ⟨rfl,rfl,by simp⟩⟩
        | _=>exact hOR2.elim
       ·exact absurd h (by simp)
      | _=>exact hOR1.elim
     ·exact absurd h (by simp)
    | exit i=>exact absurd h (by simp)
    | ret=>exact absurd h (by simp)
   | _=>exact hOR.elim
  ·exact absurd h (by simp)
 ·exact absurd h (by simp)
def SpS(P:Program)(sp:FuncId->Option (List AV->Store->Option (AV×Store))):Prop:=∀ g f,sp g=some f->∀ args σ v σ',f args σ=some (v,σ')->(∀ (cargs:Array Value) (w:World),(callFunc g cargs).run P w=.ok (.enter g cargs) w) /\
 ∀ (μ:Mu) (w:World) (cargs:Array Value),Rel μ σ w->VL μ args cargs.toList->Calls P g cargs w fun e w'=>∃ μ' c,e=.returned c/\VR μ' v c/\Ste μ σ w μ' σ' w'
theorem Zbn{g:FuncId}{fn:Func}(hf:P.funcs[g]?=some fn)(hn:(fn.name == "runtime.NumGoroutine")=false)(hb:fn.body.isNone=false)(cargs:Array Value)(w:World):(callFunc g cargs).run P w=.ok (.enter g cargs) w:=by
 have hn':¬ fn.name="runtime.NumGoroutine":=by simpa using hn
 have hb':¬ fn.body=none:=by intro e; rw [e] at hb; cases hb
 simp [callFunc,hf,hn',hb']
theorem Zw9{sp:FuncId->Option (List AV->Store->Option (AV×Store))}(hsp:SpS P sp){dr:DrawOk}(hdr:∀ j,GS P (gam P dr sp j)->DrS P (gam P dr sp j) dr)(k:Nat):GS P (gam P dr sp k):=by
 induction k with
 | zero=>
  intro g args σ v σ' h
  cases g with
  | yl l=>simp [gam] at h
  | fn g=>
   simp only [gam] at h
   split at h
   ·rename_i f hf
    exact fun μ w cargs hR hv=>⟨(hsp g f hf args σ v σ' h).1 _ _,(hsp g f hf args σ v σ' h).2 μ w cargs hR hv⟩
   ·exact absurd h (by simp)
 | succ k ih=>
  intro g args σ v σ' h
  cases g with
  | yl l=>
   simp only [gam] at h
   exact fun μ w cargs hR hv=>Zog ih (hdr k ih) h hR hv
  | fn g=>
   simp only [gam] at h
   split at h
   ·rename_i f hf
    exact fun μ w cargs hR hv=>⟨(hsp g f hf args σ v σ' h).1 _ _,(hsp g f hf args σ v σ' h).2 μ w cargs hR hv⟩
   ·split at h
    ·exact absurd h (by simp)
    ·rename_i fn hf
     cases hn:fn.name == "runtime.NumGoroutine" with
     | true=>rw [hn] at h; exact absurd h (by simp)
     | false=>
      rw [hn] at h
      simp only [cond_false] at h
      refine fun μ w cargs hR hv=>⟨Zbn hf hn ?_ _ _,Zpm ih (hdr k ih) hf h hR hv⟩
      unfold evBody at h
      cases hb:fn.body with
      | none=>rw [hb] at h; exact absurd h (by simp)
      | some c=>rfl
end
end Go.Ab

namespace Go.Ab
open Go Go.RowKit
section
variable {R:Type} {P:Program} {Γ:Gam}
theorem Zmb(σ:Store)(c:CK)(p:Ptr)(K:AV->Option R):ldK σ c p K=(ldK σ c p some).bind K:=by
 cases c <;> simp [ldK,Qb]
theorem Ztl(σ:Store)(p:Ptr)(cs:List CK):∀ {R:Type} (i:Nat) (K:List AV->Option R),ldL σ p cs i K=(ldL σ p cs i some).bind K:=by
 induction cs with
 | nil=>intro R i K; rfl
 | cons c cs ih=>
  intro R i K
  simp only [ldL]
  rw [Zmb,Zmb σ c _ (fun v=>ldL σ p cs (i+1) fun l=>some (v::l)),Qb]
  congr 1; funext v
  rw [ih,ih (i+1) (fun l=>some (v::l)),Qb]; rfl
theorem Zbo(σ:Store)(t:TypeId)(p:Ptr)(K:AV->Option R):ldT P σ t p K=(ldT P σ t p some).bind K:=by
 unfold ldT
 split
 ·rw [Qb]; congr 1; funext cs
  split
  ·rw [Ztl,Ztl σ p cs 0 (fun l=>some (AV.agg l)),Qb]; rfl
  ·rfl
 ·split
  ·exact Zmb ..
  ·rfl
theorem Zgu(c:CK)(v:AV)(K:AV->Option R):castK c v K=(castK c v some).bind K:=by
 cases c <;> simp [castK,Qb]
theorem Zmy(v:AV)(n:Nat)(cs:List CK):∀ {R:Type} (i:Nat) (K:List AV->Option R),castL v n cs i K=(castL v n cs i some).bind K:=by
 induction cs with
 | nil=>intro R i K; rfl
 | cons c cs ih=>
  intro R i K
  simp only [castL,Qb]
  congr 1; funext x
  rw [Zgu,Zgu c x (fun y=>castL v n cs (i+1) fun l=>some (y::l)),Qb]
  congr 1; funext y
  rw [ih,ih (i+1) (fun l=>some (y::l)),Qb]; rfl
theorem Zay(t:TypeId)(v:AV)(K:AV->Option R):castT P t v K=(castT P t v some).bind K:=by
 unfold castT
 split
 ·rw [Qb]; congr 1; funext cs
  split
  ·rfl
  ·rw [Zmy,Zmy v _ cs 0 (fun l=>some (AV.agg l)),Qb]; rfl
 ·split
  ·exact Zgu ..
  ·rfl
theorem Zj1(v:AV)(n:Nat)(ts:List TypeId):∀ {R:Type} (i:Nat) (K:List AV->Option R),castTs P v n ts i K=(castTs P v n ts i some).bind K:=by
 induction ts with
 | nil=>intro R i K; rfl
 | cons c cs ih=>
  intro R i K
  simp only [castTs,Qb]
  congr 1; funext x
  rw [Zay,Zay c x (fun y=>castTs P v n cs (i+1) fun l=>some (y::l)),Qb]
  congr 1; funext y
  rw [ih,ih (i+1) (fun l=>some (y::l)),Qb]; rfl
theorem Zab(t:TypeId)(v:AV)(K:AV->Option R):castR P t v K=(castR P t v some).bind K:=by
 unfold castR
 split
 ·split
  ·rfl
  ·rw [Zj1,Zj1 v _ _ 0 (fun l=>some (AV.tuple l)),Qb]; rfl
 ·exact Zay ..
theorem Zxd(op:BinOp)(k:IntKind)(x y:Int)(K:AV->Option R):intOp op k x y K=(intOp op k x y some).bind K:=by
 cases op <;> simp only [intOp] <;> first | rfl | (split <;> rfl)
theorem Zo4(d:Option TypeDesc)(op:BinOp)(x y:AV)(K:AV->Option R):binK d op x y K=(binK d op x y some).bind K:=by
 unfold binK
 split
 ·split <;> first | (split <;> first | rfl | exact Zxd ..) | rfl
 ·split <;> rfl
 ·split
  ·rw [Qb]; rfl
  ·rw [Qb]; rfl
  ·rfl
theorem Zct(m:Bool)(l:List AV):∀ (x:Int) (k:IntKind) (K:AV->Option R),maxK m x l k K=(maxK m x l k some).bind K:=by
 induction l with
 | nil=>intro x k K; rfl
 | cons v l ih=>
  intro x k K
  cases v <;> simp only [maxK] <;> first | rfl | skip
  split
  ·exact ih ..
  ·rfl
def evOpD(P:Program)(Γ:Gam)(q:Bool)(ty:TypeId)(φ:Fr)(σ:Store)(op:Op):Option (AV×Store):=evOp P Γ q ty φ σ (fun v σ'=>some (v,σ')) op
theorem Zoe(b:Builtin)(ts:List TypeId)(args:List AV)(σ:Store)(K:AV->Store->Option R):evBuiltin P b ts args σ K=(evBuiltin P b ts args σ fun v σ'=>some (v,σ')).bind fun x=>K x.1 x.2:=by
 unfold evBuiltin
 split
 ·split <;> first | rfl | (split <;> rfl)
 ·split <;> first | rfl | (split <;> rfl)
 ·split
  ·split
   ·simp [Qb]
   ·rfl
  ·rfl
 ·split
  ·split
   ·simp [Qb]
   ·rfl
  ·rfl
 ·rw [Zct,Zct _ _ _ _ (fun v=>some (v,σ)),Qb]; rfl
 ·rw [Zct,Zct _ _ _ _ (fun v=>some (v,σ)),Qb]; rfl
 ·split
  ·split
   ·split
    ·split
     ·simp [Qb]
     ·rfl
    ·rfl
   ·rfl
  ·rfl
 ·rfl
theorem Zpo(q:Bool)(ty:TypeId)(φ:Fr)(σ:Store)(K:AV->Store->Option R)(op:Op):evOp P Γ q ty φ σ K op=(evOpD P Γ q ty φ σ op).bind fun x=>K x.1 x.2:=by
 unfold evOpD
 cases op with
 | move x=>simp [evOp,Qb]
 | assign x=>simp [evOp,Qb]
 | pick c x y=>
  simp only [evOp]
  split
  ·split <;> simp [Qb]
  ·rfl
 | alloc t=>
  simp only [evOp]
  split
  ·split <;> rfl
  ·simp [Qb]
 | box t x=>
  simp only [evOp,Qb]
  congr 1; funext v; split <;> rfl
 | load t x=>
  simp only [evOp]
  split
  ·rw [Zbo,Zbo _ _ _ (fun v=>some (v,σ)),Qb]; rfl
  ·rfl
 | store t x y=>
  simp only [evOp]
  split
  ·split
   ·simp [Qb]
   ·rfl
  ·rfl
 | nilCheck x=>
  simp only [evOp]
  split
  ·simp [Qb]
  ·rfl
 | binOp op t x y t'=>
  simp only [evOp]
  split
  ·unfold aggK
   split
   ·split
    ·rfl
    ·split
     ·rw [Qb]; rfl
     ·rw [Qb]; rfl
     ·rfl
   ·rfl
  ·rw [Zo4,Zo4 _ _ _ _ (fun v=>some (v,σ)),Qb]; rfl
  ·rfl
 | unOp op t x=>simp only [evOp]; split <;> rfl
 | convert s d x=>
  simp only [evOp]
  split
  ·split
   ·split <;> rfl
   ·rfl
  ·split
   ·split
    ·split
     ·simp only [Qb]; rfl
     ·rfl
    ·rfl
   ·split
    ·split
     ·split
      ·split <;> rfl
      ·rfl
     ·rfl
    ·rfl
  ·split
   ·split
    ·split <;> rfl
    ·rfl
   ·rfl
  ·rfl
 | fieldAddr s x f=>
  simp only [evOp]
  split
  ·split
   ·split
    ·rw [Qb]; rfl
    ·rfl
   ·rfl
  ·rfl
 | field s x f=>
  simp only [evOp]
  split
  ·split
   ·split
    ·rfl
    ·split <;> simp [Qb]
   ·rfl
  ·rfl
 | indexAddr t x i=>
  simp only [evOp]
  split
  ·split
   ·rw [Qb]; congr 1; funext es; split <;> rfl
   ·rw [Qb]; congr 1; funext es; split
    ·rw [Qb]; rfl
    ·rfl
   ·rfl
  ·rfl
 | index t x i=>
  simp only [evOp]
  split
  ·split
   ·split
    ·rw [Qb]; rfl
    ·rfl
   ·rfl
  ·rfl
 | extract x i=>
  simp only [evOp]
  split
  ·simp [Qb]
  ·rfl
 | makeSlice t l c=>
  simp only [evOp]
  split
  ·split
   ·split
    ·split <;> rfl
    ·rfl
   ·rfl
  ·rfl
 | slice t x lo hi mx=>
  simp only [evOp]
  split
  ·simp only [Qb]
   congr 1; funext es; congr 1; funext l; congr 1; funext u; congr 1; funext m; congr 1; funext h'
   split <;> rfl
  ·split
   ·simp [Qb]
   ·rfl
  ·rfl
 | buildSlice t len ps=>
  simp only [evOp]
  split
  ·split
   ·split
    ·simp [Qb]
    ·rfl
   ·rfl
  ·rfl
 | build t ps=>
  simp only [evOp]
  split
  ·split
   ·simp [Qb]
   ·rfl
  ·rfl
 | makeFunc fn a b=>
  simp only [evOp]
  split
  ·simp [Qb]
  ·rfl
 | makeInterface t x=>
  simp only [evOp]
  split
  ·rfl
  ·rfl
  ·rw [Qb]; rfl
 | typeAssert x t u ok=>
  simp only [evOp]
  split
  ·rfl
  ·split
   ·split
    ·rw [Zay,Zay _ _ (fun v=>some (if ok=true then AV.tuple [v,AV.bool true] else v,σ)),Qb]; rfl
    ·rfl
   ·rfl
  ·rfl
 | makeMap t x=>
  simp only [evOp]
  split
  ·rfl
  ·split <;> rfl
 | lookup t x i ok=>
  simp only [evOp]
  split
  ·split
   ·simp only [Qb]
    congr 1; funext z; congr 1; funext o
    split
    ·rw [Zay,Zay _ _ (fun v=>some (if ok=true then AV.tuple [v,AV.bool true] else v,σ)),Qb]; rfl
    ·rfl
   ·rfl
  ·rfl
 | mapUpdate t m k x=>
  simp only [evOp]
  split
  ·split
   ·simp [Qb]
   ·rfl
  ·rfl
 | call c=>
  simp only [evOp]
  split
  ·rw [Qb]; congr 1; funext args; exact Zoe ..
  ·split
   ·simp only [Qb]
    congr 1; funext args; congr 1; funext r
    rw [Zab,Zab _ _ (fun v=>some (v,r.2)),Qb]; rfl
   ·simp only [Qb]
    congr 1; funext args; congr 1; funext r
    rw [Zab,Zab _ _ (fun v=>some (v,r.2)),Qb]; rfl
   ·rfl
  ·split
   ·split
    ·rfl
    ·split
     ·simp only [Qb]
      congr 1; funext args; congr 1; funext r
      rw [Zab,Zab _ _ (fun v=>some (v,r.2)),Qb]; rfl
     ·split
      ·rw [Zbo,Zbo _ _ _ (fun u=>Qab _ _),Qb]
       congr 1; funext u
       simp only [Qb]
       congr 1; funext args; congr 1; funext r
       rw [Zab,Zab _ _ (fun v=>some (v,r.2)),Qb]; rfl
      ·rfl
   ·rfl
 | _=>simp [evOp]
end
end Go.Ab

namespace Go.Ab
open Go Go.RowKit
def pureOp:Op->Bool
 | .move _ | .assign _ | .pick _ _ _ | .nilCheck _ | .binOp _ _ _ _ _ | .unOp _ _ _ | .fieldAddr _ _ _ | .field _ _ _ | .indexAddr _ _ _ | .index _ _ _ | .extract _ _ | .makeFunc _ _ _ | .build _ _ | .makeInterface _ _ | .typeAssert _ _ _ _=>true
 | .convert s d _=>!Qi d strT&&!Qi s strT&&!Qi s d
 | .call c=>match c.callee with
  | .builtin .len | .builtin .max | .builtin .min=>true
  | _=>false
 | _=>false
def isLoad:Op->Bool
 | .load _ _=>true
 | .slice _ _ _ _ _=>true
 | .convert s d _=>Qi d strT || Qi s d
 | _=>false
def isA:Op->Bool
 | .alloc _=>true
 | .box _ _=>true
 | .makeSlice _ _ _=>true
 | .buildSlice _ _ _=>true
 | .convert s d _=>!Qi d strT&&Qi s strT
 | _=>false
def isCallV:Op->Bool
 | .call c=>match c.callee with
  | .value _=>true
  | .invoke _ _=>true
  | _=>false
 | _=>false
def isE(op:Op):Bool:=!pureOp op&&!isLoad op
def edgeMask(acc:List Nat)(es:List Edge):Nat:=es.foldl (fun m e=>bif Region.binds .any e then m ||| (1 <<< e.on) ||| acc.getD e.on 0 else m) 0
def befs:List Oper->List Nat->List Nat
 | [],acc=>acc
 | o::r,acc=>befs r (acc++[edgeMask acc o.after.toList])
def tmpOf:Operand->Option Nat
 | .tmp t=>some t
 | _=>none
def readsL(ops:Array Oper)(o:Oper):List Nat:=o.op.operands.toList.filterMap tmpOf++(match o.guard with | some (j,_)=>(guardOf ops j).toList | none=>[])
def quietMask(L:List Oper)(B:List Nat):List Oper->Nat->Nat
 | [],_=>0
 | o::r,i=>(bif isCallV o.op&&(QR L.length).any fun j=>match L[j]? with
   | some p=>isLoad p.op&&!bitOn (B.getD j 0) i&&!bitOn (B.getD i 0) j
   | none=>false then 1 <<< i else 0) ||| quietMask L B r (i+1)
def freshSt(ops:Array Oper)(i j:Nat)(o:Oper):Bool:=match o.op with
 | .store _ (.tmp t) _=>(QR i).any fun m=>QG j m&&match ops[m]? with
  | some a=>isA a.op&&(a.dst == some t)
  | none=>false
 | _=>false
def pairSt(o p:Oper):Option (Nat×Nat):=match o.op,p.op with
 | .store _ (.tmp s) _,.load _ (.tmp t)=>some (s,t)
 | _,_=>none
def apSt(ops:Array Oper)(ap:List (Nat×Nat))(o p:Oper):Bool:=match pairSt o p with
 | some x=>(ap.any fun y=>Qi y.1 x.1&&Qi y.2 x.2)&&ops.toList.all fun z=>(z.dst != some x.1)&&(z.dst != some x.2)
 | none=>false
def isSl:Op->Bool
 | .slice _ _ lo hi mx=>lo.isSome || hi.isSome || mx.isSome
 | _=>false
def isApp:Op->Bool
 | .call c=>match c.callee with
  | .builtin .append=>true
  | _=>false
 | _=>false
def slR(i j:Nat)(o p:Oper):Bool:=isApp o.op&&isSl p.op&&QG i j
def okLoad(ops:Array Oper)(B:List Nat)(qs i j:Nat)(o p:Oper):Bool:=!isE o.op || !isLoad p.op || bitOn (B.getD j 0) i || bitOn (B.getD i 0) j || (isCallV o.op&&bitOn qs i) || isA o.op || freshSt ops i j o || slR i j o p
def apOf(ops:Array Oper)(L:List Oper)(B:List Nat)(qs:Nat):List (Nat×Nat):=
 (QR L.length).foldl (fun acc i=>match L[i]? with
  | some o=>bif isE o.op then (QR L.length).foldl (fun acc j=>match L[j]? with
   | some p=>bif okLoad ops B qs i j o p then acc else match pairSt o p with
    | some x=>bif acc.any (fun y=>Qi y.1 x.1&&Qi y.2 x.2) then acc else x::acc
    | none=>acc
   | none=>acc) acc else acc
  | none=>acc) []
def okPair(ops:Array Oper)(B:List Nat)(qs:Nat)(ap:List (Nat×Nat))(i j:Nat)(o p:Oper):Bool:=
 (match o.dst with
  | none=>true
  | some t=>(p.dst != some t)&&(!(readsL ops p).contains t || (QG i j&&bitOn (B.getD j 0) i) || (QG j i&&bitOn (B.getD i 0) j))) &&
 (!isE o.op || !isE p.op || QG j i || bitOn (B.getD j 0) i || (isA o.op&&isA p.op)) &&
 (okLoad ops B qs i j o p || apSt ops ap o p)
def drawn(ops:Array Oper):Option (Nat×List (Nat×Nat)):=
 let L:=ops.toList
 let B:=befs L []
 let qs:=quietMask L B L 0
 let ap:=apOf ops L B qs
 if ((QR L.length).all fun i=>match L[i]? with
   | none=>true
   | some o=>(o.after.toList.all fun e=>!Region.binds .any e || QG e.on i) &&
    (QR L.length).all fun j=>match L[j]? with
     | none=>true
     | some p=>Qi i j || okPair ops B qs ap i j o p)=true
 then some (qs,ap) else none
theorem Zci{α β:Type}{f g:α->Option β}{l:List α}(h:∀ x∈l,f x=g x):Fr.mapO f l=Fr.mapO g l:=by
 induction l with
 | nil=>rfl
 | cons a l ih=>simp only [Fr.mapO,h a (by simp),ih (fun x hx=>h x (by simp [hx]))]
section
variable {R:Type} {P:Program} {Γ:Gam}
theorem Zux(q:Bool)(ty:TypeId){φ φ':Fr}(σ:Store)(K:AV->Store->Option R)(op:Op)(h:∀ x∈op.operands.toList,φ.ev x=φ'.ev x):evOp P Γ q ty φ σ K op=evOp P Γ q ty φ' σ K op:=by
 cases op with
 | slice t x lo hi mx=>
  have hx:φ.ev x=φ'.ev x:=h x (by simp [Op.operands])
  have ho:∀ (y:Option Operand),(∀ z,y=some z->φ.ev z=φ'.ev z)->optInt φ y=optInt φ' y:=by
   intro y hy
   cases y with
   | none=>rfl
   | some z=>simp only [optInt,hy z rfl]
  have h1:optInt φ lo=optInt φ' lo:=ho lo fun z hz=>h z (by subst hz; simp [Op.operands])
  have h2:optInt φ hi=optInt φ' hi:=ho hi fun z hz=>h z (by subst hz; simp [Op.operands])
  have h3:optInt φ mx=optInt φ' mx:=ho mx fun z hz=>h z (by subst hz; simp [Op.operands])
  simp only [evOp,hx,h1,h2,h3]
 | buildSlice t len ps=>
  have:evParts φ ps.toList=evParts φ' ps.toList:=Zci fun x hx=>by rw [h x.2 (by simp [Op.operands]; exact⟨x.1,by simpa using hx⟩)]
  simp only [evOp,this]
 | build t ps=>
  have:evParts φ ps.toList=evParts φ' ps.toList:=Zci fun x hx=>by rw [h x.2 (by simp [Op.operands]; exact⟨x.1,by simpa using hx⟩)]
  simp only [evOp,this]
 | makeFunc fn a b=>
  have h1:φ.evs a.toList=φ'.evs a.toList:=Zci fun x hx=>h x (by simp [Op.operands] at hx ⊢; exact .inl hx)
  have h2:φ.evs b.toList=φ'.evs b.toList:=Zci fun x hx=>h x (by simp [Op.operands] at hx ⊢; exact .inr hx)
  simp only [evOp,h1,h2]
 | call c=>
  have h1:φ.evs c.args.toList=φ'.evs c.args.toList:=Zci fun x hx=>h x (by simp [Op.operands,Call.operands] at hx ⊢; exact .inr hx)
  simp only [evOp,h1]
  split
  ·rfl
  ·rename_i f hf
   rw [h f (by simp [Op.operands,Call.operands,hf])]
  ·rename_i f nm hf
   rw [h f (by simp [Op.operands,Call.operands,hf])]
 | makeInterface t x=>simp only [evOp,h x (by simp [Op.operands])]
 | typeAssert x t u ok=>simp only [evOp,h x (by simp [Op.operands])]
 | makeMap t x=>
  cases x with
  | none=>rfl
  | some y=>simp only [evOp,h y (by simp [Op.operands])]
 | lookup t x i ok=>simp only [evOp,h x (by simp [Op.operands]),h i (by simp [Op.operands])]
 | mapUpdate t m k x=>simp only [evOp,h m (by simp [Op.operands]),h k (by simp [Op.operands]),h x (by simp [Op.operands])]
 | move x=>simp only [evOp,h x (by simp [Op.operands])]
 | assign x=>simp only [evOp,h x (by simp [Op.operands])]
 | pick c x y=>simp only [evOp,h c (by simp [Op.operands]),h x (by simp [Op.operands]),h y (by simp [Op.operands])]
 | box t x=>simp only [evOp,h x (by simp [Op.operands])]
 | load t x=>simp only [evOp,h x (by simp [Op.operands])]
 | store t x y=>simp only [evOp,h x (by simp [Op.operands]),h y (by simp [Op.operands])]
 | nilCheck x=>simp only [evOp,h x (by simp [Op.operands])]
 | binOp op t x y t'=>simp only [evOp,h x (by simp [Op.operands]),h y (by simp [Op.operands])]
 | unOp op t x=>simp only [evOp,h x (by simp [Op.operands])]
 | convert s d x=>simp only [evOp,h x (by simp [Op.operands])]
 | fieldAddr s x f=>simp only [evOp,h x (by simp [Op.operands])]
 | field s x f=>simp only [evOp,h x (by simp [Op.operands])]
 | indexAddr t x i=>simp only [evOp,h x (by simp [Op.operands]),h i (by simp [Op.operands])]
 | index t x i=>simp only [evOp,h x (by simp [Op.operands]),h i (by simp [Op.operands])]
 | extract x i=>simp only [evOp,h x (by simp [Op.operands])]
 | makeSlice t l c=>simp only [evOp,h l (by simp [Op.operands]),h c (by simp [Op.operands])]
 | _=>rfl
theorem Z3p{q:Bool}{ty:TypeId}{φ:Fr}{op:Op}(h:pureOp op=true)(σ σ2:Store)(K:AV->Store->Option R):evOp P Γ q ty φ σ K op=evOp P Γ q ty φ σ2 (fun v _=>K v σ) op:=by
 cases op with
 | call c=>
  simp only [pureOp] at h
  simp only [evOp]
  cases hc:c.callee with
  | builtin b=>
   rw [hc] at h
   simp only
   congr 1; funext args
   rcases args with _ | ⟨x,l⟩
   ·cases b <;> simp at h <;> rfl
   ·cases b <;> simp at h <;> cases x <;> first | rfl | (cases l <;> rfl)
  | value f=>rw [hc] at h; simp at h
  | invoke x m=>rw [hc] at h; simp at h
 | convert s d x=>
  simp only [pureOp,Q6,Qal] at h
  simp only [evOp,h.1.1,h.1.2,h.2]
  split
  ·rfl
  ·simp
  ·simp
  ·rfl
 | _=>first | rfl | (simp [pureOp] at h)
theorem Zo1{q:Bool}{ty:TypeId}{φ:Fr}{op:Op}(h:pureOp op=true){σ σ1:Store}{v:AV}(he:evOpD P Γ q ty φ σ op=some (v,σ1)):σ1=σ/\∀ σ2,evOpD P Γ q ty φ σ2 op=some (v,σ2):=by
 have key:∀ σ2,evOpD P Γ q ty φ σ2 op=some (v,σ2):=by
  intro σ2
  have h1:evOpD P Γ q ty φ σ2 op=evOp P Γ q ty φ σ (fun v _=>some (v,σ2)) op:=Z3p h σ2 σ _
  rw [h1,Zpo,he]; rfl
 have:=key σ
 rw [he] at this
 injection this with this; injection this with _ this
 exact⟨this,key⟩
theorem Znh{σ σ':Store}{b:Nat}(h:σ.objs[b]?=σ'.objs[b]?)(c:CK)(o:Nat)(K:AV->Option R):ldK σ c (some (b,o)) K=ldK σ' c (some (b,o)) K:=by
 have hc:σ.cell (some (b,o))=σ'.cell (some (b,o)):=by simp only [Store.cell,h]
 cases c <;> simp only [ldK,Store.ldInt,Store.ldBool,Store.ldStr,Store.ldPtr,Store.ldSl,Store.ldMap,Store.ldFn,Store.ldIfc,hc]
theorem Zxj{σ σ':Store}{b:Nat}(h:σ.objs[b]?=σ'.objs[b]?)(o:Nat)(cs:List CK):∀ (i:Nat) (K:List AV->Option R),ldL σ (some (b,o)) cs i K=ldL σ' (some (b,o)) cs i K:=by
 induction cs with
 | nil=>intro i K; rfl
 | cons c cs ih=>
  intro i K
  simp only [ldL,Ptr.add,Qn]
  rw [Znh h]
  congr 1; funext v; exact ih ..
theorem Zxl{σ σ':Store}{b:Nat}(h:σ.objs[b]?=σ'.objs[b]?)(t:TypeId)(o:Nat)(K:AV->Option R):ldT P σ t (some (b,o)) K=ldT P σ' t (some (b,o)) K:=by
 unfold ldT
 split
 ·congr 1; funext cs
  split
  ·exact Zxj h ..
  ·rfl
 ·split
  ·exact Znh h ..
  ·rfl
end
theorem Zdx{P:Program}{Γ:Gam}{q:Bool}{ty:TypeId}{φ:Fr}{op:Op}(h:isA op=true){σ σ':Store}{v:AV}(he:evOpD P Γ q ty φ σ op=some (v,σ')) :
  ∃ (l:List AV) (es:Nat) (mk:Nat->AV),v=mk σ.objs.length/\σ'=σ.push l es/\(∀ σ2,evOpD P Γ q ty φ σ2 op=some (mk σ2.objs.length,σ2.push l es)) /\
   (mk=(fun n=>.ptr (some (n,0)))\/∃ len cap,mk=fun n=>.slice ⟨some (n,0),len,cap⟩):=by
 cases op with
 | alloc t=>
  simp only [evOpD,evOp] at he ⊢
  split at he
  ·rename_i hz
   split at he
   ·rename_i hc
    injection he with he; simp only [Prod.mk.injEq] at he
    exact⟨_,_,fun n=>.ptr (some (n,0)),he.1.symm,he.2.symm,fun σ2=>by rw [if_pos hc],.inl rfl⟩
   ·exact absurd he (by simp)
  ·obtain⟨l,hl,he⟩:=Qa.1 he
   injection he with he; simp only [Prod.mk.injEq] at he
   exact⟨l,_,fun n=>.ptr (some (n,0)),he.1.symm,he.2.symm,fun σ2=>by rw [hl]; rfl,.inl rfl⟩
 | box t x=>
  simp only [evOpD,evOp] at he ⊢
  obtain⟨u,hu,he⟩:=Qa.1 he
  split at he
  ·exact absurd he (by simp)
  ·rename_i hn
   injection he with he; simp only [Prod.mk.injEq] at he
   exact⟨u.cells,_,fun n=>.ptr (some (n,0)),he.1.symm,he.2.symm,fun σ2=>by rw [hu,QL,if_neg hn],.inl rfl⟩
 | makeSlice t l c=>
  simp only [evOpD,evOp] at he ⊢
  split at he
  ·split at he
   ·split at he
    ·rename_i k' m h1 h2 h3 _ _ by_ zs h4 h5 hc
     split at he
     ·rename_i hc2
      injection he with he; simp only [Prod.mk.injEq] at he
      refine⟨_,_,fun i=>.slice ⟨some (i,0),_,_⟩,he.1.symm,he.2.symm,fun σ2=>?_,.inr ⟨_,_,rfl⟩⟩
      simp only [h1,h2,h3,h4,h5]
      rw [if_pos hc,if_pos hc2]
     ·exact absurd he (by simp)
    ·exact absurd he (by simp)
   ·exact absurd he (by simp)
  ·exact absurd he (by simp)
 | buildSlice t len ps=>
  simp only [evOpD,evOp] at he ⊢
  split at he
  ·split at he
   ·split at he
    ·rename_i h1 _ zs h2 hc
     obtain⟨l,hl,he⟩:=Qa.1 he
     obtain⟨cs,hcs,he⟩:=Qa.1 he
     injection he with he; simp only [Prod.mk.injEq] at he
     refine⟨_,_,fun i=>.slice ⟨some (i,0),len,some len⟩,he.1.symm,he.2.symm,fun σ2=>?_,.inr ⟨_,_,rfl⟩⟩
     simp only [h1,h2]
     rw [if_pos hc,hl]
     simp only [QL]
     rw [hcs]
     rfl
    ·exact absurd he (by simp)
   ·exact absurd he (by simp)
  ·exact absurd he (by simp)
 | convert s d x=>
  simp only [isA,Q6,Qal] at h
  have hsd:Qi s d=false:=by
   cases e:Qi s d with
   | false=>rfl
   | true=>
    have:=Qp e
    subst this
    rw [h.1] at h; exact absurd h.2 (by simp)
  simp only [evOpD,evOp,h.1,h.2,hsd] at he ⊢
  split at he
  ·exact absurd he (by simp)
  ·exact absurd he (by simp)
  ·rename_i b hb
   simp only [and_self,if_true] at he ⊢
   split at he
   ·split at he
    ·rename_i e h1 h2 _ h3
     injection he with he; simp only [Prod.mk.injEq] at he
     refine⟨_,_,fun i=>.slice ⟨some (i,0),b.data.toList.length,none⟩,he.1.symm,he.2.symm,fun σ2=>?_,.inr ⟨_,_,rfl⟩⟩
     simp only [h1,h2,h3,hb]
    ·exact absurd he (by simp)
   ·exact absurd he (by simp)
  ·exact absurd he (by simp)
 | _=>simp [isA] at h
section
variable {P:Program} {Γ:Gam} {nt qs:Nat} {ops:Array Oper}
def Wants(ops:Array Oper)(φ:Fr)(o:Oper)(b:Bool):Prop:=
 match o.guard with
 | none=>b=true
 | some (j,want)=>∃ d,guardOf ops j=some d/\((∃ x,φ.get d=some (.bool x)/\b=(x == want))\/∃ l,φ.get d=some (.tuple l)/\b=false)
structure Step (P:Program) (Γ:Gam) (nt:Nat) (ops:Array Oper) (q:Bool) (o:Oper) (φ:Fr) (σ:Store) (x:Bool) (v:AV) (φ':Fr) (σ':Store):Prop where
 wants:Wants ops φ o x
 nt:∀ t,o.dst=some t->t<nt
 get:∀ t,φ'.get t=if o.dst=some t then some v else φ.get t
 exec:x=true->evOpD P Γ q o.type φ σ o.op=some (v,σ')
 skip:x=false->v=AV.skipped/\σ'=σ
theorem Zif{φ:Fr}{d:Option Tmp}{v:AV}{R:Type}{K:Fr->Option R}{r:R}(h:Fr.put nt φ d v R K=some r):∃ φ',K φ'=some r/\(∀ t,d=some t->t<nt)/\∀ t,φ'.get t=if d=some t then some v else φ.get t:=by
 cases d with
 | none=>exact⟨φ,h,by simp,by simp⟩
 | some t=>
  simp only [Fr.put] at h
  by_cases e:QG t nt=true
  ·rw [e] at h
   rw [Qaw] at e
   refine⟨_,h,fun u hu=>by injection hu with hu; subst hu; exact e,fun u=>?_⟩
   rw [Fr.get_cons]
   by_cases c:t=u
   ·rw [if_pos c,if_pos (by rw [c])]
   ·rw [if_neg c,if_neg (by intro e; injection e with e; exact c e)]
  ·rw [QX] at e
   rw [e] at h; exact absurd h (by simp)
def Trace(P:Program)(Γ:Gam)(nt qs:Nat)(ops:Array Oper)(l:List Oper)(i:Nat){R:Type}(φ:Fr)(σ:Store)(K:Fr->Store->Option R)(r:R):Prop:=
 ∃ (X:Nat->Bool) (V:Nat->AV) (S:Nat->Store) (Φ:Nat->Fr),(∀ t,(Φ 0).get t=φ.get t)/\S 0=σ/\K (Φ l.length) (S l.length)=some r /\
   ∀ (k:Nat) (o:Oper),l[k]?=some o->Step P Γ nt ops (bitOn qs (i+k)) o (Φ k) (S k) (X k) (V k) (Φ (k+1)) (S (k+1))
theorem Zpp(l:List Oper):∀ (i:Nat) {R:Type} {φ:Fr} {σ:Store} {K:Fr->Store->Option R} {r:R} (_:evOps P Γ nt qs ops l i φ σ K=some r),
  Trace P Γ nt qs ops l i φ σ K r:=by
 induction l with
 | nil=>intro i R φ σ K r h; exact⟨fun _=>true,fun _=>.undef,fun _=>σ,fun _=>φ,fun _=>rfl,rfl,h,fun k o hk=>by simp at hk⟩
 | cons o l ih=>
  intro i R φ σ K r h
  have more:∀ (φ1:Fr) (x:Bool) (v:AV) (σ':Store) (φ':Fr),(∀ t,φ1.get t=φ.get t)->Wants ops φ1 o x->(∀ t,o.dst=some t->t<nt)->(∀ t,φ'.get t=if o.dst=some t then some v else φ1.get t) ->
    (x=true->evOpD P Γ (bitOn qs i) o.type φ1 σ o.op=some (v,σ'))->(x=false->v=AV.skipped/\σ'=σ)->evOps P Γ nt qs ops l (i+1) φ' σ' K=some r ->
    Trace P Γ nt qs ops (o::l) i φ σ K r:=by
   intro φ1 x v σ' φ' h1 h2 h3 h4 h5 h6 h7
   obtain⟨X,V,S,Φ,g1,g2,g3,g4⟩:=ih (i+1) h7
   refine⟨fun k=>Qad k x X,fun k=>Qad k v V,fun k=>Qad k σ S,fun k=>Qad k φ1 Φ,h1,rfl,g3,?_⟩
   intro k p hk
   cases k with
   | zero=>
    simp at hk; subst hk
    exact⟨h2,h3,fun t=>(g1 t).trans (h4 t),fun e=>by have:=h5 e; show evOpD _ _ _ _ _ _ _=some (v,S 0); rw [g2]; exact this,fun e=>⟨(h6 e).1,g2.trans (h6 e).2⟩⟩
   | succ k=>
    have:=g4 k p (by simpa using hk)
    rw [show i+(k+1)=i+1+k by omega]
    exact this
  simp only [evOps] at h
  have exec:∀ (φ1:Fr),(∀ t,φ1.get t=φ.get t)->Wants ops φ1 o true->evOp P Γ (bitOn qs i) o.type φ1 σ (fun v σ'=>Fr.put nt φ1 o.dst v R fun φ'=>evOps P Γ nt qs ops l (i+1) φ' σ' K) o.op=some r->Trace P Γ nt qs ops (o::l) i φ σ K r:=by
   intro φ1 e1 e2 e3
   rw [Zpo] at e3
   obtain⟨⟨v,σ'⟩,e4,e5⟩:=Qa.1 e3
   obtain⟨φ',e6,e7,e8⟩:=Zif e5
   exact more φ1 true v σ' φ' e1 e2 e7 e8 (fun _=>e4) (fun e=>by cases e) e6
  have skip:∀ (φ1:Fr),(∀ t,φ1.get t=φ.get t)->Wants ops φ1 o false->Fr.put nt φ1 o.dst AV.skipped R (fun φ'=>evOps P Γ nt qs ops l (i+1) φ' σ K)=some r->Trace P Γ nt qs ops (o::l) i φ σ K r:=by
   intro φ1 e1 e2 e3
   obtain⟨φ',e6,e7,e8⟩:=Zif e3
   exact more φ1 false AV.skipped σ φ' e1 e2 e7 e8 (fun e=>by cases e) (fun _=>⟨rfl,rfl⟩) e6
  cases hg:o.guard with
  | none=>
   simp only [hg] at h
   exact exec φ (fun _=>rfl) (by simp [Wants,hg]) h
  | some jw=>
   obtain⟨j,want⟩:=jw
   simp only [hg] at h
   cases hd:guardOf ops j with
   | none=>simp [hd] at h
   | some d=>
    simp only [hd] at h
    split at h
    ·rename_i b hb
     have same:∀ (φ1:Fr),(∀ t,φ1.get t=if (some d:Option Nat)=some t then some (.bool b) else φ.get t)->∀ t,φ1.get t=φ.get t:=by
      intro φ1 h1 t
      rw [h1 t]
      by_cases e:d=t
      ·subst e; rw [if_pos rfl]; exact hb.symm
      ·rw [if_neg (by intro x; injection x with x; exact e x)]
     split at h
     ·rename_i hbt
      obtain⟨φ1,k1,k2,k3⟩:=Zif h
      have k4:=same φ1 (by rw [hbt]; exact k3)
      cases want with
      | true=>exact exec φ1 k4 (by simp only [Wants,hg]; exact⟨d,hd,.inl ⟨b,(k4 d).trans hb,by rw [hbt]; rfl⟩⟩) k1
      | false=>exact skip φ1 k4 (by simp only [Wants,hg]; exact⟨d,hd,.inl ⟨b,(k4 d).trans hb,by rw [hbt]; rfl⟩⟩) k1
     ·rename_i hbt
      have hbf:b=false:=by simpa using hbt
      obtain⟨φ1,k1,k2,k3⟩:=Zif h
      have k4:=same φ1 (by rw [hbf]; exact k3)
      cases want with
      | true=>exact skip φ1 k4 (by simp only [Wants,hg]; exact⟨d,hd,.inl ⟨b,(k4 d).trans hb,by rw [hbf]; rfl⟩⟩) k1
      | false=>exact exec φ1 k4 (by simp only [Wants,hg]; exact⟨d,hd,.inl ⟨b,(k4 d).trans hb,by rw [hbf]; rfl⟩⟩) k1
    ·rename_i l hb
     exact skip φ (fun _=>rfl) (by simp only [Wants,hg]; exact⟨d,hd,.inr ⟨l,hb,trivial⟩⟩) h
    ·exact absurd h (by simp)
end
end Go.Ab
