/- A part of the proof of the law BestMoves: lemmas alone; what each says stands at it. No conditions. -/
import Derived.Test.YtpjhddieijfkaaaAbBestMoves0
import Derived.OrdersIn
import Derived.SizedLaws
import Derived.ChangeSlices
import Derived.OpenShut
/- Regions that leave their order open: the check. -/
namespace Go.Ab
open Go Go.RowKit
set_option linter.unusedVariables false
set_option linter.unusedSimpArgs false
/-- Operations that neither read nor write memory. -/
def pureOp : Op → Bool
  | .move _ | .assign _ | .pick _ _ _ | .nilCheck _ | .binOp _ _ _ _ _ | .unOp _ _ _ | .convert _ _ _ | .fieldAddr _ _ _ | .field _ _ _ | .indexAddr _ _ _ | .index _ _ _ | .extract _ _ | .makeFunc _ _ _ | .build _ _ | .makeInterface _ _ | .typeAssert _ _ _ _ => true
  | .call c => match c.callee with
    | .builtin .len | .builtin .max | .builtin .min => true
    | _ => false
  | _ => false
def isLoad : Op → Bool
  | .load _ _ => true
  | .slice _ _ _ _ _ => true
  | _ => false
/-- Operations that lay a new row and do nothing else. -/
def isA : Op → Bool
  | .alloc _ => true
  | .box _ _ => true
  | .makeSlice _ _ _ => true
  | .buildSlice _ _ _ => true
  | _ => false
def isCallV : Op → Bool
  | .call c => match c.callee with
    | .value _ => true
    | .invoke _ _ => true
    | _ => false
  | _ => false
def isE (op : Op) : Bool := !pureOp op && !isLoad op
def edgeMask (acc : List Nat) (es : List Edge) : Nat := es.foldl (fun m e => bif Region.binds .any e then m ||| (1 <<< e.on) ||| acc.getD e.on 0 else m) 0
def befs : List Oper → List Nat → List Nat
  | [], acc => acc
  | o :: r, acc => befs r (acc ++ [edgeMask acc o.after.toList])
def tmpOf : Operand → Option Nat
  | .tmp t => some t
  | _ => none
def readsL (ops : Array Oper) (o : Oper) : List Nat := o.op.operands.toList.filterMap tmpOf ++ (match o.guard with | some (j, _) => (guardOf ops j).toList | none => [])
def quietMask (L : List Oper) (B : List Nat) : List Oper → Nat → Nat
  | [], _ => 0
  | o :: r, i => (bif isCallV o.op && (List.range L.length).any fun j => match L[j]? with
      | some p => isLoad p.op && !bitOn (B.getD j 0) i && !bitOn (B.getD i 0) j
      | none => false then 1 <<< i else 0) ||| quietMask L B r (i + 1)
/-- A store into a row that the region lays itself, behind a load (at j) in the text. -/
def freshSt (ops : Array Oper) (i j : Nat) (o : Oper) : Bool := match o.op with
  | .store _ (.tmp t) _ => (List.range i).any fun m => Nat.blt j m && match ops[m]? with
    | some a => isA a.op && (a.dst == some t)
    | none => false
  | _ => false
def pairSt (o p : Oper) : Option (Nat × Nat) := match o.op, p.op with
  | .store _ (.tmp s) _, .load _ (.tmp t) => some (s, t)
  | _, _ => none
/-- A store and a load, at places that are there beforehand. -/
def apSt (ops : Array Oper) (ap : List (Nat × Nat)) (o p : Oper) : Bool := match pairSt o p with
  | some x => (ap.any fun y => Nat.beq y.1 x.1 && Nat.beq y.2 x.2) && ops.toList.all fun z => (z.dst != some x.1) && (z.dst != some x.2)
  | none => false
def isSl : Op → Bool
  | .slice _ _ _ _ _ => true
  | _ => false
def isApp : Op → Bool
  | .call c => match c.callee with
    | .builtin .append => true
    | _ => false
  | _ => false
/-- A slice op behind an append in the text: it reads the size of its row's elements alone. -/
def slR (i j : Nat) (o p : Oper) : Bool := isApp o.op && isSl p.op && Nat.blt i j
def okLoad (ops : Array Oper) (B : List Nat) (qs i j : Nat) (o p : Oper) : Bool := !isE o.op || !isLoad p.op || bitOn (B.getD j 0) i || bitOn (B.getD i 0) j || (isCallV o.op && bitOn qs i) || isA o.op || freshSt ops i j o || slR i j o p
def apOf (ops : Array Oper) (L : List Oper) (B : List Nat) (qs : Nat) : List (Nat × Nat) :=
  (List.range L.length).foldl (fun acc i => match L[i]? with
    | some o => bif isE o.op then (List.range L.length).foldl (fun acc j => match L[j]? with
      | some p => bif okLoad ops B qs i j o p then acc else match pairSt o p with
        | some x => bif acc.any (fun y => Nat.beq y.1 x.1 && Nat.beq y.2 x.2) then acc else x :: acc
        | none => acc
      | none => acc) acc else acc
    | none => acc) []
def okPair (ops : Array Oper) (B : List Nat) (qs : Nat) (ap : List (Nat × Nat)) (i j : Nat) (o p : Oper) : Bool :=
  -- o = ops[i], p = ops[j], i ≠ j
  (match o.dst with
    | none => true
    | some t => (p.dst != some t) && (!(readsL ops p).contains t || (Nat.blt i j && bitOn (B.getD j 0) i) || (Nat.blt j i && bitOn (B.getD i 0) j))) &&
  (!isE o.op || !isE p.op || Nat.blt j i || bitOn (B.getD j 0) i || (isA o.op && isA p.op)) &&
  (okLoad ops B qs i j o p || apSt ops ap o p)
def drawn (ops : Array Oper) : Option (Nat × List (Nat × Nat)) :=
  let L := ops.toList
  let B := befs L []
  let qs := quietMask L B L 0
  let ap := apOf ops L B qs
  if ((List.range L.length).all fun i => match L[i]? with
      | none => true
      | some o => (o.after.toList.all fun e => !Region.binds .any e || Nat.blt e.on i) &&
        (List.range L.length).all fun j => match L[j]? with
          | none => true
          | some p => Nat.beq i j || okPair ops B qs ap i j o p) = true
  then some (qs, ap) else none
theorem mapO_congr {α β : Type} {f g : α → Option β} {l : List α} (h : ∀ x ∈ l, f x = g x) : Fr.mapO f l = Fr.mapO g l := by
  induction l with
  | nil => rfl
  | cons a l ih => simp only [Fr.mapO, h a (by simp), ih (fun x hx => h x (by simp [hx]))]
section
variable {R : Type} {P : Program} {Γ : Gam}
theorem evOp_congr (q : Bool) (ty : TypeId) {φ φ' : Fr} (σ : Store) (K : AV → Store → Option R) (op : Op) (h : ∀ x ∈ op.operands.toList, φ.ev x = φ'.ev x) : evOp P Γ q ty φ σ K op = evOp P Γ q ty φ' σ K op := by
  cases op with
  | slice t x lo hi mx =>
    have hx : φ.ev x = φ'.ev x := h x (by simp [Op.operands])
    have ho : ∀ (y : Option Operand), (∀ z, y = some z → φ.ev z = φ'.ev z) → optInt φ y = optInt φ' y := by
      intro y hy
      cases y with
      | none => rfl
      | some z => simp only [optInt, hy z rfl]
    have h1 : optInt φ lo = optInt φ' lo := ho lo fun z hz => h z (by subst hz; simp [Op.operands])
    have h2 : optInt φ hi = optInt φ' hi := ho hi fun z hz => h z (by subst hz; simp [Op.operands])
    have h3 : optInt φ mx = optInt φ' mx := ho mx fun z hz => h z (by subst hz; simp [Op.operands])
    simp only [evOp, hx, h1, h2, h3]
  | buildSlice t len ps =>
    have : evParts φ ps.toList = evParts φ' ps.toList := mapO_congr fun x hx => by rw [h x.2 (by simp [Op.operands]; exact ⟨x.1, by simpa using hx⟩)]
    simp only [evOp, this]
  | build t ps =>
    have : evParts φ ps.toList = evParts φ' ps.toList := mapO_congr fun x hx => by rw [h x.2 (by simp [Op.operands]; exact ⟨x.1, by simpa using hx⟩)]
    simp only [evOp, this]
  | makeFunc fn a b =>
    have h1 : φ.evs a.toList = φ'.evs a.toList := mapO_congr fun x hx => h x (by simp [Op.operands] at hx ⊢; exact .inl hx)
    have h2 : φ.evs b.toList = φ'.evs b.toList := mapO_congr fun x hx => h x (by simp [Op.operands] at hx ⊢; exact .inr hx)
    simp only [evOp, h1, h2]
  | call c =>
    have h1 : φ.evs c.args.toList = φ'.evs c.args.toList := mapO_congr fun x hx => h x (by simp [Op.operands, Call.operands] at hx ⊢; exact .inr hx)
    simp only [evOp, h1]
    split
    · rfl
    · rename_i f hf
      rw [h f (by simp [Op.operands, Call.operands, hf])]
    · rename_i f nm hf
      rw [h f (by simp [Op.operands, Call.operands, hf])]
  | makeInterface t x => simp only [evOp, h x (by simp [Op.operands])]
  | typeAssert x t u ok => simp only [evOp, h x (by simp [Op.operands])]
  | makeMap t x =>
    cases x with
    | none => rfl
    | some y => simp only [evOp, h y (by simp [Op.operands])]
  | lookup t x i ok => simp only [evOp, h x (by simp [Op.operands]), h i (by simp [Op.operands])]
  | mapUpdate t m k x => simp only [evOp, h m (by simp [Op.operands]), h k (by simp [Op.operands]), h x (by simp [Op.operands])]
  | move x => simp only [evOp, h x (by simp [Op.operands])]
  | assign x => simp only [evOp, h x (by simp [Op.operands])]
  | pick c x y => simp only [evOp, h c (by simp [Op.operands]), h x (by simp [Op.operands]), h y (by simp [Op.operands])]
  | box t x => simp only [evOp, h x (by simp [Op.operands])]
  | load t x => simp only [evOp, h x (by simp [Op.operands])]
  | store t x y => simp only [evOp, h x (by simp [Op.operands]), h y (by simp [Op.operands])]
  | nilCheck x => simp only [evOp, h x (by simp [Op.operands])]
  | binOp op t x y t' => simp only [evOp, h x (by simp [Op.operands]), h y (by simp [Op.operands])]
  | unOp op t x => simp only [evOp, h x (by simp [Op.operands])]
  | convert s d x => simp only [evOp, h x (by simp [Op.operands])]
  | fieldAddr s x f => simp only [evOp, h x (by simp [Op.operands])]
  | field s x f => simp only [evOp, h x (by simp [Op.operands])]
  | indexAddr t x i => simp only [evOp, h x (by simp [Op.operands]), h i (by simp [Op.operands])]
  | index t x i => simp only [evOp, h x (by simp [Op.operands]), h i (by simp [Op.operands])]
  | extract x i => simp only [evOp, h x (by simp [Op.operands])]
  | makeSlice t l c => simp only [evOp, h l (by simp [Op.operands]), h c (by simp [Op.operands])]
  | _ => rfl
theorem pure_eq {q : Bool} {ty : TypeId} {φ : Fr} {op : Op} (h : pureOp op = true) (σ σ2 : Store) (K : AV → Store → Option R) : evOp P Γ q ty φ σ K op = evOp P Γ q ty φ σ2 (fun v _ => K v σ) op := by
  cases op with
  | call c =>
    simp only [pureOp] at h
    simp only [evOp]
    cases hc : c.callee with
    | builtin b =>
      rw [hc] at h
      simp only
      congr 1; funext args
      rcases args with _ | ⟨x, l⟩
      · cases b <;> simp at h <;> rfl
      · cases b <;> simp at h <;> cases x <;> first | rfl | (cases l <;> rfl)
    | value f => rw [hc] at h; simp at h
    | invoke x m => rw [hc] at h; simp at h
  | _ => first | rfl | (simp [pureOp] at h)
theorem pureD {q : Bool} {ty : TypeId} {φ : Fr} {op : Op} (h : pureOp op = true) {σ σ1 : Store} {v : AV} (he : evOpD P Γ q ty φ σ op = some (v, σ1)) : σ1 = σ ∧ ∀ σ2, evOpD P Γ q ty φ σ2 op = some (v, σ2) := by
  have key : ∀ σ2, evOpD P Γ q ty φ σ2 op = some (v, σ2) := by
    intro σ2
    have h1 : evOpD P Γ q ty φ σ2 op = evOp P Γ q ty φ σ (fun v _ => some (v, σ2)) op := pure_eq h σ2 σ _
    rw [h1, evOp_nat, he]; rfl
  have := key σ
  rw [he] at this
  injection this with this; injection this with _ this
  exact ⟨this, key⟩
theorem ldK_congr {σ σ' : Store} {b : Nat} (h : σ.objs[b]? = σ'.objs[b]?) (c : CK) (o : Nat) (K : AV → Option R) : ldK σ c (some (b, o)) K = ldK σ' c (some (b, o)) K := by
  have hc : σ.cell (some (b, o)) = σ'.cell (some (b, o)) := by simp only [Store.cell, h]
  cases c <;> simp only [ldK, Store.ldInt, Store.ldBool, Store.ldStr, Store.ldPtr, Store.ldSl, Store.ldMap, Store.ldFn, Store.ldIfc, hc]
theorem ldL_congr {σ σ' : Store} {b : Nat} (h : σ.objs[b]? = σ'.objs[b]?) (o : Nat) (cs : List CK) : ∀ (i : Nat) (K : List AV → Option R), ldL σ (some (b, o)) cs i K = ldL σ' (some (b, o)) cs i K := by
  induction cs with
  | nil => intro i K; rfl
  | cons c cs ih =>
    intro i K
    simp only [ldL, Ptr.add, Option.map_some]
    rw [ldK_congr h]
    congr 1; funext v; exact ih ..
theorem ldT_congr {σ σ' : Store} {b : Nat} (h : σ.objs[b]? = σ'.objs[b]?) (t : TypeId) (o : Nat) (K : AV → Option R) : ldT P σ t (some (b, o)) K = ldT P σ' t (some (b, o)) K := by
  unfold ldT
  split
  · congr 1; funext cs
    split
    · exact ldL_congr h ..
    · rfl
  · split
    · exact ldK_congr h ..
    · rfl
end
theorem alloc_eq {P : Program} {Γ : Gam} {q : Bool} {ty : TypeId} {φ : Fr} {op : Op} (h : isA op = true) {σ σ' : Store} {v : AV} (he : evOpD P Γ q ty φ σ op = some (v, σ')) :
    ∃ (l : List AV) (es : Nat) (mk : Nat → AV), v = mk σ.objs.length ∧ σ' = σ.push l es ∧ (∀ σ2, evOpD P Γ q ty φ σ2 op = some (mk σ2.objs.length, σ2.push l es)) ∧
      (mk = (fun n => .ptr (some (n, 0))) ∨ ∃ len cap, mk = fun n => .slice ⟨some (n, 0), len, cap⟩) := by
  cases op with
  | alloc t =>
    simp only [evOpD, evOp] at he ⊢
    obtain ⟨l, hl, he⟩ := Option.bind_eq_some_iff.1 he
    injection he with he; simp only [Prod.mk.injEq] at he
    exact ⟨l, _, fun n => .ptr (some (n, 0)), he.1.symm, he.2.symm, fun σ2 => by rw [hl]; rfl, .inl rfl⟩
  | box t x =>
    simp only [evOpD, evOp] at he ⊢
    obtain ⟨u, hu, he⟩ := Option.bind_eq_some_iff.1 he
    split at he
    · exact absurd he (by simp)
    · rename_i hn
      injection he with he; simp only [Prod.mk.injEq] at he
      exact ⟨u.cells, _, fun n => .ptr (some (n, 0)), he.1.symm, he.2.symm, fun σ2 => by rw [hu, Option.bind_some, if_neg hn], .inl rfl⟩
  | makeSlice t l c =>
    simp only [evOpD, evOp] at he ⊢
    split at he
    · split at he
      · split at he
        · rename_i k' m h1 h2 h3 _ _ by_ zs h4 h5 hc
          split at he
          · rename_i hc2
            injection he with he; simp only [Prod.mk.injEq] at he
            refine ⟨_, _, fun i => .slice ⟨some (i, 0), _, _⟩, he.1.symm, he.2.symm, fun σ2 => ?_, .inr ⟨_, _, rfl⟩⟩
            simp only [h1, h2, h3, h4, h5]
            rw [if_pos hc, if_pos hc2]
          · exact absurd he (by simp)
        · exact absurd he (by simp)
      · exact absurd he (by simp)
    · exact absurd he (by simp)
  | buildSlice t len ps =>
    simp only [evOpD, evOp] at he ⊢
    split at he
    · split at he
      · split at he
        · rename_i h1 _ zs h2 hc
          obtain ⟨l, hl, he⟩ := Option.bind_eq_some_iff.1 he
          obtain ⟨cs, hcs, he⟩ := Option.bind_eq_some_iff.1 he
          injection he with he; simp only [Prod.mk.injEq] at he
          refine ⟨_, _, fun i => .slice ⟨some (i, 0), len, some len⟩, he.1.symm, he.2.symm, fun σ2 => ?_, .inr ⟨_, _, rfl⟩⟩
          simp only [h1, h2]
          rw [if_pos hc, hl]
          simp only [Option.bind_some]
          rw [hcs]
          rfl
        · exact absurd he (by simp)
      · exact absurd he (by simp)
    · exact absurd he (by simp)
  | _ => simp [isA] at h
/-! ### the order of the text -/
section
variable {P : Program} {Γ : Gam} {nt qs : Nat} {ops : Array Oper}
/-- Is an operation carried out, with a frame? -/
def Wants (ops : Array Oper) (φ : Fr) (o : Oper) (b : Bool) : Prop :=
  match o.guard with
  | none => b = true
  | some (j, want) => ∃ d, guardOf ops j = some d ∧ ((∃ x, φ.get d = some (.bool x) ∧ b = (x == want)) ∨ ∃ l, φ.get d = some (.tuple l) ∧ b = false)
structure Step (P : Program) (Γ : Gam) (nt : Nat) (ops : Array Oper) (q : Bool) (o : Oper) (φ : Fr) (σ : Store) (x : Bool) (v : AV) (φ' : Fr) (σ' : Store) : Prop where
  wants : Wants ops φ o x
  nt : ∀ t, o.dst = some t → t < nt
  get : ∀ t, φ'.get t = if o.dst = some t then some v else φ.get t
  exec : x = true → evOpD P Γ q o.type φ σ o.op = some (v, σ')
  skip : x = false → v = AV.skipped ∧ σ' = σ
theorem put_get {φ : Fr} {d : Option Tmp} {v : AV} {R : Type} {K : Fr → Option R} {r : R} (h : Fr.put nt φ d v R K = some r) : ∃ φ', K φ' = some r ∧ (∀ t, d = some t → t < nt) ∧ ∀ t, φ'.get t = if d = some t then some v else φ.get t := by
  cases d with
  | none => exact ⟨φ, h, by simp, by simp⟩
  | some t =>
    simp only [Fr.put] at h
    by_cases e : Nat.blt t nt = true
    · rw [e] at h
      rw [Nat.blt_eq] at e
      refine ⟨_, h, fun u hu => by injection hu with hu; subst hu; exact e, fun u => ?_⟩
      rw [Fr.get_cons]
      by_cases c : t = u
      · rw [if_pos c, if_pos (by rw [c])]
      · rw [if_neg c, if_neg (by intro e; injection e with e; exact c e)]
    · rw [Bool.not_eq_true] at e
      rw [e] at h; exact absurd h (by simp)
def Trace (P : Program) (Γ : Gam) (nt qs : Nat) (ops : Array Oper) (l : List Oper) (i : Nat) {R : Type} (φ : Fr) (σ : Store) (K : Fr → Store → Option R) (r : R) : Prop :=
  ∃ (X : Nat → Bool) (V : Nat → AV) (S : Nat → Store) (Φ : Nat → Fr), (∀ t, (Φ 0).get t = φ.get t) ∧ S 0 = σ ∧ K (Φ l.length) (S l.length) = some r ∧
      ∀ (k : Nat) (o : Oper), l[k]? = some o → Step P Γ nt ops (bitOn qs (i + k)) o (Φ k) (S k) (X k) (V k) (Φ (k + 1)) (S (k + 1))
theorem evOps_tr (l : List Oper) : ∀ (i : Nat) {R : Type} {φ : Fr} {σ : Store} {K : Fr → Store → Option R} {r : R} (_ : evOps P Γ nt qs ops l i φ σ K = some r),
    Trace P Γ nt qs ops l i φ σ K r := by
  induction l with
  | nil => intro i R φ σ K r h; exact ⟨fun _ => true, fun _ => .undef, fun _ => σ, fun _ => φ, fun _ => rfl, rfl, h, fun k o hk => by simp at hk⟩
  | cons o l ih =>
    intro i R φ σ K r h
    -- one operation, then the others
    have more : ∀ (φ1 : Fr) (x : Bool) (v : AV) (σ' : Store) (φ' : Fr), (∀ t, φ1.get t = φ.get t) → Wants ops φ1 o x → (∀ t, o.dst = some t → t < nt) → (∀ t, φ'.get t = if o.dst = some t then some v else φ1.get t) →
        (x = true → evOpD P Γ (bitOn qs i) o.type φ1 σ o.op = some (v, σ')) → (x = false → v = AV.skipped ∧ σ' = σ) → evOps P Γ nt qs ops l (i + 1) φ' σ' K = some r →
        Trace P Γ nt qs ops (o :: l) i φ σ K r := by
      intro φ1 x v σ' φ' h1 h2 h3 h4 h5 h6 h7
      obtain ⟨X, V, S, Φ, g1, g2, g3, g4⟩ := ih (i + 1) h7
      refine ⟨fun k => Nat.casesOn k x X, fun k => Nat.casesOn k v V, fun k => Nat.casesOn k σ S, fun k => Nat.casesOn k φ1 Φ, h1, rfl, g3, ?_⟩
      intro k p hk
      cases k with
      | zero =>
        simp at hk; subst hk
        exact ⟨h2, h3, fun t => (g1 t).trans (h4 t), fun e => by have := h5 e; show evOpD _ _ _ _ _ _ _ = some (v, S 0); rw [g2]; exact this, fun e => ⟨(h6 e).1, g2.trans (h6 e).2⟩⟩
      | succ k =>
        have := g4 k p (by simpa using hk)
        rw [show i + (k + 1) = i + 1 + k by omega]
        exact this
    simp only [evOps] at h
    have exec : ∀ (φ1 : Fr), (∀ t, φ1.get t = φ.get t) → Wants ops φ1 o true → evOp P Γ (bitOn qs i) o.type φ1 σ (fun v σ' => Fr.put nt φ1 o.dst v R fun φ' => evOps P Γ nt qs ops l (i + 1) φ' σ' K) o.op = some r → Trace P Γ nt qs ops (o :: l) i φ σ K r := by
      intro φ1 e1 e2 e3
      rw [evOp_nat] at e3
      obtain ⟨⟨v, σ'⟩, e4, e5⟩ := Option.bind_eq_some_iff.1 e3
      obtain ⟨φ', e6, e7, e8⟩ := put_get e5
      exact more φ1 true v σ' φ' e1 e2 e7 e8 (fun _ => e4) (fun e => by cases e) e6
    have skip : ∀ (φ1 : Fr), (∀ t, φ1.get t = φ.get t) → Wants ops φ1 o false → Fr.put nt φ1 o.dst AV.skipped R (fun φ' => evOps P Γ nt qs ops l (i + 1) φ' σ K) = some r → Trace P Γ nt qs ops (o :: l) i φ σ K r := by
      intro φ1 e1 e2 e3
      obtain ⟨φ', e6, e7, e8⟩ := put_get e3
      exact more φ1 false AV.skipped σ φ' e1 e2 e7 e8 (fun e => by cases e) (fun _ => ⟨rfl, rfl⟩) e6
    cases hg : o.guard with
    | none =>
      simp only [hg] at h
      exact exec φ (fun _ => rfl) (by simp [Wants, hg]) h
    | some jw =>
      obtain ⟨j, want⟩ := jw
      simp only [hg] at h
      cases hd : guardOf ops j with
      | none => simp [hd] at h
      | some d =>
        simp only [hd] at h
        split at h
        · rename_i b hb
          have same : ∀ (φ1 : Fr), (∀ t, φ1.get t = if (some d : Option Nat) = some t then some (.bool b) else φ.get t) → ∀ t, φ1.get t = φ.get t := by
            intro φ1 h1 t
            rw [h1 t]
            by_cases e : d = t
            · subst e; rw [if_pos rfl]; exact hb.symm
            · rw [if_neg (by intro x; injection x with x; exact e x)]
          split at h
          · rename_i hbt
            obtain ⟨φ1, k1, k2, k3⟩ := put_get h
            have k4 := same φ1 (by rw [hbt]; exact k3)
            cases want with
            | true => exact exec φ1 k4 (by simp only [Wants, hg]; exact ⟨d, hd, .inl ⟨b, (k4 d).trans hb, by rw [hbt]; rfl⟩⟩) k1
            | false => exact skip φ1 k4 (by simp only [Wants, hg]; exact ⟨d, hd, .inl ⟨b, (k4 d).trans hb, by rw [hbt]; rfl⟩⟩) k1
          · rename_i hbt
            have hbf : b = false := by simpa using hbt
            obtain ⟨φ1, k1, k2, k3⟩ := put_get h
            have k4 := same φ1 (by rw [hbf]; exact k3)
            cases want with
            | true => exact skip φ1 k4 (by simp only [Wants, hg]; exact ⟨d, hd, .inl ⟨b, (k4 d).trans hb, by rw [hbf]; rfl⟩⟩) k1
            | false => exact exec φ1 k4 (by simp only [Wants, hg]; exact ⟨d, hd, .inl ⟨b, (k4 d).trans hb, by rw [hbf]; rfl⟩⟩) k1
        · rename_i l hb
          exact skip φ (fun _ => rfl) (by simp only [Wants, hg]; exact ⟨d, hd, .inr ⟨l, hb, trivial⟩⟩) h
        · exact absurd h (by simp)
end
end Go.Ab


/- What is protected stays. -/
namespace Go.Ab
open Go Go.RowKit
set_option linter.unusedVariables false
set_option linter.unusedSimpArgs false
structure Pre (σ σ' : Store) : Prop where
  len : σ.objs.length ≤ σ'.objs.length
  prot : σ'.prot = σ.prot
  keep : ∀ b, b < σ.prot → b < σ.objs.length → σ'.objs[b]? = σ.objs[b]?
theorem Pre.refl (σ : Store) : Pre σ σ := ⟨Nat.le_refl _, rfl, fun _ _ _ => rfl⟩
theorem Pre.trans {σ σ1 σ2 : Store} (h : Pre σ σ1) (k : Pre σ1 σ2) : Pre σ σ2 :=
  ⟨Nat.le_trans h.len k.len, k.prot.trans h.prot, fun b hb hl => (k.keep b (by rw [h.prot]; exact hb) (Nat.lt_of_lt_of_le hl h.len)).trans (h.keep b hb hl)⟩
theorem Pre.push (σ : Store) (l : List AV) (es : Nat) : Pre σ (σ.push l es) := ⟨by simp [Store.push], rfl, fun b _ hl => by simp only [Store.push]; rw [List.getElem?_append_left hl]⟩
theorem Pre.set (σ : Store) {b : Nat} (hb : σ.prot ≤ b) (o : AObj) : Pre σ { σ with objs := σ.objs.set b o } := ⟨by simp, rfl, fun i hi _ => by show (σ.objs.set b o)[i]? = _; rw [List.getElem?_set, if_neg (by omega)]⟩
theorem Pre.st {σ σ' : Store} {p : Ptr} {v : AV} (h : σ.st p v = some σ') : Pre σ σ' := by
  unfold Store.st at h
  split at h
  · split at h
    · split at h
      · rename_i hc
        injection h with h; subst h
        exact Pre.set σ hc.1.1 _
      · exact absurd h (by simp)
    · exact absurd h (by simp)
  · exact absurd h (by simp)
theorem Pre.stL (l : List AV) : ∀ {σ σ' : Store} {p : Ptr} {i : Nat} (_ : σ.stL p l i = some σ'), Pre σ σ' := by
  induction l with
  | nil => intro σ σ' p i h; simp only [Store.stL] at h; injection h with h; subst h; exact Pre.refl _
  | cons v l ih =>
    intro σ σ' p i h
    simp only [Store.stL] at h
    obtain ⟨σ1, h1, h2⟩ := Option.bind_eq_some_iff.1 h
    exact (Pre.st h1).trans (ih h2)
theorem Pre.app {σ σ' : Store} {h h' : Hdl} {es by_ m : Nat} {xs : List AV} (ha : σ.app h es by_ xs m = some (h', σ')) : Pre σ σ' := by
  unfold Store.app at ha
  split at ha
  · injection ha with ha; simp only [Prod.mk.injEq] at ha; rw [← ha.2]; exact Pre.refl _
  · split at ha
    · split at ha
      · injection ha with ha; simp only [Prod.mk.injEq] at ha; rw [← ha.2]; exact Pre.push ..
      · split at ha
        · split at ha
          · split at ha
            · split at ha
              · split at ha
                · rename_i hc
                  injection ha with ha; simp only [Prod.mk.injEq] at ha; rw [← ha.2]; exact Pre.set σ hc.2.1 _
                · exact absurd ha (by simp)
              · injection ha with ha; simp only [Prod.mk.injEq] at ha; rw [← ha.2]; exact Pre.push ..
            · split at ha
              · rename_i hc
                injection ha with ha; simp only [Prod.mk.injEq] at ha; rw [← ha.2]
                exact (Pre.set σ hc.2 .dead).trans (Pre.push { σ with objs := σ.objs.set _ .dead } _ es)
              · exact absurd ha (by simp)
          · exact absurd ha (by simp)
        · exact absurd ha (by simp)
    · exact absurd ha (by simp)
def GK (Γ : Gam) : Prop := ∀ g args σ v σ', Γ g args σ = some (v, σ') → Pre σ σ'
theorem callG_pre {Γ : Gam} (hΓ : GK Γ) {q : Bool} {g : Fun} {args : List AV} {σ σ' : Store} {v : AV} (h : callG Γ q g args σ = some (v, σ')) : Pre σ σ' ∧ (q = true → ∀ b, b < σ.objs.length → σ'.objs[b]? = σ.objs[b]?) := by
  cases q with
  | false => exact ⟨hΓ _ _ _ _ _ h, fun e => by cases e⟩
  | true =>
    simp only [callG] at h
    obtain ⟨⟨v', σ1⟩, hr, e⟩ := Option.map_eq_some_iff.1 h
    simp only [Prod.mk.injEq] at e
    obtain ⟨rfl, rfl⟩ := e
    have := hΓ _ _ _ _ _ hr
    exact ⟨⟨this.len, rfl, fun b _ hl => this.keep b hl hl⟩, fun _ b hb => this.keep b hb hb⟩
section
variable {P : Program} {Γ : Gam} {dr : DrawOk} {k nt : Nat} {rf : Bool}
theorem evBuiltin_pre {b : Builtin} {ts : List TypeId} {args : List AV} {σ σ' : Store} {v : AV} (h : evBuiltin P b ts args σ (fun v σ' => some (v, σ')) = some (v, σ')) : Pre σ σ' := by
  have one : ∀ {x : AV}, (some (x, σ) : Option (AV × Store)) = some (v, σ') → Pre σ σ' := fun h => by injection h with h; simp only [Prod.mk.injEq] at h; rw [← h.2]; exact Pre.refl _
  unfold evBuiltin at h
  split at h
  · split at h
    · split at h
      · exact one h
      · exact absurd h (by simp)
    · exact absurd h (by simp)
  · split at h
    · split at h
      · exact one h
      · exact absurd h (by simp)
    · exact absurd h (by simp)
  · rw [maxK_nat] at h; obtain ⟨x, _, h⟩ := Option.bind_eq_some_iff.1 h; exact one h
  · rw [maxK_nat] at h; obtain ⟨x, _, h⟩ := Option.bind_eq_some_iff.1 h; exact one h
  · split at h
    · split at h
      · split at h
        · split at h
          · obtain ⟨xs, _, h⟩ := Option.bind_eq_some_iff.1 h
            obtain ⟨⟨h', σ1⟩, hr, h⟩ := Option.bind_eq_some_iff.1 h
            injection h with h; simp only [Prod.mk.injEq] at h; rw [← h.2]; exact Pre.app hr
          · exact absurd h (by simp)
        · exact absurd h (by simp)
      · exact absurd h (by simp)
    · exact absurd h (by simp)
  · exact absurd h (by simp)
theorem evOpD_pre (hΓ : GK Γ) {q : Bool} {ty : TypeId} {φ : Fr} {σ σ' : Store} {op : Op} {v : AV} (h : evOpD P Γ q ty φ σ op = some (v, σ')) :
    Pre σ σ' ∧ (isLoad op = true → σ' = σ) ∧ (isCallV op = true → q = true → ∀ b, b < σ.objs.length → σ'.objs[b]? = σ.objs[b]?) := by
  by_cases hp : pureOp op = true
  · have := (pureD hp h).1
    subst this
    exact ⟨Pre.refl _, fun _ => rfl, fun _ _ _ _ => rfl⟩
  · unfold evOpD at h
    cases op with
    | alloc t =>
      simp only [evOp] at h
      obtain ⟨l, _, h⟩ := Option.bind_eq_some_iff.1 h
      injection h with h; simp only [Prod.mk.injEq] at h; rw [← h.2]
      exact ⟨Pre.push .., fun e => by simp [isLoad] at e, fun e => by simp [isCallV] at e⟩
    | box t x =>
      simp only [evOp] at h
      obtain ⟨l, _, h⟩ := Option.bind_eq_some_iff.1 h
      split at h
      · exact absurd h (by simp)
      · injection h with h; simp only [Prod.mk.injEq] at h; rw [← h.2]
        exact ⟨Pre.push .., fun e => by simp [isLoad] at e, fun e => by simp [isCallV] at e⟩
    | load t x =>
      simp only [evOp] at h
      split at h
      · rw [ldT_nat] at h
        obtain ⟨x, _, h⟩ := Option.bind_eq_some_iff.1 h
        injection h with h; simp only [Prod.mk.injEq] at h; rw [← h.2]
        exact ⟨Pre.refl _, fun _ => rfl, fun _ _ _ _ => rfl⟩
      · exact absurd h (by simp)
    | store t x y =>
      simp only [evOp] at h
      split at h
      · split at h
        · obtain ⟨σ1, h1, h⟩ := Option.bind_eq_some_iff.1 h
          injection h with h; simp only [Prod.mk.injEq] at h; rw [← h.2]
          exact ⟨Pre.stL _ h1, fun e => by simp [isLoad] at e, fun e => by simp [isCallV] at e⟩
        · exact absurd h (by simp)
      · exact absurd h (by simp)
    | makeSlice t l c =>
      simp only [evOp] at h
      split at h
      · split at h
        · split at h
          · split at h
            · injection h with h; simp only [Prod.mk.injEq] at h; rw [← h.2]
              exact ⟨Pre.push .., fun e => by simp [isLoad] at e, fun e => by simp [isCallV] at e⟩
            · exact absurd h (by simp)
          · exact absurd h (by simp)
        · exact absurd h (by simp)
      · exact absurd h (by simp)
    | slice t x lo hi mx =>
      simp only [evOp] at h
      split at h
      · obtain ⟨_, _, h⟩ := Option.bind_eq_some_iff.1 h
        obtain ⟨_, _, h⟩ := Option.bind_eq_some_iff.1 h
        obtain ⟨_, _, h⟩ := Option.bind_eq_some_iff.1 h
        obtain ⟨_, _, h⟩ := Option.bind_eq_some_iff.1 h
        obtain ⟨_, _, h⟩ := Option.bind_eq_some_iff.1 h
        split at h
        · exact absurd h (by simp)
        · injection h with h; simp only [Prod.mk.injEq] at h; rw [← h.2]
          exact ⟨Pre.refl _, fun _ => rfl, fun _ _ _ _ => rfl⟩
      · exact absurd h (by simp)
    | buildSlice t len ps =>
      simp only [evOp] at h
      split at h
      · split at h
        · split at h
          · obtain ⟨_, _, h⟩ := Option.bind_eq_some_iff.1 h
            obtain ⟨_, _, h⟩ := Option.bind_eq_some_iff.1 h
            injection h with h; simp only [Prod.mk.injEq] at h; rw [← h.2]
            exact ⟨Pre.push .., fun e => by simp [isLoad] at e, fun e => by simp [isCallV] at e⟩
          · exact absurd h (by simp)
        · exact absurd h (by simp)
      · exact absurd h (by simp)
    | makeMap t x =>
      simp only [evOp] at h
      have one : some (AV.map (some σ.objs.length), ({ σ with objs := σ.objs ++ [.map []] } : Store)) = some (v, σ') → Pre σ σ' := fun h => by
        injection h with h; simp only [Prod.mk.injEq] at h; rw [← h.2]
        exact ⟨by simp, rfl, fun b _ hl => by simp only []; rw [List.getElem?_append_left hl]⟩
      split at h
      · exact ⟨one h, fun e => by simp [isLoad] at e, fun e => by simp [isCallV] at e⟩
      · split at h
        · exact ⟨one h, fun e => by simp [isLoad] at e, fun e => by simp [isCallV] at e⟩
        · exact absurd h (by simp)
    | lookup t x i ok =>
      simp only [evOp] at h
      split at h
      · split at h
        · obtain ⟨z, _, h⟩ := Option.bind_eq_some_iff.1 h
          obtain ⟨o, _, h⟩ := Option.bind_eq_some_iff.1 h
          split at h
          · rw [castT_nat] at h
            obtain ⟨u, _, h⟩ := Option.bind_eq_some_iff.1 h
            injection h with h; simp only [Prod.mk.injEq] at h; rw [← h.2]
            exact ⟨Pre.refl _, fun _ => rfl, fun _ _ _ _ => rfl⟩
          · injection h with h; simp only [Prod.mk.injEq] at h; rw [← h.2]
            exact ⟨Pre.refl _, fun _ => rfl, fun _ _ _ _ => rfl⟩
        · exact absurd h (by simp)
      · exact absurd h (by simp)
    | mapUpdate t m k x =>
      simp only [evOp] at h
      split at h
      · split at h
        · obtain ⟨σ1, h1, h⟩ := Option.bind_eq_some_iff.1 h
          injection h with h; simp only [Prod.mk.injEq] at h; rw [← h.2]
          refine ⟨?_, fun e => by simp [isLoad] at e, fun e => by simp [isCallV] at e⟩
          unfold Store.upd at h1
          split at h1
          · cases h1
          · split at h1
            · split at h1
              · rename_i hp
                split at h1
                · cases h1
                · injection h1 with h1; subst h1; exact Pre.set σ hp _
                · injection h1 with h1; subst h1; exact Pre.set σ hp _
              · cases h1
            · cases h1
        · exact absurd h (by simp)
      · exact absurd h (by simp)
    | call c =>
      simp only [evOp] at h
      split at h
      · rename_i b hb
        obtain ⟨args, _, h⟩ := Option.bind_eq_some_iff.1 h
        exact ⟨evBuiltin_pre h, fun e => by simp [isLoad] at e, fun e => by simp [isCallV, hb] at e⟩
      · split at h
        · obtain ⟨args, _, h⟩ := Option.bind_eq_some_iff.1 h
          obtain ⟨⟨v1, σ1⟩, hr, h⟩ := Option.bind_eq_some_iff.1 h
          rw [castR_nat] at h
          obtain ⟨x, _, h⟩ := Option.bind_eq_some_iff.1 h
          injection h with h; simp only [Prod.mk.injEq] at h; rw [← h.2]
          have := callG_pre hΓ hr
          exact ⟨this.1, fun e => by simp [isLoad] at e, fun _ hq => this.2 hq⟩
        · obtain ⟨args, _, h⟩ := Option.bind_eq_some_iff.1 h
          obtain ⟨⟨v1, σ1⟩, hr, h⟩ := Option.bind_eq_some_iff.1 h
          rw [castR_nat] at h
          obtain ⟨x, _, h⟩ := Option.bind_eq_some_iff.1 h
          injection h with h; simp only [Prod.mk.injEq] at h; rw [← h.2]
          have := callG_pre hΓ hr
          exact ⟨this.1, fun e => by simp [isLoad] at e, fun _ hq => this.2 hq⟩
        · exact absurd h (by simp)
      · have fin : ∀ (f : FuncId) (u : AV), ((φ.evs c.args.toList).bind fun args => (callG Γ q (.fn f) (u :: args) σ).bind fun r => castR P ty r.1 fun v => some (v, r.2)) = some (v, σ') → Pre σ σ' ∧ (q = true → ∀ b, b < σ.objs.length → σ'.objs[b]? = σ.objs[b]?) := by
          intro f u h
          obtain ⟨args, _, h⟩ := Option.bind_eq_some_iff.1 h
          obtain ⟨⟨v1, σ1⟩, hr, h⟩ := Option.bind_eq_some_iff.1 h
          rw [castR_nat] at h
          obtain ⟨x, _, h⟩ := Option.bind_eq_some_iff.1 h
          injection h with h; simp only [Prod.mk.injEq] at h; rw [← h.2]
          exact callG_pre hΓ hr
        split at h
        · split at h
          · exact absurd h (by simp)
          · split at h
            · have := fin _ _ h
              exact ⟨this.1, fun e => by simp [isLoad] at e, fun _ hq => this.2 hq⟩
            · split at h
              · rw [ldT_nat] at h
                obtain ⟨u, _, h⟩ := Option.bind_eq_some_iff.1 h
                have := fin _ _ h
                exact ⟨this.1, fun e => by simp [isLoad] at e, fun _ hq => this.2 hq⟩
              · exact absurd h (by simp)
        · exact absurd h (by simp)
    | _ => first | (exact absurd rfl hp) | (simp [evOp] at h)
theorem evOps_pre (hΓ : GK Γ) {qs : Nat} {ops : Array Oper} {l : List Oper} {i : Nat} {R : Type} {φ : Fr} {σ : Store} {K : Fr → Store → Option R} {r : R} (h : evOps P Γ nt qs ops l i φ σ K = some r) : ∃ φ' σ', K φ' σ' = some r ∧ Pre σ σ' := by
  obtain ⟨X, V, S, Φ, h1, h2, h3, h4⟩ := evOps_tr l i h
  refine ⟨_, _, h3, ?_⟩
  have : ∀ k, k ≤ l.length → Pre (S 0) (S k) := by
    intro k
    induction k with
    | zero => intro _; exact Pre.refl _
    | succ k ih =>
      intro hk
      have st := h4 k l[k] (by simp)
      refine (ih (by omega)).trans ?_
      cases hx : X k with
      | true => exact (evOpD_pre hΓ (st.exec hx)).1
      | false => rw [(st.skip hx).2]; exact Pre.refl _
  rw [← h2]; exact this _ (Nat.le_refl _)
theorem evCode_pre (hΓ : GK Γ) (c : Code) : ∀ {R : Type} {N : Live} {φ : Fr} {σ : Store} {K : AX → Fr → Store → Option R} {r : R} (_ : evCode P Γ dr k nt rf c N φ σ K = some r), ∃ e φ' σ', K e φ' σ' = some r ∧ Pre σ σ' := by
  induction c with
  | skip => intro R N φ σ K r h; exact ⟨_, _, _, h, Pre.refl _⟩
  | region id ops draw =>
    intro R N φ σ K r h
    cases draw with
    | false =>
      simp only [evCode] at h
      obtain ⟨φ', σ', h1, h2⟩ := evOps_pre hΓ h
      exact ⟨_, _, _, h1, h2⟩
    | true =>
      simp only [evCode] at h
      obtain ⟨⟨qs, ap⟩, _, h⟩ := Option.bind_eq_some_iff.1 h
      obtain ⟨φ', σ', h1, h2⟩ := evOps_pre hΓ (apartK_inv h).2
      exact ⟨_, _, _, h1, h2⟩
  | seq x y ihx ihy =>
    intro R N φ σ K r h
    simp only [evCode] at h
    obtain ⟨e, φ', σ', h1, h2⟩ := ihx h
    cases e with
    | normal =>
      obtain ⟨e, φ2, σ2, h3, h4⟩ := ihy h1
      exact ⟨_, _, _, h3, h2.trans h4⟩
    | exit i => exact ⟨_, _, _, h1, h2⟩
    | ret => exact ⟨_, _, _, h1, h2⟩
  | cond c x y ihx ihy =>
    intro R N φ σ K r h
    simp only [evCode] at h
    split at h
    · split at h
      · exact ihx h
      · exact ihy h
    · exact absurd h (by simp)
  | block id c ih =>
    intro R N φ σ K r h
    simp only [evCode] at h
    obtain ⟨e, φ', σ', h1, h2⟩ := ih h
    cases e with
    | normal => exact ⟨_, _, _, h1, h2⟩
    | exit i =>
      simp only at h1
      cases hb : Nat.beq i id with
      | true => rw [hb] at h1; exact ⟨_, _, _, h1, h2⟩
      | false => rw [hb] at h1; exact ⟨_, _, _, h1, h2⟩
    | ret => exact ⟨_, _, _, h1, h2⟩
  | loop c ih =>
    intro R N φ σ K r h
    simp only [evCode] at h
    obtain ⟨⟨e0, φ0, σ0⟩, h, hK0⟩ := Option.bind_eq_some_iff.1 h
    simp only at hK0
    refine ⟨e0, φ0, σ0, hK0, ?_⟩
    have key : ∀ (j : Nat) (L : List Nat) (vs : List AV) (σ1 : Store), iter j (loopK nt (evCode P Γ dr k nt rf c) L N (liveC c { N with n := 0 })) (vs, σ1) = some (e0, φ0, σ0) → Pre σ1 σ0 := by
      intro j L
      induction j with
      | zero => intro vs σ1 h; simp [iter] at h
      | succ j ihj =>
        intro vs σ1 h
        simp only [iter] at h
        split at h
        · exact absurd h (by simp)
        · rename_i s' hs'
          obtain ⟨vs', σ'⟩ := s'
          simp only [loopK] at hs'
          obtain ⟨e, φ2, σ2, h1, h2⟩ := ih hs'
          cases e with
          | normal =>
            simp only [loopE] at h1
            obtain ⟨us, hus, h1⟩ := Option.bind_eq_some_iff.1 h1
            injection h1 with h1; injection h1 with h1
            simp only [Prod.mk.injEq] at h1
            obtain ⟨rfl, rfl⟩ := h1
            exact h2.trans (ihj _ _ h)
          | exit i => simp only [loopE] at h1; injection h1 with h1; cases h1
          | ret => simp only [loopE] at h1; injection h1 with h1; cases h1
        · rename_i r' hs'
          injection h with h; subst h
          simp only [loopK] at hs'
          obtain ⟨e, φ2, σ2, h1, h2⟩ := ih hs'
          cases e with
          | normal =>
            simp only [loopE] at h1
            obtain ⟨us, hus, h1⟩ := Option.bind_eq_some_iff.1 h1
            injection h1 with h1; cases h1
          | exit i =>
            simp only [loopE] at h1
            injection h1 with h1; injection h1 with h1
            simp only [Prod.mk.injEq] at h1
            obtain ⟨rfl, rfl, rfl⟩ := h1
            exact h2
          | ret =>
            simp only [loopE] at h1
            injection h1 with h1; injection h1 with h1
            simp only [Prod.mk.injEq] at h1
            obtain ⟨rfl, rfl, rfl⟩ := h1
            exact h2
    exact key k _ _ σ h
  | exit i => intro R N φ σ K r h; exact ⟨_, _, _, h, Pre.refl _⟩
  | ret => intro R N φ σ K r h; exact ⟨_, _, _, h, Pre.refl _⟩
  | rangeFunc f ps x y _ _ =>
    intro R N φ σ K r h
    simp only [evCode] at h
    cases rf with
    | false => exact absurd h (by simp)
    | true =>
      simp only at h
      split at h
      · obtain ⟨⟨ev, σv⟩, hr0, h⟩ := Option.bind_eq_some_iff.1 h
        simp only [rangeV] at hr0
        obtain ⟨⟨v, σ'⟩, hr, hr0⟩ := Option.bind_eq_some_iff.1 hr0
        have hp := hΓ _ _ _ _ _ hr
        have hp2 : Pre σ (σ'.setO σ.objs.length .dead) := by
          refine ⟨?_, hp.prot, fun b hb hl => ?_⟩
          · have := hp.len; simp at this; simp [Store.setO]; omega
          · show (σ'.objs.set _ _)[b]? = _
            rw [List.getElem?_set, if_neg (by omega), hp.keep b hb (by simp; omega)]
            show (σ.objs ++ _)[b]? = _
            rw [List.getElem?_append_left hl]
        simp only at hr0 h
        split at hr0
        · injection hr0 with hr0; simp only [Prod.mk.injEq] at hr0; obtain ⟨rfl, rfl⟩ := hr0; exact ⟨_, _, _, h, hp2⟩
        · injection hr0 with hr0; simp only [Prod.mk.injEq] at hr0; obtain ⟨rfl, rfl⟩ := hr0; exact ⟨_, _, _, h, hp2⟩
        · exact absurd hr0 (by simp)
      · exact absurd h (by simp)
  | scope c _ => intro R N φ σ K r h; simp [evCode] at h
  | label l => intro R N φ σ K r h; simp [evCode] at h
  | goto l => intro R N φ σ K r h; simp [evCode] at h
  | refuse s => intro R N φ σ K r h; simp [evCode] at h
theorem resL_st {φ : Fr} {σ : Store} (l : List ResultVar) : ∀ {K : List AV → Option (AV × Store)} {r : AV × Store} (_ : resL P φ σ l K = some r), ∃ vs, K vs = some r := by
  induction l with
  | nil => intro K r h; exact ⟨_, h⟩
  | cons x l ih =>
    intro K r h
    simp only [resL] at h
    cases x with
    | tmp t =>
      simp only [resOne] at h
      obtain ⟨v, _, h⟩ := Option.bind_eq_some_iff.1 h
      obtain ⟨vs, h⟩ := ih h; exact ⟨_, h⟩
    | cell t ty =>
      simp only [resOne] at h
      split at h
      · rw [ldT_nat] at h
        obtain ⟨v, _, h⟩ := Option.bind_eq_some_iff.1 h
        obtain ⟨vs, h⟩ := ih h; exact ⟨_, h⟩
      · exact absurd h (by simp)
theorem evBody_pre (hΓ : GK Γ) {fn : Func} {args : List AV} {σ σ' : Store} {v : AV} (h : evBody P Γ dr k fn args σ = some (v, σ')) : Pre σ σ' := by
  unfold evBody at h
  split at h
  · exact absurd h (by simp)
  · obtain ⟨e, φ', σ2, h1, h2⟩ := evCode_pre hΓ _ h
    have fin : resK P fn φ' σ2 = some (v, σ') → Pre σ σ' := by
      intro hK
      unfold resK at hK
      obtain ⟨vs, hK⟩ := resL_st _ hK
      split at hK <;> (injection hK with hK; simp only [Prod.mk.injEq] at hK; rw [← hK.2]; exact h2)
    cases e with
    | normal => exact fin h1
    | ret => exact fin h1
    | exit i => exact absurd h1 (by simp)
end
theorem evRound_pre {P : Program} {Γ : Gam} (hΓ : GK Γ) {dr : DrawOk} {k l : Nat} {args : List AV} {σ σ' : Store} {v : AV} (h : evRound P Γ dr k l args σ = some (v, σ')) : Pre σ σ' := by
  unfold evRound at h
  split at h
  · split at h
    · rename_i hc
      have hp := hc.1
      obtain ⟨⟨e1, φ1', σ1'⟩, hx, h⟩ := Option.bind_eq_some_iff.1 h
      obtain ⟨e, φ1, σ1, hK, p1⟩ := evCode_pre hΓ _ hx
      injection hK with hK
      simp only [Prod.mk.injEq] at hK
      obtain ⟨rfl, rfl, rfl⟩ := hK
      cases e with
      | normal =>
        simp only at h
        split at h
        · obtain ⟨⟨e2, σ2'⟩, hy, h⟩ := Option.bind_eq_some_iff.1 h
          obtain ⟨e, φ2, σ2, hK, p2⟩ := evCode_pre hΓ _ hy
          injection hK with hK
          simp only [Prod.mk.injEq] at hK
          obtain ⟨rfl, rfl⟩ := hK
          have p3 : Pre σ σ2 := p1.trans ((Pre.set σ1 (by rw [p1.prot]; exact hp) _).trans p2)
          simp only at h
          split at h
          · have p4 : ∀ o, Pre σ (σ2.setO l o) := fun o => p3.trans (Pre.set σ2 (by rw [p3.prot]; exact hp) o)
            cases e with
            | normal => injection h with h; simp only [Prod.mk.injEq] at h; rw [← h.2]; exact p4 _
            | exit i => injection h with h; simp only [Prod.mk.injEq] at h; rw [← h.2]; exact p4 _
            | ret => injection h with h; simp only [Prod.mk.injEq] at h; rw [← h.2]; exact p4 _
          · exact absurd h (by simp)
        · exact absurd h (by simp)
      | exit i => exact absurd h (by simp)
      | ret => exact absurd h (by simp)
    · exact absurd h (by simp)
  · exact absurd h (by simp)
def SpK (sp : FuncId → Option (List AV → Store → Option (AV × Store))) : Prop := ∀ g f, sp g = some f → ∀ args σ v σ', f args σ = some (v, σ') → Pre σ σ'
theorem gam_pre {P : Program} {dr : DrawOk} {sp : FuncId → Option (List AV → Store → Option (AV × Store))} (hsp : SpK sp) (k : Nat) : GK (gam P dr sp k) := by
  induction k with
  | zero =>
    intro g args σ v σ' h
    cases g with
    | yl l => simp [gam] at h
    | fn g =>
      simp only [gam] at h
      split at h
      · rename_i f hf; exact hsp g f hf _ _ _ _ h
      · exact absurd h (by simp)
  | succ k ih =>
    intro g args σ v σ' h
    cases g with
    | yl l => simp only [gam] at h; exact evRound_pre ih h
    | fn g =>
      simp only [gam] at h
      split at h
      · rename_i f hf; exact hsp g f hf _ _ _ _ h
      · split at h
        · exact absurd h (by simp)
        · rename_i fn hf
          cases hn : fn.name == "runtime.NumGoroutine" with
          | true => rw [hn] at h; exact absurd h (by simp)
          | false => rw [hn] at h; exact evBody_pre ih h
end Go.Ab


/- Regions that leave their order open: any order comes to what the text's order comes to. -/
namespace Go.Ab
open Go Go.RowKit
set_option linter.unusedVariables false
set_option linter.unusedSimpArgs false
theorem befs_spec (l : List Oper) : ∀ (acc : List Nat), ∃ suf, befs l acc = acc ++ suf ∧ suf.length = l.length ∧ ∀ (k : Nat) (o : Oper), l[k]? = some o → (befs l acc)[acc.length + k]? = some (edgeMask ((befs l acc).take (acc.length + k)) o.after.toList) := by
  induction l with
  | nil => intro acc; exact ⟨[], by simp [befs], rfl, fun k o h => by simp at h⟩
  | cons o l ih =>
    intro acc
    obtain ⟨suf, h1, h2, h3⟩ := ih (acc ++ [edgeMask acc o.after.toList])
    refine ⟨edgeMask acc o.after.toList :: suf, by simp only [befs]; rw [h1]; simp, by simp [h2], ?_⟩
    intro k p hk
    simp only [befs]
    cases k with
    | zero =>
      simp at hk; subst hk
      rw [h1]
      simp
    | succ k =>
      have := h3 k p (by simpa using hk)
      rw [show acc.length + (k + 1) = (acc ++ [edgeMask acc o.after.toList]).length + k by simp; omega]
      exact this
theorem edgeMask_bit (acc : List Nat) (es : List Edge) (i : Nat) (h : bitOn (edgeMask acc es) i = true) : ∃ e ∈ es, Region.binds .any e = true ∧ (e.on = i ∨ bitOn (acc.getD e.on 0) i = true) := by
  have key : ∀ (es : List Edge) (m : Nat), bitOn (es.foldl (fun m e => bif Region.binds .any e then m ||| (1 <<< e.on) ||| acc.getD e.on 0 else m) m) i = true → bitOn m i = true ∨ ∃ e ∈ es, Region.binds .any e = true ∧ (e.on = i ∨ bitOn (acc.getD e.on 0) i = true) := by
    intro es
    induction es with
    | nil => intro m h; exact .inl h
    | cons e es ih =>
      intro m h
      rw [List.foldl_cons] at h
      rcases ih _ h with h | ⟨e', he', h⟩
      · cases hb : Region.binds .any e with
        | false => rw [hb] at h; exact .inl h
        | true =>
          rw [hb] at h
          simp only [cond_true] at h
          rw [bitOn_spec, Nat.testBit_or, Nat.testBit_or, Nat.one_shiftLeft, Nat.testBit_two_pow] at h
          simp only [Bool.or_eq_true, decide_eq_true_eq] at h
          rcases h with (h | h) | h
          · exact .inl (by rw [bitOn_spec]; exact h)
          · exact .inr ⟨e, by simp, hb, .inl h⟩
          · exact .inr ⟨e, by simp, hb, .inr (by rw [bitOn_spec]; exact h)⟩
      · exact .inr ⟨e', by simp [he'], h⟩
  rcases key es 0 h with h | h
  · rw [bitOn_spec] at h; simp at h
  · exact h
section
variable {ops : Array Oper}
/-- What must come ahead of an operation lies in every set that is closed and holds what it hangs on at once. -/
theorem bef_closed (hE : ∀ (i : Nat) (o : Oper), ops[i]? = some o → ∀ e ∈ o.after.toList, Region.binds .any e = true → e.on < i) {D : Nat → Prop}
    (hD : ∀ (i : Nat) (o : Oper), ops[i]? = some o → D i → ∀ e ∈ o.after.toList, Region.binds .any e = true → D e.on) (j : Nat) : ∀ (p : Oper), ops[j]? = some p → (∀ e ∈ p.after.toList, Region.binds .any e = true → D e.on) →
    ∀ i, bitOn ((befs ops.toList []).getD j 0) i = true → D i := by
  obtain ⟨suf, h1, h2, h3⟩ := befs_spec ops.toList []
  induction j using Nat.strongRecOn with
  | _ j ih =>
    intro p hp hd i hi
    have hj := h3 j p (by simpa using hp)
    simp only [List.length_nil, Nat.zero_add] at hj
    rw [List.getD_eq_getElem?_getD, hj] at hi
    simp only [Option.getD_some] at hi
    obtain ⟨e, he, hb, hc⟩ := edgeMask_bit _ _ _ hi
    have hon := hE j p hp e he hb
    have hDe := hd e he hb
    rcases hc with rfl | hc
    · exact hDe
    · have hlt : e.on < ops.size := by have := (Array.getElem?_eq_some_iff.1 hp).1; omega
      rw [List.getD_eq_getElem?_getD, List.getElem?_take, if_pos hon, ← List.getD_eq_getElem?_getD] at hc
      exact ih e.on hon ops[e.on] (by simp [hlt]) (hD e.on _ (by simp [hlt]) hDe) i hc
end
theorem drawn_inv {ops : Array Oper} {qs : Nat} {ap : List (Nat × Nat)} (h : drawn ops = some (qs, ap)) : (∀ (i : Nat) (o : Oper), ops[i]? = some o → ∀ e ∈ o.after.toList, Region.binds .any e = true → e.on < i) ∧
    ∀ (i j : Nat) (o p : Oper), ops[i]? = some o → ops[j]? = some p → i ≠ j → okPair ops (befs ops.toList []) qs ap i j o p = true := by
  unfold drawn at h
  simp only at h
  split at h
  case isFalse => exact absurd h (by simp)
  rename_i hc
  injection h with h
  injection h with h h2
  rw [h2, h] at hc
  rw [List.all_eq_true] at hc
  have get : ∀ (i : Nat) (o : Oper), ops[i]? = some o → i ∈ List.range ops.toList.length ∧ ops.toList[i]? = some o := fun i o hi => ⟨by have := (Array.getElem?_eq_some_iff.1 hi).1; simpa using this, by simpa using hi⟩
  refine ⟨fun i o hi e he hb => ?_, fun i j o p hi hj hne => ?_⟩
  · have := hc i (get i o hi).1
    rw [(get i o hi).2] at this
    simp only [Bool.and_eq_true] at this
    have := List.all_eq_true.1 this.1 e he
    simpa [hb, Nat.blt_eq] using this
  · have := hc i (get i o hi).1
    rw [(get i o hi).2] at this
    simp only [Bool.and_eq_true] at this
    have := List.all_eq_true.1 this.2 j (get j p hj).1
    rw [(get j p hj).2] at this
    simp only [Bool.or_eq_true] at this
    rcases this with this | this
    · exact absurd (Nat.eq_of_beq_eq_true this) hne
    · exact this
def onlyT (l : List Nat) (φ : Fr) : Fr := l.filterMap fun t => (φ.get t).map fun v => (t, v)
theorem onlyT_get (l : List Nat) (φ : Fr) (t : Nat) : (onlyT l φ).get t = if t ∈ l then φ.get t else none := by
  induction l with
  | nil => simp [onlyT, Fr.get]
  | cons x l ih =>
    unfold onlyT at ih ⊢
    rw [List.filterMap_cons]
    cases hx : φ.get x with
    | none =>
      simp only [Option.map_none]
      rw [ih]
      by_cases e : t = x
      · subst e; simp [hx]
      · simp [e]
    | some v =>
      simp only [Option.map_some]
      rw [Fr.get_cons, ih]
      by_cases e : x = t
      · subst e; simp [hx]
      · rw [if_neg e]; simp [Ne.symm e]
theorem ldK_cell {R : Type} {σ : Store} {c : CK} {p : Ptr} {K : AV → Option R} (h : σ.cell p = none) : ldK σ c p K = none := by
  cases c <;> simp [ldK, Store.ldInt, Store.ldBool, Store.ldStr, Store.ldPtr, Store.ldSl, Store.ldMap, Store.ldFn, Store.ldIfc, h]
theorem ldT_lt {R : Type} {P : Program} {σ : Store} {t : TypeId} {b o : Nat} {K : AV → Option R} {r : R} (hk : ldT P σ t (some (b, o)) K = some r) : b < σ.objs.length := by
  by_cases h : b < σ.objs.length
  · exact h
  · exfalso
    have hc : ∀ i, σ.cell (Ptr.add (some (b, o)) i) = none := fun i => by simp only [Ptr.add, Option.map_some, Store.cell]; rw [List.getElem?_eq_none (by omega)]
    have hc0 : σ.cell (some (b, o)) = none := by simp only [Store.cell]; rw [List.getElem?_eq_none (by omega)]
    unfold ldT at hk
    split at hk
    · obtain ⟨cs, _, hk⟩ := Option.bind_eq_some_iff.1 hk
      split at hk
      · rename_i hcs
        cases cs with
        | nil => simp at hcs
        | cons c cs => simp only [ldL] at hk; rw [ldK_cell (hc 0)] at hk; cases hk
      · cases hk
    · split at hk
      · rw [ldK_cell hc0] at hk; cases hk
      · cases hk
theorem okPair_inv {ops : Array Oper} {B : List Nat} {qs i j : Nat} {ap : List (Nat × Nat)} {o p : Oper} (h : okPair ops B qs ap i j o p = true) :
    (∀ t, o.dst = some t → p.dst ≠ some t ∧ (t ∈ readsL ops p → (i < j ∧ bitOn (B.getD j 0) i = true) ∨ (j < i ∧ bitOn (B.getD i 0) j = true))) ∧
    (isE o.op = true → isE p.op = true → i ≤ j → bitOn (B.getD j 0) i = true ∨ (isA o.op = true ∧ isA p.op = true)) ∧
    (isE o.op = true → isLoad p.op = true → bitOn (B.getD j 0) i = true ∨ bitOn (B.getD i 0) j = true ∨ (isCallV o.op = true ∧ bitOn qs i = true) ∨ isA o.op = true ∨ freshSt ops i j o = true ∨ slR i j o p = true ∨ apSt ops ap o p = true) := by
  unfold okPair okLoad at h
  simp only [Bool.and_eq_true] at h
  obtain ⟨⟨h1, h2⟩, h3⟩ := h
  refine ⟨fun t ht => ?_, fun e1 e2 hij => ?_, fun e1 e2 => ?_⟩
  · rw [ht] at h1
    simp only [Bool.and_eq_true, Bool.or_eq_true, Bool.not_eq_true', bne_iff_ne, ne_eq] at h1
    refine ⟨h1.1, fun hm => ?_⟩
    rcases h1.2 with (h | h) | h
    · rw [List.contains_iff_mem.2 hm] at h; cases h
    · exact .inl ⟨by have := h.1; rwa [Nat.blt_eq] at this, h.2⟩
    · exact .inr ⟨by have := h.1; rwa [Nat.blt_eq] at this, h.2⟩
  · rw [e1, e2] at h2
    simp only [Bool.not_true, Bool.false_or, Bool.or_eq_true, Bool.and_eq_true] at h2
    rcases h2 with (h | h) | h
    · rw [Nat.blt_eq] at h; omega
    · exact .inl h
    · exact .inr h
  · rw [e1, e2] at h3
    simp only [Bool.not_true, Bool.false_or, Bool.or_eq_true, Bool.and_eq_true] at h3
    rcases h3 with (((((h | h) | h) | h) | h) | h) | h
    · exact .inl h
    · exact .inr (.inl h)
    · exact .inr (.inr (.inl h))
    · exact .inr (.inr (.inr (.inl h)))
    · exact .inr (.inr (.inr (.inr (.inl h))))
    · exact .inr (.inr (.inr (.inr (.inr (.inl h)))))
    · exact .inr (.inr (.inr (.inr (.inr (.inr h)))))
/-- A row's element size, behind an append, was there ahead. -/
theorem app_es {σ σ' : Store} {h h' : Hdl} {es by_ m : Nat} {xs : List AV} (ha : σ.app h es by_ xs m = some (h', σ')) {b : Nat} (hb : b < σ.objs.length) {l : List AV} {rw_ : Bool} {e : Nat} (hc : σ'.objs[b]? = some (.cells l rw_ e)) :
    ∃ l' rw', σ.objs[b]? = some (.cells l' rw' e) := by
  have push : ∀ {l' : List AV} {es' : Nat}, σ' = σ.push l' es' → ∃ l' rw', σ.objs[b]? = some (.cells l' rw' e) := fun {l' es'} he => by
    rw [he] at hc; simp only [Store.push] at hc
    rw [List.getElem?_append_left hb] at hc; exact ⟨_, _, hc⟩
  have set : ∀ {c : Nat} {l0 l' : List AV} {r0 r' : Bool} {e0 : Nat}, σ.objs[c]? = some (.cells l0 r0 e0) → σ'.objs = σ.objs.set c (.cells l' r' e0) → ∃ l' rw', σ.objs[b]? = some (.cells l' rw' e) := fun {c l0 l' r0 r' e0} h0 he => by
    rw [he, List.getElem?_set] at hc
    by_cases d : c = b
    · subst d
      rw [if_pos rfl, if_pos hb] at hc
      injection hc with hc; injection hc with _ _ hc
      subst hc; exact ⟨_, _, h0⟩
    · rw [if_neg d] at hc; exact ⟨_, _, hc⟩
  have dead : ∀ {c : Nat} {l' : List AV} {es' : Nat}, σ'.objs = σ.objs.set c .dead ++ [.cells l' true es'] → ∃ l' rw', σ.objs[b]? = some (.cells l' rw' e) := fun {c l' es'} he => by
    rw [he, List.getElem?_append_left (by simpa using hb), List.getElem?_set] at hc
    by_cases d : c = b
    · subst d; rw [if_pos rfl, if_pos hb] at hc; cases hc
    · rw [if_neg d] at hc; exact ⟨_, _, hc⟩
  unfold Store.app at ha
  split at ha
  · injection ha with ha; simp only [Prod.mk.injEq] at ha; rw [← ha.2] at hc; exact ⟨_, _, hc⟩
  · split at ha
    · split at ha
      · injection ha with ha; simp only [Prod.mk.injEq] at ha; exact push ha.2.symm
      · split at ha
        · rename_i l0 rw0 es0 hrow
          split at ha
          · rename_i hcd
            obtain ⟨_, rfl⟩ := hcd
            split at ha
            · split at ha
              · split at ha
                · injection ha with ha; simp only [Prod.mk.injEq] at ha; exact set hrow (by rw [← ha.2])
                · exact absurd ha (by simp)
              · injection ha with ha; simp only [Prod.mk.injEq] at ha; exact push ha.2.symm
            · split at ha
              · injection ha with ha; simp only [Prod.mk.injEq] at ha; exact dead (by rw [← ha.2])
              · exact absurd ha (by simp)
          · exact absurd ha (by simp)
        · exact absurd ha (by simp)
    · exact absurd ha (by simp)
theorem evBuiltin_es {P : Program} {b : Builtin} {ts : List TypeId} {args : List AV} {σ σ' : Store} {v : AV} (hbb : b = .append) (h : evBuiltin P b ts args σ (fun v σ' => some (v, σ')) = some (v, σ')) {c : Nat} (hb : c < σ.objs.length) {l : List AV} {rw_ : Bool} {e : Nat} (hc : σ'.objs[c]? = some (.cells l rw_ e)) :
    ∃ l' rw', σ.objs[c]? = some (.cells l' rw' e) := by
  unfold evBuiltin at h
  split at h
  · cases hbb
  · cases hbb
  · cases hbb
  · cases hbb
  · split at h
    · split at h
      · split at h
        · split at h
          · obtain ⟨xs, _, h⟩ := Option.bind_eq_some_iff.1 h
            obtain ⟨⟨h', σ1⟩, hr, h⟩ := Option.bind_eq_some_iff.1 h
            injection h with h; simp only [Prod.mk.injEq] at h
            rw [← h.2] at hc
            exact app_es hr hb hc
          · exact absurd h (by simp)
        · exact absurd h (by simp)
      · exact absurd h (by simp)
    · exact absurd h (by simp)
  · exact absurd h (by simp)
theorem evOpD_es {P : Program} {Γ : Gam} {q : Bool} {ty : TypeId} {φ : Fr} {σ σ' : Store} {op : Op} {v : AV} (ho : isApp op = true) (h : evOpD P Γ q ty φ σ op = some (v, σ')) {c : Nat} (hb : c < σ.objs.length) {l : List AV} {rw_ : Bool} {e : Nat} (hc : σ'.objs[c]? = some (.cells l rw_ e)) :
    ∃ l' rw', σ.objs[c]? = some (.cells l' rw' e) := by
  unfold isApp at ho
  split at ho
  · rename_i cl
    split at ho
    · rename_i hcal
      unfold evOpD at h
      simp only [evOp, hcal] at h
      obtain ⟨args, _, h⟩ := Option.bind_eq_some_iff.1 h
      exact evBuiltin_es rfl h hb hc
    · cases ho
  · cases ho
/-- A store turns one row alone. -/
theorem st_row_only {σ σ' : Store} {p : Ptr} {v : AV} (h : σ.st p v = some σ') {b : Nat} (hb : ∀ o, p ≠ some (b, o)) : σ'.objs[b]? = σ.objs[b]? := by
  cases p with
  | none => simp [Store.st] at h
  | some x =>
    obtain ⟨c, o⟩ := x
    simp only [Store.st] at h
    split at h
    · split at h
      · injection h with h; subst h
        show (σ.objs.set c _)[b]? = _
        rw [List.getElem?_set, if_neg (fun e => hb o (by rw [e]))]
      · cases h
    · cases h
theorem stL_row_only (l : List AV) : ∀ {σ σ' : Store} {p : Ptr} {i : Nat} (_ : σ.stL p l i = some σ') {b : Nat} (_ : ∀ o, p ≠ some (b, o)), σ'.objs[b]? = σ.objs[b]? := by
  induction l with
  | nil => intro σ σ' p i h b hb; simp only [Store.stL] at h; injection h with h; rw [h]
  | cons v l ih =>
    intro σ σ' p i h b hb
    simp only [Store.stL] at h
    obtain ⟨σ1, h1, h2⟩ := Option.bind_eq_some_iff.1 h
    rw [ih h2 hb]
    refine st_row_only h1 fun o e => ?_
    cases p with
    | none => simp [Ptr.add] at e
    | some x => obtain ⟨c, q⟩ := x; simp [Ptr.add] at e; exact hb q (by rw [e.1])
theorem freshSt_inv {ops : Array Oper} {i j : Nat} {o : Oper} (h : freshSt ops i j o = true) : ∃ ty t y m a, o.op = .store ty (.tmp t) y ∧ j < m ∧ m < i ∧ ops[m]? = some a ∧ isA a.op = true ∧ a.dst = some t := by
  unfold freshSt at h
  split at h
  · rename_i ty t y he
    obtain ⟨m, hm, h⟩ := List.any_eq_true.1 h
    simp only [Bool.and_eq_true] at h
    obtain ⟨h1, h2⟩ := h
    split at h2
    · rename_i a ha
      simp only [Bool.and_eq_true, beq_iff_eq] at h2
      exact ⟨ty, t, y, m, a, he, by rwa [Nat.blt_eq] at h1, List.mem_range.1 hm, ha, h2.1, h2.2⟩
    · cases h2
  · cases h
/-- A store with rows behind. -/
def Ext (σ σ' : Store) : Prop := σ'.prot = σ.prot ∧ ∃ more, σ'.objs = σ.objs ++ more
theorem Ext.refl (σ : Store) : Ext σ σ := ⟨rfl, [], by simp⟩
theorem Ext.trans {σ σ1 σ2 : Store} (h : Ext σ σ1) (k : Ext σ1 σ2) : Ext σ σ2 := by
  obtain ⟨h1, m, h2⟩ := h
  obtain ⟨k1, m', k2⟩ := k
  exact ⟨k1.trans h1, m ++ m', by rw [k2, h2, List.append_assoc]⟩
theorem Ext.push (σ : Store) (l : List AV) (es : Nat) : Ext σ (σ.push l es) := ⟨rfl, _, rfl⟩
theorem Ext.len {σ σ' : Store} (h : Ext σ σ') : σ.objs.length ≤ σ'.objs.length := by obtain ⟨_, m, h⟩ := h; rw [h]; simp
theorem Ext.get {σ σ' : Store} (h : Ext σ σ') {b : Nat} (hb : b < σ.objs.length) : σ'.objs[b]? = σ.objs[b]? := by obtain ⟨_, m, h⟩ := h; rw [h, List.getElem?_append_left hb]
/-- Rows behind, of which nothing stands in the memory yet. -/
theorem Ste.grow {μ : Mu} {σ σ' : Store} {w : World} (h : Rel μ σ w) (he : Ext σ σ') : Ste μ σ w μ σ' w := by
  have hg : ∀ b L, μ b = some L → σ'.objs[b]? = σ.objs[b]? := fun b L hb => he.get (h.dom b L hb)
  refine ⟨⟨fun b L hb => Nat.lt_of_lt_of_le (h.dom b L hb) he.len, h.dat, ?_, ?_, ?_, ?_⟩, fun _ _ => rfl, he.len, he.1, fun b _ hb => he.get hb, Nat.le_refl _, rfl, rfl, rfl, fun _ _ _ => rfl, ?_⟩
  · intro b l rw es L ho hb; rw [hg b L hb] at ho; exact h.cells b l rw es L ho hb
  · intro b l es L ho hb; rw [hg b L hb] at ho; exact h.rw b l es L ho hb
  · intro b o L ho hx hb; rw [hg b L hb] at ho; exact h.obj b o L ho hx hb
  · intro b b' o o' L L' h1 h2 h3 h4 h5 h6 h7; rw [hg b L h6] at h1; rw [hg b' L' h7] at h3; exact h.sep b b' o o' L L' h1 h2 h3 h4 h5 h6 h7
  · rintro c ⟨b, o, L, ho, hf, hp, hL, hc⟩ _
    rw [hg b L hL] at ho
    exact ⟨b, o, L, ho, hf, by rw [← he.1]; exact hp, hL, hc⟩
/-- A row that was told beforehand, laid now. -/
theorem Ste.late {μ0 μ : Mu} {σ0 σ : Store} {w0 w : World} (h0 : Ste μ0 σ0 w0 μ σ w) {m : Nat} (hm : μ m = none) (hm0 : σ0.objs.length ≤ m) {l : List AV} {es : Nat} (hr : σ.objs[m]? = some (.cells l true es))
    {cs : Array Value} (hv : VL μ l (cs.toList.take l.length)) (hl : l.length ≤ cs.size) (ty : TypeId) : Ste μ0 σ0 w0 (μ.up m ⟨w.heap.size, 0, cs.size, es⟩) σ (w.alloc (.cells cs ty (0, 0))) := by
  have h := h0.rel
  have hml : m < σ.objs.length := (List.getElem?_eq_some_iff.1 hr).1
  have hnew : (w.alloc (.cells cs ty (0, 0))).heap[w.heap.size]? = some (.cells cs ty (0, 0)) := by
    show (w.heap.push _)[w.heap.size]? = _; simp
  have hold : ∀ c, c < w.heap.size → (w.alloc (.cells cs ty (0, 0))).heap[c]? = w.heap[c]? := fun c hc => Below.heap_alloc w _ c hc
  have hne : ∀ b L, μ b = some L → b ≠ m := fun b L hb e => by rw [e, hm] at hb; cases hb
  have hmono : ∀ b L, μ b = some L → (μ.up m ⟨w.heap.size, 0, cs.size, es⟩) b = some L := fun b L hb => by rw [Mu.up_ne _ _ (hne b L hb)]; exact hb
  have hsz : (w.alloc (.cells cs ty (0, 0))).heap.size = w.heap.size + 1 := by show (w.heap.push _).size = _; simp
  refine ⟨⟨?_, ?_, ?_, ?_, ?_, ?_⟩, ?_, h0.len, h0.prot, h0.keep, by have := h0.size; omega, h0.os, h0.tape, h0.output, ?_, ?_⟩
  · intro b L hb
    by_cases e : b = m
    · omega
    · rw [Mu.up_ne _ _ e] at hb; exact h.dom b L hb
  · intro b L hb
    by_cases e : b = m
    · subst e; rw [Mu.up_self] at hb; injection hb with hb; subst hb; exact .inl ⟨_, _, _, hnew⟩
    · rw [Mu.up_ne _ _ e] at hb; exact (h.dat b L hb).of (hold _ (h.lt b L hb))
  · intro b k rw es' L ho hb
    by_cases e : b = m
    · subst e
      rw [hr] at ho
      injection ho with ho; injection ho with h1 h2 h3; subst h1 h2 h3
      rw [Mu.up_self] at hb; injection hb with hb; subst hb
      refine ⟨rfl, hl, fun j v hj => ?_⟩
      have hjl : j < l.length := (List.getElem?_eq_some_iff.1 hj).1
      have hjc : j < cs.size := by omega
      refine ⟨cs[j], ?_, (hv.2 j v cs[j] hj ?_).mono hmono⟩
      · simp only [World.cell?, hnew]; simp [hjc]
      · rw [List.getElem?_take, if_pos hjl]; simp [hjc]
    · rw [Mu.up_ne _ _ e] at hb
      obtain ⟨h1, h2, h3⟩ := h.cells b k rw es' L ho hb
      exact ⟨h1, h2, fun j v hj => by obtain ⟨c, hc, hv'⟩ := h3 j v hj; exact ⟨c, (cell_of_block (hold _ (h.lt b L hb))).trans hc, hv'.mono hmono⟩⟩
  · intro b k es' L ho hb
    by_cases e : b = m
    · subst e
      rw [Mu.up_self] at hb; injection hb with hb; subst hb
      exact ⟨cs, ty, hnew, by simp⟩
    · rw [Mu.up_ne _ _ e] at hb
      rw [hold _ (h.lt b L hb)]
      exact h.rw b k es' L ho hb
  · intro b k L ho hx hb
    by_cases e : b = m
    · subst e; rw [hr] at ho; injection ho with ho; subst ho; cases hx
    · rw [Mu.up_ne _ _ e] at hb
      rw [hold _ (h.lt b L hb)]
      obtain ⟨ob, h1, h2⟩ := h.obj b k L ho hx hb
      exact ⟨ob, h1, h2.mono hmono⟩
  · intro b b' o o' L L' h1 h2 h3 h4 h5 h6 h7
    by_cases e : b = m
    · have e' : b' ≠ m := fun x => h5 (e.trans x.symm)
      rw [Mu.up_ne _ _ e'] at h7
      subst e
      rw [Mu.up_self] at h6; injection h6 with h6; subst h6
      have := h.lt b' L' h7
      dsimp only; omega
    · rw [Mu.up_ne _ _ e] at h6
      by_cases e' : b' = m
      · subst e'
        rw [Mu.up_self] at h7; injection h7 with h7; subst h7
        have := h.lt b L h6
        dsimp only; omega
      · rw [Mu.up_ne _ _ e'] at h7
        exact h.sep b b' o o' L L' h1 h2 h3 h4 h5 h6 h7
  · intro b hb; rw [Mu.up_ne _ _ (by omega)]; exact h0.agree b hb
  · intro c hc hn
    rw [hold c (Nat.lt_of_lt_of_le hc h0.size)]; exact h0.pres c hc hn
  · rintro c ⟨b, o, L, ho, hf, hp, hL, rfl⟩ hc
    by_cases e : b = m
    · subst e
      rw [Mu.up_self] at hL; injection hL with hL; subst hL
      have := h0.size
      simp only at hc; omega
    · rw [Mu.up_ne _ _ e] at hL
      exact h0.own _ ⟨b, o, L, ho, hf, hp, hL, rfl⟩ hc
theorem lays_all {P : Program} {Γ : Gam} {μ : Mu} {σ : Store} {w : World} {φ : Fr} {a : Act} {nt : Nat} {q : Bool} {ty : TypeId} {R : Type} {K : AV → Store → Option R} {r : R} (hF : FrR nt μ φ a) {o : Oper} (hA : isA o.op = true) (h : evOp P Γ q ty φ σ K o.op = some r) :
    ∃ l es mk, K (mk σ.objs.length) (σ.push l es) = some r ∧ Lays P μ w (execOp a.eval o) l es mk := by
  cases ho : o.op with
  | alloc t => rw [ho] at h; exact lays_alloc h ho
  | box t x => rw [ho] at h; exact lays_box hF h ho
  | makeSlice t l c => rw [ho] at h; exact lays_makeSlice hF h ho
  | buildSlice t l c => rw [ho] at h; exact lays_buildSlice hF h ho
  | _ => rw [ho] at hA; simp [isA] at hA
theorem isA_isE {op : Op} (h : isA op = true) : isE op = true := by cases op <;> first | rfl | (simp [isA] at h)
/-- Operations whose order must be the text's. -/
def isN (op : Op) : Bool := isE op && !isA op
section
variable {P : Program} {Γ : Gam} {nt qs : Nat} {ap : List (Nat × Nat)} {ops : Array Oper} {ro : Option Nat} {n : Nat}
theorem drawn_any (hΓ : GS P Γ) (hK : GK Γ) (hdr : drawn ops = some (qs, ap)) {X : Nat → Bool} {V : Nat → AV} {S : Nat → Store} {Φ : Nat → Fr} {φ : Fr} (hΦ0 : ∀ t, (Φ 0).get t = φ.get t) (hap : Apart φ ap)
    (hst : ∀ (k : Nat) (o : Oper), ops[k]? = some o → Step P Γ nt ops (bitOn qs k) o (Φ k) (S k) (X k) (V k) (Φ (k + 1)) (S (k + 1)))
    {μ0 : Mu} {w0 : World} {a0 : Act} (hR0 : Rel μ0 (S 0) w0) (hnt : nt ≤ a0.tmps.size) {Q : Exit → Act → World → Prop}
    (hQ : ∀ μ' a' w', FrR nt μ' (Φ ops.size) a' → Ste μ0 (S 0) w0 μ' (S ops.size) w' → a'.defers = a0.defers → Q .normal a' w') (fuel : Nat) : ∀ (listed : Array Bool) (a : Act) (w : World) (μ : Mu) (e : Nat)
    (_ : listed.size = ops.size) (_ : ((List.range ops.size).filter fun i => !listed.getD i true).length ≤ fuel)
    (_ : ∀ (i : Nat) (o : Oper), ops[i]? = some o → listed.getD i false = true → ∀ e ∈ o.after.toList, Region.binds .any e = true → listed.getD e.on false = true)
    (_ : e ≤ ops.size) (_ : ∀ (k : Nat) (o : Oper), k < e → ops[k]? = some o → X k = true → isN o.op = true → listed.getD k false = true)
    (_ : ∀ (o : Oper), ops[e]? = some o → X e = true ∧ isN o.op = true ∧ listed.getD e false = false)
    (_ : ∀ (k : Nat) (o : Oper), k < e → ops[k]? = some o → X k = true → isA o.op = true → listed.getD k false = false → μ (S k).objs.length = none ∧ (S e).objs[(S k).objs.length]? = (S (k + 1)).objs[(S k).objs.length]?)
    (_ : Ste μ0 (S 0) w0 μ (S e) w) (_ : nt ≤ a.tmps.size) (_ : a.defers = a0.defers)
    (_ : ∀ (i : Nat) (o : Oper) (t : Nat), ops[i]? = some o → listed.getD i false = true → o.dst = some t → VR μ (V i) (a.tmps.getD t undef))
    (_ : ∀ (t : Nat) (v : AV), (∀ (i : Nat) (o : Oper), ops[i]? = some o → listed.getD i false = true → o.dst ≠ some t) → φ.get t = some v → VR μ v (a.tmps.getD t undef)),
    wpAnyIn (W ro) n P .any ops Q fuel listed a w := by
  obtain ⟨hE, hPair⟩ := drawn_inv hdr
  -- the frame of the text's order
  have hΦ : ∀ (i t : Nat), i ≤ ops.size → (∃ (k : Nat) (o : Oper), k < i ∧ ops[k]? = some o ∧ o.dst = some t ∧ (Φ i).get t = some (V k)) ∨ ((∀ (k : Nat) (o : Oper), k < i → ops[k]? = some o → o.dst ≠ some t) ∧ (Φ i).get t = φ.get t) := by
    intro i t
    induction i with
    | zero => intro _; exact .inr ⟨fun k o hk => by omega, hΦ0 t⟩
    | succ i ih =>
      intro hi
      have ho : ops[i]? = some ops[i] := by simp [show i < ops.size by omega]
      have hget := (hst i _ ho).get t
      by_cases c : ops[i].dst = some t
      · rw [if_pos c] at hget
        exact .inl ⟨i, _, by omega, ho, c, hget⟩
      · rw [if_neg c] at hget
        rcases ih (by omega) with ⟨k, o, h1, h2, h3, h4⟩ | ⟨h1, h2⟩
        · exact .inl ⟨k, o, by omega, h2, h3, hget.trans h4⟩
        · refine .inr ⟨fun k o hk hko => ?_, hget.trans h2⟩
          by_cases e : k = i
          · subst e; rw [ho] at hko; injection hko with hko; subst hko; exact c
          · exact h1 k o (by omega) hko
  -- an operation that is none of the ordered ones leaves the store
  have hSame : ∀ (k : Nat) (o : Oper), ops[k]? = some o → ¬ (X k = true ∧ isE o.op = true) → S (k + 1) = S k := by
    intro k o ho hn
    have st := hst k o ho
    cases hx : X k with
    | false => exact (st.skip hx).2
    | true =>
      have hne : isE o.op = false := by
        cases h : isE o.op with
        | false => rfl
        | true => exact absurd ⟨hx, h⟩ hn
      unfold isE at hne
      have hex := st.exec hx
      by_cases hp : pureOp o.op = true
      · exact (pureD hp hex).1
      · have hl : isLoad o.op = true := by simpa [hp] using hne
        exact (evOpD_pre hK hex).2.1 hl
  have hLen : ∀ (k : Nat), k < ops.size → (S k).objs.length ≤ (S (k + 1)).objs.length := by
    intro k hk
    have st := hst k ops[k] (by simp [hk])
    cases hx : X k with
    | false => rw [(st.skip hx).2]; exact Nat.le_refl _
    | true => exact (evOpD_pre hK (st.exec hx)).1.len
  have hPush : ∀ (k : Nat) (o : Oper), ops[k]? = some o → X k = true → isA o.op = true → ∃ l es, S (k + 1) = (S k).push l es := by
    intro k o ho hx hA
    obtain ⟨l, es, mk, _, h, _⟩ := alloc_eq hA ((hst k o ho).exec hx)
    exact ⟨l, es, h⟩
  have hExt1 : ∀ (k : Nat) (o : Oper), ops[k]? = some o → ¬ (X k = true ∧ isN o.op = true) → Ext (S k) (S (k + 1)) := by
    intro k o ho hn
    by_cases hA : X k = true ∧ isA o.op = true
    · obtain ⟨l, es, h⟩ := hPush k o ho hA.1 hA.2
      rw [h]; exact Ext.push ..
    · rw [hSame k o ho (fun h => by
        cases hAo : isA o.op with
        | true => exact hA ⟨h.1, hAo⟩
        | false => exact hn ⟨h.1, by simp [isN, h.2, hAo]⟩)]
      exact Ext.refl _
  have hExt : ∀ (d i : Nat), i + d ≤ ops.size → (∀ (k : Nat) (o : Oper), i ≤ k → k < i + d → ops[k]? = some o → ¬ (X k = true ∧ isN o.op = true)) → Ext (S i) (S (i + d)) := by
    intro d
    induction d with
    | zero => intro i _ _; exact Ext.refl _
    | succ d ihd =>
      intro i hi hq
      exact (ihd i (by omega) (fun k o h1 h2 => hq k o h1 (by omega))).trans (hExt1 (i + d) ops[i + d] (by simp [show i + d < ops.size by omega]) (hq (i + d) _ (by omega) (by omega) (by simp [show i + d < ops.size by omega])))
  have hLenLe : ∀ (d i : Nat), i + d ≤ ops.size → (S i).objs.length ≤ (S (i + d)).objs.length := by
    intro d
    induction d with
    | zero => intro i _; exact Nat.le_refl _
    | succ d ihd => intro i hi; exact Nat.le_trans (ihd i (by omega)) (hLen (i + d) (by omega))
  have hLenA : ∀ (k : Nat) (o : Oper), ops[k]? = some o → X k = true → isA o.op = true → ∀ j, k < j → j ≤ ops.size → (S k).objs.length < (S j).objs.length := by
    intro k o ho hx hA j hj hjs
    obtain ⟨l, es, h⟩ := hPush k o ho hx hA
    have h1 := hLenLe (j - (k + 1)) (k + 1) (by omega)
    rw [show k + 1 + (j - (k + 1)) = j by omega, h] at h1
    simp [Store.push] at h1; omega
  -- from one place of the text to a later one, where all between is quiet
  have hChain : ∀ (b d i : Nat), i + d ≤ ops.size → (∀ (k : Nat) (o : Oper), i ≤ k → k < i + d → ops[k]? = some o → X k = true → isE o.op = true → (isCallV o.op = true ∧ bitOn qs k = true) ∨ isA o.op = true ∨ (b < (S i).objs.length → (S (k + 1)).objs[b]? = (S k).objs[b]?)) →
      (S i).objs.length ≤ (S (i + d)).objs.length ∧ (b < (S i).objs.length → (S (i + d)).objs[b]? = (S i).objs[b]?) := by
    intro b d
    induction d with
    | zero => intro i _ _; exact ⟨Nat.le_refl _, fun _ => rfl⟩
    | succ d ihd =>
      intro i hi hq
      obtain ⟨h1, h2⟩ := ihd i (by omega) (fun k o hk1 hk2 => hq k o hk1 (by omega))
      have ho : ops[i + d]? = some ops[i + d] := by simp [show i + d < ops.size by omega]
      refine ⟨Nat.le_trans h1 (hLen (i + d) (by omega)), fun hb => ?_⟩
      rw [← h2 hb]
      show (S (i + d + 1)).objs[b]? = _
      by_cases hx : X (i + d) = true ∧ isE ops[i + d].op = true
      · rcases hq (i + d) _ (by omega) (by omega) ho hx.1 hx.2 with ⟨q1, q2⟩ | q | q
        · exact (evOpD_pre hK ((hst _ _ ho).exec hx.1)).2.2 q1 q2 b (Nat.lt_of_lt_of_le hb h1)
        · obtain ⟨l, es, h⟩ := hPush _ _ ho hx.1 q
          rw [h]; exact (Ext.push ..).get (Nat.lt_of_lt_of_le hb h1)
        · exact q hb
      · rw [hSame _ _ ho hx]
  -- a store into a row that is laid behind a place
  have hFresh : ∀ (k i : Nat) (p : Oper), ops[k]? = some p → X k = true → freshSt ops k i p = true → ∀ b, b < (S i).objs.length → (S (k + 1)).objs[b]? = (S k).objs[b]? := by
    intro k i p hkp hxk hf b hb
    obtain ⟨ty, t, y, m, al, h1, h2, h3, h4, h5, h6⟩ := freshSt_inv hf
    have hks : k < ops.size := (Array.getElem?_eq_some_iff.1 hkp).1
    have hex := (hst k p hkp).exec hxk
    rw [h1] at hex
    unfold evOpD at hex
    simp only [evOp] at hex
    split at hex
    · rename_i q v hq hv
      split at hex
      · obtain ⟨σ1, g1, g2⟩ := Option.bind_eq_some_iff.1 hex
        injection g2 with g2
        simp only [Prod.mk.injEq] at g2
        rw [← g2.2]
        refine stL_row_only _ g1 fun o' e => ?_
        -- where the pointer comes from
        have hq' : (Φ k).get t = some (.ptr q) := hq
        rcases hΦ k t (by omega) with ⟨k2, o2, c1, c2, c3, c4⟩ | ⟨c1, c2⟩
        · have : k2 = m := by
            by_cases e2 : k2 = m
            · exact e2
            · exact absurd h6 ((okPair_inv (hPair k2 m o2 al c2 h4 e2)).1 t c3).1
          subst this
          rw [h4] at c2; injection c2 with c2; subst c2
          rw [c4] at hq'; injection hq' with hq'
          cases hxm : X k2 with
          | false => rw [((hst k2 al h4).skip hxm).1] at hq'; cases hq'
          | true =>
            obtain ⟨l, es, mk, d1, d2, _, d4⟩ := alloc_eq h5 ((hst k2 al h4).exec hxm)
            rw [d1] at hq'
            have hle := hLenLe (k2 - i) i (by omega)
            rw [show i + (k2 - i) = k2 by omega] at hle
            rcases d4 with rfl | ⟨x1, x2, rfl⟩
            · injection hq' with hq'
              rw [← hq'] at e
              injection e with e; injection e with e _
              omega
            · cases hq'
        · exact absurd h6 (c1 m al h3 h4)
      · cases hex
    · cases hex
  -- a store at a place that is another row than a load's
  have hApart : ∀ (k i : Nat) (p o : Oper) (ty : TypeId) (x : Operand) (b off : Nat), ops[k]? = some p → ops[i]? = some o → X k = true → apSt ops ap p o = true → o.op = .load ty x → (Φ i).ev x = some (.ptr (some (b, off))) → (S (k + 1)).objs[b]? = (S k).objs[b]? := by
    intro k i p o ty x b off hkp hio hxk hs hop hx
    unfold apSt at hs
    split at hs
    case h_2 => cases hs
    rename_i st hst2
    obtain ⟨s0, t0⟩ := st
    simp only [Bool.and_eq_true, List.all_eq_true] at hs
    obtain ⟨hs1, hs2⟩ := hs
    obtain ⟨y, hy, hy2⟩ := List.any_eq_true.1 hs1
    simp only [Bool.and_eq_true] at hy2
    obtain ⟨y0, y1⟩ := y
    have e0 := Nat.eq_of_beq_eq_true hy2.1
    have e1 := Nat.eq_of_beq_eq_true hy2.2
    simp only at e0 e1
    subst e0 e1
    have hno : ∀ (z : Nat) (oz : Oper), ops[z]? = some oz → oz.dst ≠ some y0 ∧ oz.dst ≠ some y1 := fun z oz hz => by
      have := hs2 oz (List.mem_of_getElem? (by simpa using hz : ops.toList[z]? = some oz))
      simpa using this
    have frame : ∀ (z t : Nat), z ≤ ops.size → (∀ (q : Nat) (oz : Oper), ops[q]? = some oz → oz.dst ≠ some t) → (Φ z).get t = φ.get t := fun z t hz hn => by
      rcases hΦ z t hz with ⟨k2, o2, c1, c2, c3, c4⟩ | ⟨c1, c2⟩
      · exact absurd c3 (hn k2 o2 c2)
      · exact c2
    have hks : k < ops.size := (Array.getElem?_eq_some_iff.1 hkp).1
    have his : i < ops.size := (Array.getElem?_eq_some_iff.1 hio).1
    unfold pairSt at hst2
    split at hst2
    case h_2 => cases hst2
    rename_i ty1 s1 v1 ty2 t1 g1 g2
    injection hst2 with hst2
    simp only [Prod.mk.injEq] at hst2
    obtain ⟨rfl, rfl⟩ := hst2
    rw [hop] at g2
    injection g2 with _ g2
    subst g2
    obtain ⟨P1, Q1, a1, a2, a3⟩ := hap _ hy
    simp only at a1 a2
    have hx' : (Φ i).get t1 = some (.ptr (some (b, off))) := hx
    rw [frame i t1 (by omega) (fun q oz hq => (hno q oz hq).2), a2] at hx'
    injection hx' with hx'; injection hx' with hx'
    have hex := (hst k p hkp).exec hxk
    rw [g1] at hex
    unfold evOpD at hex
    simp only [evOp] at hex
    split at hex
    · rename_i q v hq hv
      split at hex
      · obtain ⟨σ1, g1, g2⟩ := Option.bind_eq_some_iff.1 hex
        injection g2 with g2
        simp only [Prod.mk.injEq] at g2
        rw [← g2.2]
        refine stL_row_only _ g1 fun o' e => ?_
        have hq' : (Φ k).get s1 = some (.ptr q) := hq
        rw [frame k s1 (by omega) (fun q oz hq => (hno q oz hq).1), a1] at hq'
        injection hq' with hq'; injection hq' with hq'
        rw [hq', e, hx'] at a3
        simp [Ptr.off] at a3
      · cases hex
    · cases hex
  -- the next one of the ordered operations
  have hNext : ∀ (d m : Nat), m + d = ops.size → ∃ e', m ≤ e' ∧ e' ≤ ops.size ∧ (∀ (k : Nat) (o : Oper), m ≤ k → k < e' → ops[k]? = some o → ¬ (X k = true ∧ isN o.op = true)) ∧ (∀ (o : Oper), ops[e']? = some o → X e' = true ∧ isN o.op = true) := by
    intro d
    induction d with
    | zero => intro m hm; exact ⟨m, Nat.le_refl _, by omega, fun k o h1 h2 => by omega, fun o ho => by have := (Array.getElem?_eq_some_iff.1 ho).1; omega⟩
    | succ d ihd =>
      intro m hm
      have ho : ops[m]? = some ops[m] := by simp [show m < ops.size by omega]
      by_cases hx : X m = true ∧ isN ops[m].op = true
      · exact ⟨m, Nat.le_refl _, by omega, fun k o h1 h2 => by omega, fun o ho' => by rw [ho] at ho'; injection ho' with ho'; subst ho'; exact hx⟩
      · obtain ⟨e', h1, h2, h3, h4⟩ := ihd (m + 1) (by omega)
        refine ⟨e', by omega, h2, fun k o hk1 hk2 hko => ?_, h4⟩
        by_cases e : k = m
        · subst e; rw [ho] at hko; injection hko with hko; subst hko; exact hx
        · exact h3 k o (by omega) hk2 hko
  -- all is listed where nothing is ready
  have hAll : ∀ (listed : Array Bool), listed.size = ops.size → Region.ready .any ops listed = [] → ∀ i, i < ops.size → listed.getD i false = true := by
    intro listed hsz hr i
    induction i using Nat.strongRecOn with
    | _ i ih =>
      intro hi
      cases hl : listed.getD i false with
      | true => rfl
      | false =>
        exfalso
        have ho : ops[i]? = some ops[i] := by simp [hi]
        have : i ∈ Region.ready .any ops listed := by
          unfold Region.ready
          rw [List.mem_filter]
          refine ⟨List.mem_range.2 hi, ?_⟩
          have h1 : listed.getD i true = false := by
            have : i < listed.size := by omega
            simp [Array.getD, this] at hl ⊢; exact hl
          rw [h1, ho]
          simp only [Bool.not_false, Bool.true_and, Option.map_some, Option.getD_some]
          rw [Array.all_eq_true']
          intro e he
          cases hb : Region.binds .any e with
          | false => simp
          | true =>
            have hon := hE i _ ho e (by simpa using he) hb
            simp only [Bool.not_true, Bool.false_or]
            exact ih e.on hon (by omega)
        rw [hr] at this; cases this
  -- the end
  have hEnd : ∀ (listed : Array Bool) (a : Act) (w : World) (μ : Mu) (e : Nat), (∀ i, i < ops.size → listed.getD i false = true) → e ≤ ops.size → (∀ (o : Oper), ops[e]? = some o → X e = true ∧ isN o.op = true ∧ listed.getD e false = false) →
      Ste μ0 (S 0) w0 μ (S e) w → nt ≤ a.tmps.size → a.defers = a0.defers →
      (∀ (i : Nat) (o : Oper) (t : Nat), ops[i]? = some o → listed.getD i false = true → o.dst = some t → VR μ (V i) (a.tmps.getD t undef)) →
      (∀ (t : Nat) (v : AV), (∀ (i : Nat) (o : Oper), ops[i]? = some o → listed.getD i false = true → o.dst ≠ some t) → φ.get t = some v → VR μ v (a.tmps.getD t undef)) → Q .normal a w := by
    intro listed a w μ e hall he1 he3 hS hnta hdf hfr1 hfr2
    have hen : e = ops.size := by
      rcases Nat.lt_or_ge e ops.size with h | h
      · have := (he3 ops[e] (by simp [h])).2.2
        rw [hall e h] at this; cases this
      · omega
    subst hen
    refine hQ μ a w ⟨fun t v ht => ?_, hnta⟩ hS hdf
    rcases hΦ ops.size t (Nat.le_refl _) with ⟨k, o, h1, h2, h3, h4⟩ | ⟨h1, h2⟩
    · rw [h4] at ht; injection ht with ht; subst ht
      exact hfr1 k o t h2 (hall k h1) h3
    · rw [h2] at ht
      exact hfr2 t v (fun i o hi _ => h1 i o (Array.getElem?_eq_some_iff.1 hi).1 hi) ht
  induction fuel with
  | zero =>
    intro listed a w μ e hsz hcnt hcl he1 he2 he3 hAq hS hnta hdf hfr1 hfr2
    have hnil : (List.range ops.size).filter (fun i => !listed.getD i true) = [] := List.eq_nil_of_length_eq_zero (by omega)
    have hall : ∀ i, i < ops.size → listed.getD i false = true := by
      intro i hi
      have := List.filter_eq_nil_iff.1 hnil i (List.mem_range.2 hi)
      have hlt : i < listed.size := by omega
      simp [Array.getD, hlt] at this ⊢; exact this
    refine ⟨?_, hEnd listed a w μ e hall he1 he3 hS hnta hdf hfr1 hfr2⟩
    unfold Region.ready
    rw [List.filter_eq_nil_iff]
    intro i hi
    have := hall i (List.mem_range.1 hi)
    have hlt : i < listed.size := by have := List.mem_range.1 hi; omega
    simp [Array.getD, hlt] at this ⊢
    intro h; rw [this] at h; cases h
  | succ fuel ih =>
    intro listed a w μ e hsz hcnt hcl he1 he2 he3 hAq hS hnta hdf hfr1 hfr2
    refine ⟨fun hr => hEnd listed a w μ e (hAll listed hsz hr) he1 he3 hS hnta hdf hfr1 hfr2, fun i hi => ?_⟩
    unfold Region.ready at hi
    rw [List.mem_filter] at hi
    obtain ⟨hin, hi⟩ := hi
    have hin := List.mem_range.1 hin
    have ho : ops[i]? = some ops[i] := by simp [hin]
    generalize ops[i] = o at ho
    rw [ho] at hi
    simp only [Bool.and_eq_true, Bool.not_eq_true', Option.map_some, Option.getD_some] at hi
    obtain ⟨hil, hia⟩ := hi
    have hil' : listed.getD i false = false := by
      have hlt : i < listed.size := by omega
      simp [Array.getD, hlt] at hil ⊢; exact hil
    have hdir : ∀ e ∈ o.after.toList, Region.binds .any e = true → listed.getD e.on false = true := by
      intro e he hb
      rw [Array.all_eq_true'] at hia
      have := hia e (by simpa using he)
      simpa [hb] using this
    have hbi : ∀ k, bitOn ((befs ops.toList []).getD i 0) k = true → listed.getD k false = true := bef_closed hE hcl i o ho hdir
    have hbl : ∀ (j : Nat) (p : Oper), ops[j]? = some p → listed.getD j false = true → ∀ k, bitOn ((befs ops.toList []).getD j 0) k = true → listed.getD k false = true := fun j p hj hl => bef_closed hE hcl j p hj (hcl j p hj hl)
    have hlt : ∀ (j : Nat) (p : Oper), ops[j]? = some p → ∀ k, bitOn ((befs ops.toList []).getD j 0) k = true → k < j := fun j p hj => bef_closed (D := fun k => k < j) hE (fun i o hi hD e he hb => Nat.lt_trans (hE i o hi e he hb) hD) j p hj (hE j p hj)
    have st := hst i o ho
    -- what the operation reads
    have hread : ∀ t v, t ∈ readsL ops o → (Φ i).get t = some v → VR μ v (a.tmps.getD t undef) := by
      intro t v ht hv
      by_cases hex : ∃ (k : Nat) (p : Oper), ops[k]? = some p ∧ p.dst = some t ∧ k ≠ i
      · obtain ⟨k, p, hk, hpt, hki⟩ := hex
        have hp := okPair_inv (hPair k i p o hk ho hki)
        rcases ((hp.1 t hpt).2 ht) with ⟨h1, h2⟩ | ⟨h1, h2⟩
        · rcases hΦ i t (by omega) with ⟨k2, o2, g1, g2, g3, g4⟩ | ⟨g1, g2⟩
          · have : k2 = k := by
              by_cases e : k2 = k
              · exact e
              · exact absurd hpt ((okPair_inv (hPair k2 k o2 p g2 hk e)).1 t g3).1
            subst this
            rw [g4] at hv; injection hv with hv; subst hv
            exact hfr1 k2 p t hk (hbi k2 h2) hpt
          · exact absurd hpt (g1 k p h1 hk)
        · have hkl : listed.getD k false = false := by
            cases h : listed.getD k false with
            | false => rfl
            | true => have := hbl k p hk h i h2; rw [hil'] at this; cases this
          have huniq : ∀ (k2 : Nat) (o2 : Oper), ops[k2]? = some o2 → o2.dst = some t → k2 = k := by
            intro k2 o2 g2 g3
            by_cases e : k2 = k
            · exact e
            · exact absurd hpt ((okPair_inv (hPair k2 k o2 p g2 hk e)).1 t g3).1
          rcases hΦ i t (by omega) with ⟨k2, o2, g1, g2, g3, g4⟩ | ⟨g1, g2⟩
          · have := huniq k2 o2 g2 g3; omega
          · rw [g2] at hv
            refine hfr2 t v (fun k2 o2 q1 q2 q3 => ?_) hv
            have := huniq k2 o2 q1 q3
            subst this; rw [hkl] at q2; cases q2
      · rcases hΦ i t (by omega) with ⟨k2, o2, g1, g2, g3, g4⟩ | ⟨g1, g2⟩
        · exact absurd ⟨k2, o2, g2, g3, by omega⟩ hex
        · rw [g2] at hv
          refine hfr2 t v (fun k2 o2 q1 q2 q3 => ?_) hv
          by_cases e : k2 = i
          · subst e; rw [hil'] at q2; cases q2
          · exact hex ⟨k2, o2, q1, q3, e⟩
    have hwant : Region.wanted o (yielded ops a.tmps) = X i := by
      have hw := st.wants
      unfold Wants at hw
      unfold Region.wanted
      cases hg : o.guard with
      | none => rw [hg] at hw; exact hw.symm
      | some jw =>
        obtain ⟨j, want⟩ := jw
        rw [hg] at hw
        obtain ⟨d, h1, ⟨x, h2, h3⟩ | ⟨l, h2, h3⟩⟩ := hw
        · have := (hread d _ (by simp [readsL, hg, h1]) h2).bool_inv
          simp only [yielded_of h1 this, h3]
          cases x <;> cases want <;> rfl
        · obtain ⟨l', hl'⟩ := (hread d _ (by simp [readsL, hg, h1]) h2).tuple_inv
          simp only [yielded_none h1 hl', h3]
          rfl
    have hset : ∀ k, (listed.setIfInBounds i true).getD k false = if k = i then true else listed.getD k false := by
      intro k
      rw [Array.getD_eq_getD_getElem?, Array.getElem?_setIfInBounds, Array.getD_eq_getD_getElem?]
      by_cases e : k = i
      · subst e; rw [if_pos rfl, if_pos rfl, if_pos (by omega)]; rfl
      · rw [if_neg (Ne.symm e), if_neg e]
    have hcnt' : ((List.range ops.size).filter fun k => !(listed.setIfInBounds i true).getD k true).length ≤ fuel := by
      have h1 : ∀ (l : List Nat), (l.filter fun k => !(listed.setIfInBounds i true).getD k true) = (l.filter fun k => !listed.getD k true).filter (fun k => k != i) := by
        intro l
        rw [List.filter_filter]
        congr 1; funext k
        rw [Array.getD_eq_getD_getElem?, Array.getElem?_setIfInBounds, Array.getD_eq_getD_getElem?]
        by_cases e : k = i
        · subst e; rw [if_pos rfl, if_pos (by omega)]; simp
        · rw [if_neg (Ne.symm e)]; simp [e]
      rw [h1]
      have hmem : i ∈ (List.range ops.size).filter fun k => !listed.getD k true := by rw [List.mem_filter]; exact ⟨List.mem_range.2 hin, by rw [hil]; rfl⟩
      have hlt2 : ∀ (l : List Nat), i ∈ l → (l.filter (fun k => k != i)).length < l.length := by
        intro l hm
        refine Nat.lt_of_le_of_ne (List.length_filter_le _ _) fun e => ?_
        have := List.length_filter_eq_length_iff.1 e i hm
        simp at this
      have := hlt2 _ hmem
      omega
    -- what follows
    have next : ∀ (μ' : Mu) (w' : World) (c : Value) (e' : Nat), Ste μ0 (S 0) w0 μ' (S e') w' → (∀ b L, μ b = some L → μ' b = some L) → VR μ' (V i) c → e' ≤ ops.size →
        (∀ (k : Nat) (o : Oper), k < e' → ops[k]? = some o → X k = true → isN o.op = true → (listed.setIfInBounds i true).getD k false = true) →
        (∀ (o : Oper), ops[e']? = some o → X e' = true ∧ isN o.op = true ∧ (listed.setIfInBounds i true).getD e' false = false) →
        (∀ (k : Nat) (o : Oper), k < e' → ops[k]? = some o → X k = true → isA o.op = true → k ≠ i → listed.getD k false = false → μ' (S k).objs.length = none ∧ (S e').objs[(S k).objs.length]? = (S (k + 1)).objs[(S k).objs.length]?) →
        wpAnyIn (W ro) n P .any ops Q fuel (listed.setIfInBounds i true) (a.put o.dst c) w' := by
      intro μ' w' c e' hS' hmono hv g1 g2 g3 g4
      have hget : ∀ t, o.dst ≠ some t → (a.put o.dst c).tmps.getD t undef = a.tmps.getD t undef := by
        intro t ht
        cases hd : o.dst with
        | none => rfl
        | some d =>
          simp only [Act.put, Array.getD_eq_getD_getElem?]
          rw [Array.getElem?_setIfInBounds, if_neg (fun e => ht (by rw [hd, e]))]
      refine ih (listed.setIfInBounds i true) (a.put o.dst c) w' μ' e' (by simpa using hsz) hcnt' ?_ g1 g2 g3 (fun k p hk hp hx hA hl => by rw [hset] at hl; by_cases e : k = i; { rw [if_pos e] at hl; cases hl }; { rw [if_neg e] at hl; exact g4 k p hk hp hx hA e hl }) hS' ?_ ((Act.put_defers _ _ _).trans hdf) ?_ ?_
      · intro k p hk hl e he hb
        rw [hset] at hl ⊢
        by_cases ek : k = i
        · subst ek; rw [ho] at hk; injection hk with hk; subst hk
          split
          · rfl
          · exact hdir e he hb
        · rw [if_neg ek] at hl
          split
          · rfl
          · exact hcl k p hk hl e he hb
      · cases o.dst <;> simpa [Act.put] using hnta
      · intro k p t hk hl hpt
        rw [hset] at hl
        by_cases ek : k = i
        · subst ek; rw [ho] at hk; injection hk with hk; subst hk
          rw [hpt]
          have : t < a.tmps.size := Nat.lt_of_lt_of_le (st.nt t hpt) hnta
          simp only [Act.put, Array.getD_eq_getD_getElem?]
          simp [this, hv]
        · rw [if_neg ek] at hl
          have hne : o.dst ≠ some t := by
            intro e
            exact ((okPair_inv (hPair i k o p ho hk (Ne.symm ek))).1 t e).1 hpt
          rw [hget t hne]
          exact (hfr1 k p t hk hl hpt).mono hmono
      · intro t v hno hv'
        have hne : o.dst ≠ some t := hno i o ho (by rw [hset, if_pos rfl])
        rw [hget t hne]
        refine (hfr2 t v (fun k p hk hl => hno k p hk ?_) hv').mono hmono
        rw [hset]; split
        · rfl
        · exact hl
    unfold wpOpIn
    rw [ho]
    simp only
    rw [hwant]
    have keepE : i ≠ e → (∀ (k : Nat) (o : Oper), k < e → ops[k]? = some o → X k = true → isN o.op = true → (listed.setIfInBounds i true).getD k false = true) ∧
        (∀ (o : Oper), ops[e]? = some o → X e = true ∧ isN o.op = true ∧ (listed.setIfInBounds i true).getD e false = false) := by
      intro hne
      refine ⟨fun k p hk hp hx hE' => ?_, fun p hp => ?_⟩
      · rw [hset]; split
        · rfl
        · exact he2 k p hk hp hx hE'
      · obtain ⟨q1, q2, q3⟩ := he3 p hp
        exact ⟨q1, q2, by rw [hset, if_neg (Ne.symm hne)]; exact q3⟩
    have keepA : ∀ (μ' : Mu), (∀ b, b < (S e).objs.length → μ' b = μ b) → ∀ (k : Nat) (o : Oper), k < e → ops[k]? = some o → X k = true → isA o.op = true → k ≠ i → listed.getD k false = false → μ' (S k).objs.length = none ∧ (S e).objs[(S k).objs.length]? = (S (k + 1)).objs[(S k).objs.length]? := by
      intro μ' hag k p hk hp hx hA _ hl
      obtain ⟨q1, q2⟩ := hAq k p hk hp hx hA hl
      exact ⟨(hag _ (hLenA k p hp hx hA e hk he1)).trans q1, q2⟩
    cases hx : X i with
    | false =>
      rw [if_neg (by simp)]
      obtain ⟨hVi, _⟩ := st.skip hx
      have hie : i ≠ e := by
        rintro rfl
        have := (he3 o ho).1; rw [hx] at this; cases this
      obtain ⟨k1, k2⟩ := keepE hie
      exact ⟨fun _ _ => trivial, next μ w undef e hS (fun _ _ h => h) (by rw [hVi]; exact VR.skipped _) he1 k1 k2 (keepA μ (fun _ _ => rfl))⟩
    | true =>
      rw [if_pos rfl]
      have hex := st.exec hx
      -- the operation, at the store of this place
      have hF : FrR nt μ (onlyT (readsL ops o) (Φ i)) a := by
        refine ⟨fun t v ht => ?_, hnta⟩
        rw [onlyT_get] at ht
        split at ht
        · exact hread t v ‹_› ht
        · cases ht
      have hcong : ∀ (σ : Store), evOp P Γ (bitOn qs i) o.type (onlyT (readsL ops o) (Φ i)) σ (fun v σ' => some (v, σ')) o.op = evOpD P Γ (bitOn qs i) o.type (Φ i) σ o.op := by
        intro σ
        refine evOp_congr _ _ _ _ _ fun x hxo => ?_
        cases x with
        | tmp t =>
          show (onlyT (readsL ops o) (Φ i)).get t = (Φ i).get t
          rw [onlyT_get, if_pos]
          unfold readsL
          refine List.mem_append_left _ (List.mem_filterMap.2 ⟨_, hxo, rfl⟩)
        | _ => rfl
      have atS : ∀ (σ' : Store), evOpD P Γ (bitOn qs i) o.type (Φ i) (S e) o.op = some (V i, σ') → (∀ (μ' : Mu) (w' : World) (c : Value), Ste μ (S e) w μ' σ' w' → VR μ' (V i) c → wpAnyIn (W ro) n P .any ops Q fuel (listed.setIfInBounds i true) (a.put o.dst c) w') →
          o.wpIn (W ro) n P a w (wpAnyIn (W ro) n P .any ops Q fuel (listed.setIfInBounds i true)) Q := by
        intro σ' hd hn
        have hc := (hcong (S e)).trans hd
        refine evOp_sound hΓ hF hS.rel o hc ?_
        intro v σ2 μ' w' c hKv hs _ hv
        injection hKv with hKv
        simp only [Prod.mk.injEq] at hKv
        obtain ⟨rfl, rfl⟩ := hKv
        exact hn μ' w' c hs hv
      by_cases hEi : isN o.op = true
      · -- one of the ordered ones: it is the next
        have hEi' : isE o.op = true := by simp [isN] at hEi; exact hEi.1
        have hnA : isA o.op ≠ true := by simp [isN] at hEi; simp [hEi.2]
        have hie : i = e := by
          rcases Nat.lt_trichotomy i e with h | h | h
          · have := he2 i o h ho hx hEi; rw [hil'] at this; cases this
          · exact h
          · have he : e < ops.size := by omega
            obtain ⟨q1, q2, q3⟩ := he3 ops[e] (by simp [he])
            rcases (okPair_inv (hPair e i ops[e] o (by simp [he]) ho (by omega))).2.1 (by simp [isN] at q2; exact q2.1) hEi' (by omega) with this | this
            · have := hbi e this; rw [q3] at this; cases this
            · exact absurd this.2 hnA
        subst hie
        refine atS _ hex ?_
        intro μ' w' c hs hv
        obtain ⟨e', g1, g2, g3, g4⟩ := hNext (ops.size - (i + 1)) (i + 1) (by omega)
        have g5 : Ext (S (i + 1)) (S e') := by
          have := hExt (e' - (i + 1)) (i + 1) (by omega) (fun k o h1 h2 => g3 k o h1 (by omega))
          rwa [show i + 1 + (e' - (i + 1)) = e' by omega] at this
        refine next μ' w' c e' ((hS.trans hs).trans (Ste.grow hs.rel g5)) (hs.mu hS.rel) hv g2 ?_ ?_ ?_
        · intro k p hk hp hxk hEk
          rw [hset]
          split
          · rfl
          · rename_i hki
            rcases Nat.lt_or_ge k i with h | h
            · exact he2 k p h hp hxk hEk
            · exact absurd ⟨hxk, hEk⟩ (g3 k p (by omega) hk hp)
        · intro p hp
          obtain ⟨q1, q2⟩ := g4 p hp
          refine ⟨q1, q2, ?_⟩
          rw [hset, if_neg (by omega)]
          cases h : listed.getD e' false with
          | false => rfl
          | true =>
            rcases (okPair_inv (hPair i e' o p ho hp (by omega))).2.1 hEi' (by simp [isN] at q2; exact q2.1) (by omega) with this | this
            · have := hbl e' p hp h i this; rw [hil'] at this; cases this
            · exact absurd this.1 hnA
        · intro k p hk hp hxk hA hki hl
          rcases Nat.lt_or_ge k i with h | h
          · exfalso
            rcases (okPair_inv (hPair k i p o hp ho hki)).2.1 (isA_isE hA) hEi' (by omega) with this | this
            · have := hbi k this; rw [hl] at this; cases this
            · exact hnA this.2
          · refine ⟨?_, ?_⟩
            · cases hm : μ' (S k).objs.length with
              | none => rfl
              | some L =>
                have h1 := hs.rel.dom _ _ hm
                have h2 := hLenLe (k - (i + 1)) (i + 1) (by have := (Array.getElem?_eq_some_iff.1 hp).1; omega)
                rw [show i + 1 + (k - (i + 1)) = k by omega] at h2
                omega
            · have := hExt (e' - (k + 1)) (k + 1) (by omega) (fun k' o h1 h2 => g3 k' o (by omega) (by omega))
              rw [show k + 1 + (e' - (k + 1)) = e' by omega] at this
              exact this.get (hLenA k p hp hxk hA (k + 1) (by omega) (by omega))
      · by_cases hAi : isA o.op = true
        · -- a row that is laid
          have hie : i < e := by
            rcases Nat.lt_trichotomy i e with h | h | h
            · exact h
            · subst h; exact absurd (he3 o ho).2.1 hEi
            · exfalso
              have he : e < ops.size := by omega
              obtain ⟨q1, q2, q3⟩ := he3 ops[e] (by simp [he])
              simp [isN] at q2
              rcases (okPair_inv (hPair e i ops[e] o (by simp [he]) ho (by omega))).2.1 q2.1 (isA_isE hAi) (by omega) with this | this
              · have := hbi e this; rw [q3] at this; cases this
              · rw [q2.2] at this; cases this.1
          obtain ⟨m1, m2⟩ := hAq i o hie ho hx hAi hil'
          obtain ⟨l, es, mk, p1, p2, p3, p4⟩ := alloc_eq hAi hex
          have hc := (hcong (S e)).trans (p3 (S e))
          obtain ⟨l', es', mk', hK', hmk', cs, ty, c, hrun, hvl, hll, hcv⟩ := lays_all (w := w) hF hAi hc
          injection hK' with hK'
          simp only [Prod.mk.injEq] at hK'
          obtain ⟨k1, k2⟩ := hK'
          have hobj : ((S e).push l' es').objs = ((S e).push l es).objs := by rw [k2]
          simp only [Store.push] at hobj
          have hobj := List.append_cancel_left hobj
          simp at hobj
          obtain ⟨rfl, rfl⟩ := hobj
          have hmk : mk' = mk := by
            rcases p4 with rfl | ⟨x, y, rfl⟩ <;> rcases hmk' with rfl | ⟨x', y', rfl⟩
            · rfl
            · simp at k1
            · simp at k1
            · simp at k1; rw [k1.1, k1.2]
          subst hmk
          have hrow : (S e).objs[(S i).objs.length]? = some (.cells l' true es') := by rw [m2, p2]; simp [Store.push]
          refine ⟨fun _ _ => trivial, ?_⟩
          rw [Oper.semAt_eq _ _ _ (by intro d hd; rw [hd] at hAi; cases hAi), hrun]
          obtain ⟨k3, k4⟩ := keepE (by omega)
          have hne : ∀ b L, μ b = some L → b ≠ (S i).objs.length := fun b L hb e => by rw [e, m1] at hb; cases hb
          have hmin : (S 0).objs.length ≤ (S i).objs.length := by
            have := hLenLe i 0 (by omega)
            rwa [Nat.zero_add] at this
          refine next _ _ c e (Ste.late hS m1 hmin hrow hvl hll ty) (fun b L hb => by rw [Mu.up_ne _ _ (hne b L hb)]; exact hb) (by rw [p1]; exact hcv _ _ (Mu.up_self _ _ _)) he1 k3 k4 ?_
          intro k p hk hp hxk hA hki hl
          obtain ⟨q1, q2⟩ := hAq k p hk hp hxk hA hl
          refine ⟨?_, q2⟩
          rw [Mu.up_ne]
          · exact q1
          · rcases Nat.lt_or_ge k i with h | h
            · have := hLenA k p hp hxk hA i h (by omega); omega
            · have := hLenA i o ho hx hAi k (by omega) (by have := (Array.getElem?_eq_some_iff.1 hp).1; omega); omega
        · have hEi : ¬ isE o.op = true := fun h => hEi (by simp [isN, h, hAi])
          have hEi0 : isN o.op ≠ true := fun h => by simp [isN] at h; exact hEi h.1
          have hie : i ≠ e := by
            rintro rfl
            exact hEi0 (he3 o ho).2.1
          obtain ⟨k1, k2⟩ := keepE hie
          refine atS (S e) ?_ fun μ' w' c hs hv => next μ' w' c e (hS.trans hs) (hs.mu hS.rel) hv he1 k1 k2 (keepA μ' hs.agree)
          by_cases hp : pureOp o.op = true
          · exact (pureD hp hex).2 _
          · have hl : isLoad o.op = true := by
              unfold isE at hEi
              simpa [hp] using hEi
            have hSi := (evOpD_pre hK hex).2.1 hl
            rw [hSi] at hex
            have hsame : ∀ b, (∀ (k : Nat) (p : Oper), (i ≤ k ∨ e ≤ k) → ops[k]? = some p → X k = true → (apSt ops ap p o = true ∨ slR k i p o = true) → (S (k + 1)).objs[b]? = (S k).objs[b]?) → b < (S i).objs.length → b < (S e).objs.length → (S i).objs[b]? = (S e).objs[b]? := by
              intro b hapb hbi' hbe
              rcases Nat.le_total i e with h | h
              · have hd : i + (e - i) = e := by omega
                have := (hChain b (e - i) i (by omega) ?_).2 hbi'
                · rw [hd] at this; exact this.symm
                · intro k p hk1 hk2 hkp hxk hEk
                  have hki : k ≠ i := by rintro rfl; rw [ho] at hkp; injection hkp with hkp; subst hkp; exact hEi hEk
                  cases hAk : isA p.op with
                  | true => exact .inr (.inl rfl)
                  | false =>
                    have hkl := he2 k p (by omega) hkp hxk (by simp [isN, hEk, hAk])
                    rcases (okPair_inv (hPair k i p o hkp ho hki)).2.2 hEk hl with h1 | h1 | h1 | h1 | h1 | h1 | h1
                    · have := hlt i o ho k h1; omega
                    · have := hbl k p hkp hkl i h1; rw [hil'] at this; cases this
                    · exact .inl h1
                    · rw [hAk] at h1; cases h1
                    · exact .inr (.inr (hFresh k i p hkp hxk h1 b))
                    · exact .inr (.inr fun _ => hapb k p (.inl hk1) hkp hxk (.inr h1))
                    · exact .inr (.inr fun _ => hapb k p (.inl hk1) hkp hxk (.inl h1))
              · have hd : e + (i - e) = i := by omega
                have := (hChain b (i - e) e (by omega) ?_).2 hbe
                · rw [hd] at this; exact this
                · intro k p hk1 hk2 hkp hxk hEk
                  have hki : k ≠ i := by omega
                  cases hAk : isA p.op with
                  | true => exact .inr (.inl rfl)
                  | false =>
                    have hkl : listed.getD k false = false := by
                      cases hlk : listed.getD k false with
                      | false => rfl
                      | true =>
                        exfalso
                        have he : e < ops.size := by have := (Array.getElem?_eq_some_iff.1 hkp).1; omega
                        obtain ⟨q1, q2, q3⟩ := he3 ops[e] (by simp [he])
                        by_cases eke : k = e
                        · subst eke; rw [hlk] at q3; cases q3
                        · rcases (okPair_inv (hPair e k ops[e] p (by simp [he]) hkp (Ne.symm eke))).2.1 (by simp [isN] at q2; exact q2.1) hEk (by omega) with this | this
                          · have := hbl k p hkp hlk e this; rw [q3] at this; cases this
                          · rw [hAk] at this; cases this.2
                    rcases (okPair_inv (hPair k i p o hkp ho hki)).2.2 hEk hl with h1 | h1 | h1 | h1 | h1 | h1 | h1
                    · have := hbi k h1; rw [hkl] at this; cases this
                    · have := hlt k p hkp i h1; omega
                    · exact .inl h1
                    · rw [hAk] at h1; cases h1
                    · obtain ⟨_, _, _, m, _, _, c1, c2, _⟩ := freshSt_inv h1; omega
                    · exact .inr (.inr fun _ => hapb k p (.inr hk1) hkp hxk (.inr h1))
                    · exact .inr (.inr fun _ => hapb k p (.inr hk1) hkp hxk (.inl h1))
            -- the value of an operand
            have hopv : ∀ (x : Operand) (v : AV), x ∈ o.op.operands.toList → (Φ i).ev x = some v → ∃ c, VR μ v c := by
              intro x v hxo hv
              cases x with
              | tmp t' => exact ⟨_, hread t' _ (List.mem_append_left _ (List.mem_filterMap.2 ⟨_, hxo, rfl⟩)) hv⟩
              | const c => exact ⟨c, (ofC_vr hv μ).1⟩
              | global g => simp [Fr.ev] at hv
              | func f => simp only [Fr.ev, Option.some.injEq] at hv; subst hv; exact ⟨.func (.func f) #[] #[], .func rfl rfl (fun i x y hx => by simp at hx) (fun i x y hx => by simp at hx)⟩
            cases hop : o.op with
            | load t x =>
              rw [hop] at hex hl
              unfold evOpD at hex ⊢
              simp only [evOp] at hex ⊢
              split at hex
              · rename_i p hpx
                cases p with
                | none => exact (ldT_nil hex).elim
                | some bo =>
                  obtain ⟨b, off⟩ := bo
                  have hbi' := ldT_lt hex
                  -- where the row is
                  have hbe : b < (S e).objs.length := by
                    obtain ⟨c, hc⟩ := hopv x _ (by simp [hop, Op.operands]) hpx
                    rcases hc.ptr_inv with ⟨e1, _⟩ | ⟨b2, o2, L, e1, e2, _⟩
                    · cases e1
                    · injection e1 with e1; injection e1 with e1 e3; subst e1; exact hS.rel.dom _ _ e2
                  rw [ldT_nat, ← ldT_congr (hsame b (fun k p _ hkp hxk hs => hApart k i p o t x b off hkp ho hxk (by rcases hs with hs | hs; exact hs; simp [slR, isSl, hop] at hs) hop hpx) hbi' hbe)]
                  rw [ldT_nat] at hex
                  obtain ⟨v, hv, hex⟩ := Option.bind_eq_some_iff.1 hex
                  injection hex with hex
                  simp only [Prod.mk.injEq] at hex
                  rw [hv]
                  simp [hex.1]
              · exact absurd hex (by simp)
            | slice t x lo hi mx =>
              have hl' := hl
              rw [hop] at hex hl
              unfold evOpD at hex ⊢
              simp only [evOp] at hex ⊢
              split at hex
              · rename_i h e' hpx hu
                obtain ⟨es, h1, hex⟩ := Option.bind_eq_some_iff.1 hex
                obtain ⟨l, h2, hex⟩ := Option.bind_eq_some_iff.1 hex
                obtain ⟨u, h3, hex⟩ := Option.bind_eq_some_iff.1 hex
                obtain ⟨m, h4, hex⟩ := Option.bind_eq_some_iff.1 hex
                obtain ⟨h', h5, hex⟩ := Option.bind_eq_some_iff.1 hex
                have hes : (S e).esOk h es = (S i).esOk h es ∨ (S i).esOk h es = false := by
                  obtain ⟨c, hc⟩ := hopv x _ (by simp [hop, Op.operands]) hpx
                  obtain ⟨A, len, cap, rfl, _, _, _, hcase⟩ := hc.slice_inv
                  rcases hcase with ⟨hha, _⟩ | ⟨b, off, ad, hha, _, h0⟩ | ⟨b, off, L, hha, hb, _⟩
                  · left; simp only [Store.esOk, hha]
                  · left
                    have h0 : h.len = 0 := by omega
                    simp only [Store.esOk, hha, h0, show Nat.beq 0 0 = true from rfl, cond_true]
                  · by_cases hbi' : b < (S i).objs.length
                    · have hbe := hS.rel.dom _ _ hb
                      rcases Nat.le_total i e with hie' | hei
                      · left; simp only [Store.esOk, hha, hsame b (fun k p hk _ _ hs => by
                          rcases hs with hs | hs
                          · simp [apSt, pairSt, hop] at hs
                          · simp only [slR, Bool.and_eq_true, Nat.blt_eq] at hs; omega) hbi' hbe]
                      · cases hnz : Nat.beq h.len 0 with
                        | true => left; simp only [Store.esOk, hha, hnz, cond_true]
                        | false =>
                          cases hok : (S i).esOk h es with
                          | false => exact .inr rfl
                          | true =>
                            left
                            have hback : ∀ d, e + d ≤ i → ∀ l rw_ ez, (S (e + d)).objs[b]? = some (.cells l rw_ ez) → ∃ l rw_, (S e).objs[b]? = some (.cells l rw_ ez) := by
                              intro d
                              induction d with
                              | zero => intro _ l rw_ ez hz; exact ⟨l, rw_, hz⟩
                              | succ d ihd =>
                                intro hd l rw_ ez hz
                                have hbk : b < (S (e + d)).objs.length := Nat.lt_of_lt_of_le hbe (hLenLe d e (by omega))
                                by_cases hsl : ∃ p, ops[e + d]? = some p ∧ X (e + d) = true ∧ slR (e + d) i p o = true
                                · obtain ⟨p, hp', hx', hs'⟩ := hsl
                                  simp only [slR, Bool.and_eq_true] at hs'
                                  obtain ⟨l', rw', hz'⟩ := evOpD_es hs'.1.1 ((hst (e + d) p hp').exec hx') hbk hz
                                  exact ihd (by omega) l' rw' ez hz'
                                · have hsm := (hChain b 1 (e + d) (by omega) (fun k p hk1 hk2 hkp hxk hEk => by
                                    have hkd : k = e + d := by omega
                                    subst hkd
                                    have hki : e + d ≠ i := by omega
                                    cases hAk : isA p.op with
                                    | true => exact .inr (.inl rfl)
                                    | false =>
                                      have hkl : listed.getD (e + d) false = false := by
                                        cases hlk : listed.getD (e + d) false with
                                        | false => rfl
                                        | true =>
                                          exfalso
                                          have he : e < ops.size := by have := (Array.getElem?_eq_some_iff.1 hkp).1; omega
                                          obtain ⟨q1, q2, q3⟩ := he3 ops[e] (by simp [he])
                                          by_cases eke : e + d = e
                                          · rw [eke] at hlk; rw [hlk] at q3; cases q3
                                          · rcases (okPair_inv (hPair e (e + d) ops[e] p (by simp [he]) hkp (Ne.symm eke))).2.1 (by simp [isN] at q2; exact q2.1) hEk (by omega) with this | this
                                            · have := hbl (e + d) p hkp hlk e this; rw [q3] at this; cases this
                                            · rw [hAk] at this; cases this.2
                                      rcases (okPair_inv (hPair (e + d) i p o hkp ho hki)).2.2 hEk hl' with h1 | h1 | h1 | h1 | h1 | h1 | h1
                                      · have := hbi (e + d) h1; rw [hkl] at this; cases this
                                      · have := hlt (e + d) p hkp i h1; omega
                                      · exact .inl h1
                                      · rw [hAk] at h1; cases h1
                                      · obtain ⟨_, _, _, m, _, _, c1, c2, _⟩ := freshSt_inv h1; omega
                                      · exact absurd ⟨p, hkp, hxk, h1⟩ hsl
                                      · simp [apSt, pairSt, hop] at h1)).2 hbk
                                  rw [show e + d + 1 = e + (d + 1) by omega] at hsm
                                  rw [hsm] at hz
                                  exact ihd (by omega) l rw_ ez hz
                            simp only [Store.esOk, hha, hnz, cond_false] at hok ⊢
                            cases hrow : (S i).objs[b]? with
                            | none => rw [hrow] at hok; cases hok
                            | some ob =>
                              cases ob with
                              | cells l rw_ ez =>
                                obtain ⟨l', rw', hz'⟩ := hback (i - e) (by omega) l rw_ ez (by rw [show e + (i - e) = i by omega]; exact hrow)
                                rw [hrow] at hok
                                rw [hz']
                                simpa using hok
                              | _ => rw [hrow] at hok; cases hok
                    · by_cases h0 : Nat.beq h.len 0 = true
                      · left; simp only [Store.esOk, hha, h0, cond_true]
                      · right
                        rw [Bool.not_eq_true] at h0
                        simp only [Store.esOk, hha, h0, cond_false]
                        rw [List.getElem?_eq_none (by omega)]
                rcases hes with hes | hes
                · rw [h1, Option.bind_some, h2, Option.bind_some, h3, Option.bind_some, h4, Option.bind_some]
                  have : (S e).sub h es l u m = (S i).sub h es l u m := by simp only [Store.sub, hes]
                  rw [this, h5, Option.bind_some]
                  split at hex
                  · exact absurd hex (by simp)
                  · rename_i hn
                    rw [if_neg hn]
                    injection hex with hex
                    simp only [Prod.mk.injEq] at hex
                    rw [hex.1]
                · simp [Store.sub, hes] at h5
              · exact absurd hex (by simp)
            | _ => rw [hop] at hl; simp [isLoad] at hl
end
theorem drawn_sound {P : Program} (hm : P.follows .mixedOrders = true) {Γ : Gam} (hΓ : GS P Γ) (hK : GK Γ) : DrS P Γ drawn := by
  intro ops qs ap hdr ro n nt R φ σ K r h hap μ w a hF hR Q hQ t
  simp only [Region.schedule, hm, Bool.true_or, if_true]
  obtain ⟨X, V, S, Φ, h1, h2, h3, h4⟩ := evOps_tr ops.toList 0 h
  refine wpAnyIn_sound ops.size t _ a w ?_
  subst h2
  have hstep : ∀ (k : Nat) (o : Oper), ops[k]? = some o → Step P Γ nt ops (bitOn qs k) o (Φ k) (S k) (X k) (V k) (Φ (k + 1)) (S (k + 1)) := fun k o hk => by
    have := h4 k o (by simpa using hk)
    rw [Nat.zero_add] at this; exact this
  have hrep : ∀ k, (Array.replicate ops.size false).getD k false = false := by
    intro k; simp [Array.getD]
  -- the first of the ordered operations
  have hfirst : ∃ e, e ≤ ops.size ∧ (∀ (k : Nat) (o : Oper), k < e → ops[k]? = some o → ¬ (X k = true ∧ isN o.op = true)) ∧ (∀ (o : Oper), ops[e]? = some o → X e = true ∧ isN o.op = true) ∧ ∀ k, k ≤ e → Ext (S k) (S e) ∧ Ext (S 0) (S k) := by
    have hExt1 : ∀ (k : Nat) (o : Oper), ops[k]? = some o → ¬ (X k = true ∧ isN o.op = true) → Ext (S k) (S (k + 1)) := by
      intro k o ho hn
      have st := hstep k o ho
      cases hx : X k with
      | false => rw [(st.skip hx).2]; exact Ext.refl _
      | true =>
        by_cases hA : isA o.op = true
        · obtain ⟨l, es, mk, _, h, _⟩ := alloc_eq hA (st.exec hx)
          rw [h]; exact Ext.push ..
        · have hne : isE o.op = false := by
            cases h : isE o.op with
            | false => rfl
            | true => exact absurd ⟨hx, by simp [isN, h, hA]⟩ hn
          unfold isE at hne
          by_cases hp : pureOp o.op = true
          · rw [(pureD hp (st.exec hx)).1]; exact Ext.refl _
          · rw [(evOpD_pre hK (st.exec hx)).2.1 (by simpa [hp] using hne)]; exact Ext.refl _
    have : ∀ d m, m + d = ops.size → (∀ k, k ≤ m → Ext (S k) (S m) ∧ Ext (S 0) (S k)) → (∀ (k : Nat) (o : Oper), k < m → ops[k]? = some o → ¬ (X k = true ∧ isN o.op = true)) →
        ∃ e', m ≤ e' ∧ e' ≤ ops.size ∧ (∀ (k : Nat) (o : Oper), k < e' → ops[k]? = some o → ¬ (X k = true ∧ isN o.op = true)) ∧ (∀ (o : Oper), ops[e']? = some o → X e' = true ∧ isN o.op = true) ∧ ∀ k, k ≤ e' → Ext (S k) (S e') ∧ Ext (S 0) (S k) := by
      intro d
      induction d with
      | zero => intro m hm hx hN; exact ⟨m, Nat.le_refl _, by omega, hN, fun o ho => by have := (Array.getElem?_eq_some_iff.1 ho).1; omega, hx⟩
      | succ d ihd =>
        intro m hm hx hN
        have ho : ops[m]? = some ops[m] := by simp [show m < ops.size by omega]
        by_cases hc : X m = true ∧ isN ops[m].op = true
        · exact ⟨m, Nat.le_refl _, by omega, hN, fun o ho' => by rw [ho] at ho'; injection ho' with ho'; subst ho'; exact hc, hx⟩
        · have h1 := hExt1 m _ ho hc
          obtain ⟨e', h1, h2⟩ := ihd (m + 1) (by omega) (fun k hk => by
            rcases Nat.lt_or_ge k (m + 1) with h | h
            · exact ⟨(hx k (by omega)).1.trans h1, (hx k (by omega)).2⟩
            · have : k = m + 1 := by omega
              subst this; exact ⟨Ext.refl _, (hx m (Nat.le_refl _)).2.trans h1⟩) (fun k o hk hko => by
            by_cases e : k = m
            · subst e; rw [ho] at hko; injection hko with hko; subst hko; exact hc
            · exact hN k o (by omega) hko)
          exact ⟨e', by omega, h2⟩
    obtain ⟨e', _, g2, g3, g4, g5⟩ := this ops.size 0 (by omega) (fun k hk => (by omega : k = 0) ▸ ⟨Ext.refl _, Ext.refl _⟩) (fun k o hk => by omega)
    exact ⟨e', g2, g3, g4, g5⟩
  obtain ⟨e, g1, g2, g3, g4⟩ := hfirst
  have g0 := (g4 0 (by omega)).1
  refine drawn_any hΓ hK hdr h1 hap hstep (μ0 := μ) (w0 := w) (a0 := a) hR hF.2 (fun μ' a' w' f1 f2 f3 => hQ _ _ μ' a' w' (by rw [Array.length_toList] at h3; exact h3) f1 f2 f3) ops.size (Array.replicate ops.size false) a w μ e (by simp) ?_ ?_ g1 ?_ ?_ ?_ (Ste.grow hR g0) hF.2 rfl ?_ ?_
  · exact Nat.le_trans (List.length_filter_le _ _) (by simp)
  · intro i o _ hl; rw [hrep] at hl; cases hl
  · intro k o hk ho hx hE; exact absurd ⟨hx, hE⟩ (g2 k o hk ho)
  · intro o ho; exact ⟨(g3 o ho).1, (g3 o ho).2, hrep e⟩
  · intro k o hk ho hx hA _
    obtain ⟨l, es, mk, _, h, _⟩ := alloc_eq hA ((hstep k o ho).exec hx)
    refine ⟨?_, ?_⟩
    · cases hm : μ (S k).objs.length with
      | none => rfl
      | some L =>
        have k1 := hR.dom _ _ hm
        have k2 := (g4 k (by omega)).2.len
        omega
    · exact (g4 (k + 1) (by omega)).1.get (by rw [h]; simp [Store.push])
  · intro i o t _ hl; rw [hrep] at hl; cases hl
  · intro t v _ hv; exact hF.1 t v hv
/-- **What is read of a function is what its call does.** -/
theorem read_sound {P : Program} (hm : P.follows .mixedOrders = true) {sp : FuncId → Option (List AV → Store → Option (AV × Store))} (hsp : SpS P sp) (hsk : SpK sp) (k : Nat) : GS P (gam P drawn sp k) :=
  gam_sound hsp (fun j hΓ => drawn_sound hm hΓ (gam_pre hsk j)) k
end Go.Ab


/- Names for the pieces that a function's reading is cut into. -/
namespace Go.Ab
open Go
def codeAt : Code → List Nat → Code
  | .seq a _, 0 :: p => codeAt a p
  | .seq _ b, 1 :: p => codeAt b p
  | .cond _ a _, 0 :: p => codeAt a p
  | .cond _ _ b, 1 :: p => codeAt b p
  | .block _ c, 0 :: p => codeAt c p
  | .loop c, 0 :: p => codeAt c p
  | .rangeFunc _ _ a _, 0 :: p => codeAt a p
  | .rangeFunc _ _ _ b, 1 :: p => codeAt b p
  | c, _ => c
def maskAt : Code → Live → List Nat → Live
  | .seq a b, N, 0 :: p => maskAt a { N with n := liveC b N } p
  | .seq _ b, N, 1 :: p => maskAt b N p
  | .cond _ a _, N, 0 :: p => maskAt a N p
  | .cond _ _ b, N, 1 :: p => maskAt b N p
  | .block id c, N, 0 :: p => maskAt c { N with ex := (id, N.n) :: N.ex } p
  | .loop c, N, 0 :: p => maskAt c { N with n := liveC c { N with n := 0 } } p
  | _, N, _ => N
section
variable (P : Program) (Γ : Gam) (dr : DrawOk) (k nt : Nat) (rf : Bool)
def contAt {R : Type} : Code → List Nat → Live → (AX → Fr → Store → Option R) → AX → Fr → Store → Option R
  | .seq a b, 0 :: p, N, K => contAt a p { N with n := liveC b N } fun e φ' σ' => match e with
    | .normal => evCode P Γ dr k nt rf b N (bif Code.plain a then φ' else φ'.sel (liveC b N) nt) σ' K
    | .exit i => K (.exit i) φ' σ'
    | .ret => K .ret φ' σ'
  | .seq _ b, 1 :: p, N, K => contAt b p N K
  | .cond _ a _, 0 :: p, N, K => contAt a p N K
  | .cond _ _ b, 1 :: p, N, K => contAt b p N K
  | .block id c, 0 :: p, N, K => contAt c p { N with ex := (id, N.n) :: N.ex } fun e φ' σ' => match e with
    | .normal => K .normal φ' σ'
    | .exit i => bif Nat.beq i id then K .normal φ' σ' else K (.exit i) φ' σ'
    | .ret => K .ret φ' σ'
  | _, _, _, K => K
/-- A loop within code c: the loop itself, one round of it, what follows a cut within a round. -/
def loopC (c : Code) (N0 : Live) (p L : List Nat) (s : List AV × Store) : Option LX :=
  iter k (loopK nt (evCode P Γ dr k nt rf (codeAt c (p ++ [0]))) L (maskAt c N0 p) (liveC (codeAt c (p ++ [0])) { maskAt c N0 p with n := 0 })) s
def stepC (c : Code) (N0 : Live) (p L : List Nat) (s : List AV × Store) : Option ((List AV × Store) ⊕ LX) :=
  loopK nt (evCode P Γ dr k nt rf (codeAt c (p ++ [0]))) L (maskAt c N0 p) (liveC (codeAt c (p ++ [0])) { maskAt c N0 p with n := 0 }) s
def contC {R : Type} (c : Code) (N0 : Live) (K : AX → Fr → Store → Option R) (p : List Nat) (r : LX) : Option R := contAt P Γ dr k nt rf c p N0 K r.1 r.2.1 r.2.2
def contL (c : Code) (N0 : Live) (lp L p : List Nat) (r : LX) : Option ((List AV × Store) ⊕ LX) :=
  contAt P Γ dr k nt rf (codeAt c (lp ++ [0])) p { maskAt c N0 lp with n := liveC (codeAt c (lp ++ [0])) { maskAt c N0 lp with n := 0 } } (loopE nt L (maskAt c N0 lp)) r.1 r.2.1 r.2.2
end
def fnCode (fn : Func) : Code := fn.body.getD .skip
def fnMask (fn : Func) : Live := ⟨resMask fn.results.toList, resMask fn.results.toList, []⟩
def finK (P : Program) (fn : Func) (e : AX) (φ : Fr) (σ : Store) : Option (AV × Store) :=
  match e with
  | .normal => resK P fn φ σ
  | .ret => resK P fn φ σ
  | .exit _ => none
/-- The pieces of a function. -/
def loopF (P : Program) (Γ : Gam) (dr : DrawOk) (k : Nat) (fn : Func) (p L : List Nat) (s : List AV × Store) : Option LX := loopC P Γ dr k fn.ntmps true (fnCode fn) (fnMask fn) p L s
def stepF (P : Program) (Γ : Gam) (dr : DrawOk) (k : Nat) (fn : Func) (p L : List Nat) (s : List AV × Store) : Option ((List AV × Store) ⊕ LX) := stepC P Γ dr k fn.ntmps true (fnCode fn) (fnMask fn) p L s
def contF (P : Program) (Γ : Gam) (dr : DrawOk) (k : Nat) (fn : Func) (p : List Nat) (r : LX) : Option (AV × Store) := contC P Γ dr k fn.ntmps true (fnCode fn) (fnMask fn) (finK P fn) p r
def contFL (P : Program) (Γ : Gam) (dr : DrawOk) (k : Nat) (fn : Func) (lp L p : List Nat) (r : LX) : Option ((List AV × Store) ⊕ LX) := contL P Γ dr k fn.ntmps true (fnCode fn) (fnMask fn) lp L p r
end Go.Ab


/- What is said of functions: fuel, loops, rows. -/
namespace Go.Ab
open Go
set_option linter.unusedVariables false
/-- Beyond some fuel. -/
def Ev {α : Type} (f : Nat → Option α) (x : α) : Prop := ∃ k0, ∀ k, k0 ≤ k → f k = some x
theorem Ev.of {α : Type} {f : Nat → Option α} {x : α} (h : ∀ k, f k = some x) : Ev f x := ⟨0, fun k _ => h k⟩
theorem Ev.congr {α : Type} {f g : Nat → Option α} {x : α} (h : Ev f x) (e : ∀ k, g k = f k) : Ev g x := by
  obtain ⟨k0, h⟩ := h; exact ⟨k0, fun k hk => (e k).trans (h k hk)⟩
theorem Ev.bind {α β : Type} {f : Nat → Option α} {g : Nat → α → Option β} {x : α} {y : β} (h : Ev f x) (k : Ev (fun n => g n x) y) : Ev (fun n => (f n).bind (g n)) y := by
  obtain ⟨a, h⟩ := h
  obtain ⟨b, k⟩ := k
  refine ⟨max a b, fun n hn => ?_⟩
  simp only [h n (by omega), Option.bind_some, k n (by omega)]
/-- Loops. -/
def EvI {S R : Type} (f : Nat → S → Option (S ⊕ R)) (s : S) (r : R) : Prop := ∃ k0, ∀ k, k0 ≤ k → ∀ j, k0 ≤ j → iter j (f k) s = some r
theorem EvI.done {S R : Type} {f : Nat → S → Option (S ⊕ R)} {s : S} {r : R} (h : Ev (fun k => f k s) (.inr r)) : EvI f s r := by
  obtain ⟨k0, h⟩ := h
  refine ⟨k0 + 1, fun k hk j hj => ?_⟩
  obtain ⟨j, rfl⟩ : ∃ i, j = i + 1 := ⟨j - 1, by omega⟩
  simp only [iter, h k (by omega)]
theorem EvI.step {S R : Type} {f : Nat → S → Option (S ⊕ R)} {s s' : S} {r : R} (h : Ev (fun k => f k s) (.inl s')) (ih : EvI f s' r) : EvI f s r := by
  obtain ⟨k0, h⟩ := h
  obtain ⟨k1, ih⟩ := ih
  refine ⟨max k0 k1 + 1, fun k hk j hj => ?_⟩
  obtain ⟨j, rfl⟩ : ∃ i, j = i + 1 := ⟨j - 1, by omega⟩
  simp only [iter, h k (by omega)]
  exact ih k (by omega) j (by omega)
theorem EvI.ev {S R : Type} {f : Nat → S → Option (S ⊕ R)} {s : S} {r : R} (h : EvI f s r) : Ev (fun k => iter k (f k) s) r := by
  obtain ⟨k0, h⟩ := h
  exact ⟨k0, fun k hk => h k hk k hk⟩
/-- Functions that are told beside the program's text. -/
class Told (P : Program) where
  sp : FuncId → Option (List AV → Store → Option (AV × Store))
/-- Functions without arguments that answer true, and change nothing. -/
def tell (fs : List Nat) (g : FuncId) : Option (List AV → Store → Option (AV × Store)) :=
  match fs.any (fun f => Nat.beq f g) with
  | true => some fun args σ => match args with
    | [] => some (.bool true, σ)
    | _ => none
  | false => none
section
variable {P : Program} [Told P]
/-- The program's functions. -/
abbrev gm (P : Program) [Told P] (k : Nat) : Gam := gam P drawn (Told.sp P) k
/-- What a call comes to. -/
def Runs (P : Program) [Told P] (g : FuncId) (args : List AV) (σ : Store) (v : AV) (σ' : Store) : Prop := Ev (fun k => gm P k (.fn g) args σ) (v, σ')
theorem Runs.intro {g : FuncId} {fn : Func} {args : List AV} {σ σ' : Store} {v : AV} (hf : P.funcs[g]? = some fn) (hn : (fn.name == "runtime.NumGoroutine") = false)
    (h : Ev (fun k => evBody P (gm P k) drawn k fn args σ) (v, σ')) (hs : Told.sp P g = none := by kernel_rfl) : Runs P g args σ v σ' := by
  obtain ⟨k0, h⟩ := h
  refine ⟨k0 + 1, fun k hk => ?_⟩
  obtain ⟨k, rfl⟩ : ∃ i, k = i + 1 := ⟨k - 1, by omega⟩
  simp only [gm, gam, hs, hf, hn, cond_false]
  exact h k (by omega)
/-- A function that is told. -/
theorem Runs.told {g : FuncId} {f : List AV → Store → Option (AV × Store)} (hs : Told.sp P g = some f) {args : List AV} {σ σ' : Store} {v : AV} (h : f args σ = some (v, σ')) : Runs P g args σ v σ' := by
  refine ⟨1, fun k hk => ?_⟩
  obtain ⟨k, rfl⟩ : ∃ i, k = i + 1 := ⟨k - 1, by omega⟩
  simp only [gm, gam, hs, h]
theorem loopF_ev {fn : Func} {p L : List Nat} {s : List AV × Store} {r : LX} (h : EvI (fun k s => stepF P (gm P k) drawn k fn p L s) s r) : Ev (fun k => loopF P (gm P k) drawn k fn p L s) r := h.ev
end
/-! ### rows -/
/-- Rows ahead of n stay. -/
structure Kp (n : Nat) (σ σ' : Store) : Prop where
  prot : σ'.prot = σ.prot
  len : σ.objs.length ≤ σ'.objs.length
  keep : ∀ b, b < n → σ'.objs[b]? = σ.objs[b]?
theorem Kp.refl (n : Nat) (σ : Store) : Kp n σ σ := ⟨rfl, Nat.le_refl _, fun _ _ => rfl⟩
theorem Kp.trans {n : Nat} {σ σ1 σ2 : Store} (h : Kp n σ σ1) (k : Kp n σ1 σ2) : Kp n σ σ2 := ⟨k.prot.trans h.prot, Nat.le_trans h.len k.len, fun b hb => (k.keep b hb).trans (h.keep b hb)⟩
theorem Kp.mono {n m : Nat} {σ σ' : Store} (h : Kp n σ σ') (hm : m ≤ n) : Kp m σ σ' := ⟨h.prot, h.len, fun b hb => h.keep b (by omega)⟩
theorem Kp.push {n : Nat} {σ : Store} (l : List AV) (es : Nat) (hn : n ≤ σ.objs.length) : Kp n σ (σ.push l es) := ⟨rfl, by simp [Store.push], fun b hb => by simp only [Store.push]; rw [List.getElem?_append_left (by omega)]⟩
/-- A slice reads l. -/
structure Store.Sl (σ : Store) (h : Hdl) (es : Nat) (l : List AV) : Prop where
  len : h.len * es = l.length
  row : h.len = 0 ∨ ∃ b o cs rw, h.a = some (b, o) ∧ σ.objs[b]? = some (.cells cs rw es) ∧ o + l.length ≤ cs.length ∧ (cs.drop o).take l.length = l
def intsL (l : List Int) : List AV := l.map (AV.int .i64)
abbrev Store.Ints (σ : Store) (h : Hdl) (l : List Int) : Prop := σ.Sl h 1 (intsL l)
def boolsL (l : List Bool) : List AV := l.map AV.bool
abbrev Store.Bools (σ : Store) (h : Hdl) (l : List Bool) : Prop := σ.Sl h 1 (boolsL l)
@[simp] theorem intsL_length (l : List Int) : (intsL l).length = l.length := by simp [intsL]
@[simp] theorem boolsL_length (l : List Bool) : (boolsL l).length = l.length := by simp [boolsL]
theorem Store.Sl.at {σ : Store} {h : Hdl} {l : List AV} (s : σ.Sl h 1 l) {i : Int} (h0 : 0 ≤ i) {v : AV} (hv : l[i.toNat]? = some v) : σ.cell (h.idx i 1) = some v := by
  have hlt : i.toNat < l.length := (List.getElem?_eq_some_iff.1 hv).1
  have hl := s.len
  rcases s.row with h1 | ⟨b, o, cs, rw, h1, h2, h3, h4⟩
  · rw [h1] at hl; omega
  · simp only [Hdl.idx, Ptr.add, h1, Option.map_some, Store.cell, h2, Nat.mul_one]
    rw [← h4, List.getElem?_take, if_pos hlt, List.getElem?_drop] at hv
    exact hv
theorem Store.Ints.ilen {σ : Store} {h : Hdl} {l : List Int} (s : σ.Ints h l) : h.len = l.length := by have := Store.Sl.len s; simpa using this
theorem Store.Ints.ld {σ : Store} {h : Hdl} {l : List Int} (s : σ.Ints h l) {i : Int} (h0 : 0 ≤ i) (h1 : i < l.length) : σ.ldInt .i64 (h.idx i 1) = some (l.getD i.toNat 0) := by
  have hlt : i.toNat < l.length := by omega
  have : σ.cell (h.idx i 1) = some (.int .i64 l[i.toNat]) := Store.Sl.at s h0 (by simp [intsL, hlt])
  simp [Store.ldInt, this, hlt]
theorem Store.Bools.ld {σ : Store} {h : Hdl} {l : List Bool} (s : σ.Bools h l) {i : Int} (h0 : 0 ≤ i) (h1 : i < l.length) : σ.ldBool (h.idx i 1) = some (l.getD i.toNat false) := by
  have hlt : i.toNat < l.length := by omega
  have : σ.cell (h.idx i 1) = some (.bool l[i.toNat]) := Store.Sl.at s h0 (by simp [boolsL, hlt])
  simp [Store.ldBool, this, hlt]
theorem Store.Sl.keep {σ σ' : Store} {h : Hdl} {es : Nat} {l : List AV} (s : σ.Sl h es l) (k : ∀ b o, h.a = some (b, o) → σ'.objs[b]? = σ.objs[b]?) : σ'.Sl h es l := by
  refine ⟨s.len, ?_⟩
  rcases s.row with h1 | ⟨b, o, cs, rw, h1, h2, h3, h4⟩
  · exact .inl h1
  · exact .inr ⟨b, o, cs, rw, h1, (k b o h1).trans h2, h3, h4⟩
theorem Store.Sl.lt {σ : Store} {h : Hdl} {es : Nat} {l : List AV} (s : σ.Sl h es l) : h.len = 0 ∨ ∃ b o, h.a = some (b, o) ∧ b < σ.objs.length := by
  rcases s.row with h1 | ⟨b, o, cs, rw, h1, h2, _⟩
  · exact .inl h1
  · exact .inr ⟨b, o, h1, (List.getElem?_eq_some_iff.1 h2).1⟩
theorem Store.Sl.kp {σ σ' : Store} {h : Hdl} {es : Nat} {l : List AV} (s : σ.Sl h es l) (k : Kp σ.objs.length σ σ') : σ'.Sl h es l := by
  refine ⟨s.len, ?_⟩
  rcases s.row with h1 | ⟨b, o, cs, rw, h1, h2, h3, h4⟩
  · exact .inl h1
  · exact .inr ⟨b, o, cs, rw, h1, (k.keep b (List.getElem?_eq_some_iff.1 h2).1).trans h2, h3, h4⟩
theorem Store.Sl.read {σ : Store} {h : Hdl} {es : Nat} {l : List AV} (s : σ.Sl h es l) : σ.readSl h es = some l := by
  have hl := s.len
  unfold Store.readSl
  rcases s.row with h1 | ⟨b, o, cs, rw, h1, h2, h3, h4⟩
  · rw [h1] at hl; rw [if_pos h1]
    have : l = [] := List.eq_nil_of_length_eq_zero (by omega)
    rw [this]
  · by_cases h0 : h.len = 0
    · rw [h0] at hl; rw [if_pos h0]
      have : l = [] := List.eq_nil_of_length_eq_zero (by omega)
      rw [this]
    · rw [if_neg h0]
      simp only [h1, h2]
      rw [hl, if_pos h3, h4]
theorem wrap64 {x : Int} (h0 : -9223372036854775808 ≤ x) (h1 : x < 9223372036854775808) : IntKind.i64.wrap x = x := by
  unfold IntKind.wrap
  have e1 : (2 : Int) ^ (IntKind.i64.bits - 1) = 9223372036854775808 := by decide
  have e2 : (2 : Int) ^ IntKind.i64.bits = 18446744073709551616 := by decide
  simp only [e1, e2, IntKind.signed, Bool.true_and, decide_eq_true_eq]
  split <;> omega
/-- A slice of which its row is its own: what is appended to it goes nowhere else. -/
structure Store.Own (σ : Store) (n : Nat) (h : Hdl) (es : Nat) : Prop where
  own : ∀ b o, h.a = some (b, o) → n ≤ b ∧ ∃ cs, σ.objs[b]? = some (.cells cs true es) ∧ o + h.len * es ≤ cs.length ∧ ∀ c, h.cap = some c → o + c * es ≤ cs.length
  nil : h.a = none → h.len = 0
theorem app_spec {σ : Store} {n : Nat} {h : Hdl} {es by_ m : Nat} {l xs : List AV} (s : σ.Sl h es l) (ow : σ.Own n h es) (hp : σ.prot ≤ n) (hn : n ≤ σ.objs.length) (h0 : 0 < es) (hx : xs.length = m * es) (ho : xs.all AV.one = true)
    (hb : 0 < by_) (hc : (h.len + m) * by_ ≤ 140737488355328) : ∃ h' σ', σ.app h es by_ xs m = some (h', σ') ∧ Kp n σ σ' ∧ σ'.Sl h' es (l ++ xs) ∧ σ'.Own n h' es ∧ h'.len = h.len + m ∧
      (∀ b, (∀ c o, h.a = some (c, o) → b ≠ c) → b < σ.objs.length → σ'.objs[b]? = σ.objs[b]?) := by
  have hsl := s.len
  have hl : h.len = 0 → l = [] := fun e => List.eq_nil_of_length_eq_zero (by rw [e] at hsl; omega)
  unfold Store.app
  by_cases hm : m = 0
  · subst hm
    have hx0 : xs = [] := List.eq_nil_of_length_eq_zero (by omega)
    subst hx0
    rw [if_pos rfl]
    exact ⟨h, σ, rfl, Kp.refl _ _, by simpa using s, ow, by omega, fun _ _ _ => rfl⟩
  · rw [if_neg hm, if_pos ⟨hc, hb, hx, ho⟩]
    cases ha : h.a with
    | none =>
      have h0' := ow.nil ha
      have hl0 := hl h0'
      subst hl0
      refine ⟨_, _, rfl, Kp.push _ _ hn, ⟨by simpa using hx.symm, .inr ⟨σ.objs.length, 0, xs, true, rfl, by simp [Store.push], by simp, by simp⟩⟩, ⟨?_, by simp⟩, by simp [h0'], fun b _ hb => by simp only [Store.push]; rw [List.getElem?_append_left hb]⟩
      intro b o e
      simp only [Option.some.injEq, Prod.mk.injEq] at e
      obtain ⟨rfl, rfl⟩ := e
      exact ⟨hn, xs, by simp [Store.push], by simp [hx], by simp⟩
    | some bo =>
      obtain ⟨b, o⟩ := bo
      obtain ⟨hnb, cs, hob, hlen, hcap⟩ := ow.own b o ha
      have hbl : b < σ.objs.length := (List.getElem?_eq_some_iff.1 hob).1
      have hrow : (cs.drop o).take (h.len * es) = l := by
        rcases s.row with h1 | ⟨b', o', cs', rw', h1, h2, h3, h4⟩
        · rw [hl h1, h1]; simp
        · rw [ha] at h1; injection h1 with h1; injection h1 with h1 h1'; subst h1 h1'
          rw [hob] at h2; injection h2 with h2; injection h2 with h2 _ _; subst h2
          rw [hsl]; exact h4
      have hpush : ∀ (σ1 : Store), σ1.objs.length = σ.objs.length → σ1.prot = σ.prot → (∀ i, i ≠ b → σ1.objs[i]? = σ.objs[i]?) →
          Kp n σ { σ1 with objs := σ1.objs ++ [.cells ((cs.drop o).take (h.len * es) ++ xs) true es] } ∧
          Store.Sl { σ1 with objs := σ1.objs ++ [.cells ((cs.drop o).take (h.len * es) ++ xs) true es] } ⟨some (σ.objs.length, 0), h.len + m, none⟩ es (l ++ xs) ∧
          Store.Own { σ1 with objs := σ1.objs ++ [.cells ((cs.drop o).take (h.len * es) ++ xs) true es] } n ⟨some (σ.objs.length, 0), h.len + m, none⟩ es ∧
          ∀ i, (∀ c o', some (b, o) = some (c, o') → i ≠ c) → i < σ.objs.length → (σ1.objs ++ [.cells ((cs.drop o).take (h.len * es) ++ xs) true es])[i]? = σ.objs[i]? := by
        intro σ1 e1 e2 e3
        rw [hrow]
        have hnew : (σ1.objs ++ [AObj.cells (l ++ xs) true es])[σ.objs.length]? = some (.cells (l ++ xs) true es) := by rw [← e1]; simp
        refine ⟨⟨e2, by simp [e1], fun i hi => ?_⟩, ⟨?_, .inr ⟨σ.objs.length, 0, l ++ xs, true, rfl, hnew, by simp, by rw [List.drop_zero, List.take_of_length_le (Nat.le_refl _)]⟩⟩, ⟨?_, by simp⟩, fun i hi hlt => ?_⟩
        · show (σ1.objs ++ _)[i]? = _
          rw [List.getElem?_append_left (by omega)]; exact e3 i (by omega)
        · simp [Nat.add_mul, hsl, hx]
        · intro c o' e
          simp only [Option.some.injEq, Prod.mk.injEq] at e
          obtain ⟨rfl, rfl⟩ := e
          exact ⟨hn, _, hnew, by simp [Nat.add_mul, hsl, hx], by simp⟩
        · rw [List.getElem?_append_left (by omega)]; exact e3 i (hi b o rfl)
      simp only [hob]
      rw [if_pos ⟨hlen, trivial⟩]
      cases hcp : h.cap with
      | none =>
        simp only
        rw [if_pos ⟨trivial, by omega⟩]
        obtain ⟨k1, k2, k3, k4⟩ := hpush { σ with objs := σ.objs.set b .dead } (by simp) rfl (fun i hi => by show (σ.objs.set b _)[i]? = _; rw [List.getElem?_set, if_neg (Ne.symm hi)])
        exact ⟨_, _, rfl, k1, k2, k3, rfl, k4⟩
      | some c =>
        simp only
        by_cases hcm : h.len + m ≤ c
        · have hce := hcap c hcp
          have hle : o + (h.len + m) * es ≤ cs.length := Nat.le_trans (Nat.add_le_add_left (Nat.mul_le_mul_right es hcm) o) hce
          rw [if_pos hcm, if_pos ⟨trivial, by omega, hle⟩]
          have hlen2 : (cs.take (o + h.len * es) ++ xs ++ cs.drop (o + (h.len + m) * es)).length = cs.length := by
            simp only [List.length_append, List.length_take, List.length_drop, hx, Nat.add_mul] at *
            omega
          have hsame : ∀ i, i ≠ b → (σ.objs.set b (.cells (cs.take (o + h.len * es) ++ xs ++ cs.drop (o + (h.len + m) * es)) true es))[i]? = σ.objs[i]? := fun i hi => by rw [List.getElem?_set, if_neg (Ne.symm hi)]
          have hnew : (σ.objs.set b (.cells (cs.take (o + h.len * es) ++ xs ++ cs.drop (o + (h.len + m) * es)) true es))[b]? = some (.cells (cs.take (o + h.len * es) ++ xs ++ cs.drop (o + (h.len + m) * es)) true es) := by rw [List.getElem?_set, if_pos rfl, if_pos hbl]
          refine ⟨_, _, rfl, ⟨rfl, by simp, fun i hi => hsame i (by omega)⟩, ⟨?_, .inr ⟨b, o, _, true, rfl, hnew, ?_, ?_⟩⟩, ⟨?_, by simp⟩, rfl, fun i hi _ => hsame i (hi b o rfl)⟩
          · simp [Nat.add_mul, hsl, hx]
          · rw [hlen2, List.length_append, ← hsl, hx, ← Nat.add_mul]; exact hle
          · have ht : (cs.take (o + h.len * es)).length = o + h.len * es := by rw [List.length_take]; omega
            rw [List.append_assoc, List.drop_append_of_le_length (by omega), List.drop_take, show o + h.len * es - o = h.len * es by omega, hrow, ← List.append_assoc,
              List.take_append_of_le_length (by simp), List.take_of_length_le (by simp)]
          · intro b' o' e
            simp only [Option.some.injEq, Prod.mk.injEq] at e
            obtain ⟨rfl, rfl⟩ := e
            refine ⟨hnb, _, hnew, by rw [hlen2]; exact hle, fun c' hc' => ?_⟩
            injection hc' with hc'; subst hc'
            rw [hlen2]; exact hce
        · rw [if_neg hcm]
          obtain ⟨k1, k2, k3, k4⟩ := hpush σ rfl rfl (fun _ _ => rfl)
          exact ⟨_, _, rfl, k1, k2, k3, rfl, k4⟩
end Go.Ab


/- Writing rows. -/
namespace Go.Ab
open Go
set_option linter.unusedVariables false
def Hdl.row (h : Hdl) : Option Nat := h.a.map (·.1)
def Ptr.row (p : Ptr) : Option Nat := p.map (·.1)
/-- Only row b is another. -/
structure Off (b : Nat) (σ σ' : Store) : Prop where
  prot : σ'.prot = σ.prot
  len : σ'.objs.length = σ.objs.length
  off : ∀ c, c ≠ b → σ'.objs[c]? = σ.objs[c]?
theorem Off.refl (b : Nat) (σ : Store) : Off b σ σ := ⟨rfl, rfl, fun _ _ => rfl⟩
theorem Off.trans {b : Nat} {σ σ1 σ2 : Store} (h : Off b σ σ1) (k : Off b σ1 σ2) : Off b σ σ2 := ⟨k.prot.trans h.prot, k.len.trans h.len, fun c hc => (k.off c hc).trans (h.off c hc)⟩
theorem Off.kp {b n : Nat} {σ σ' : Store} (h : Off b σ σ') (hn : n ≤ b) : Kp n σ σ' := ⟨h.prot, by rw [h.len]; exact Nat.le_refl _, fun c hc => h.off c (by omega)⟩
theorem Store.Sl.off {σ σ' : Store} {h : Hdl} {es : Nat} {l : List AV} (s : σ.Sl h es l) {b : Nat} (k : Off b σ σ') (hr : h.row ≠ some b) : σ'.Sl h es l :=
  s.keep fun c o e => k.off c fun e' => hr (by simp [Hdl.row, e, e'])
theorem cell_off {σ σ' : Store} {b : Nat} (k : Off b σ σ') {p : Ptr} (hr : p.row ≠ some b) : σ'.cell p = σ.cell p := by
  cases p with
  | none => rfl
  | some x => obtain ⟨c, o⟩ := x; simp only [Store.cell]; rw [k.off c (fun e => hr (by simp [Ptr.row, e]))]
@[simp] theorem Ptr.row_add (p : Ptr) (n : Nat) : (Ptr.add p n).row = p.row := by cases p <;> rfl
theorem cell_kp {σ σ' : Store} {n : Nat} (k : Kp n σ σ') {p : Ptr} (hr : ∀ b, p.row = some b → b < n) : σ'.cell p = σ.cell p := by
  cases p with
  | none => rfl
  | some x => obtain ⟨c, o⟩ := x; simp only [Store.cell]; rw [k.keep c (hr c rfl)]
theorem ldSl_cell {σ σ' : Store} {p : Ptr} (h : σ'.cell p = σ.cell p) : σ'.ldSl p = σ.ldSl p := by simp only [Store.ldSl, h]
theorem ldInt_cell {σ σ' : Store} {k : IntKind} {p : Ptr} (h : σ'.cell p = σ.cell p) : σ'.ldInt k p = σ.ldInt k p := by simp only [Store.ldInt, h]
theorem ldPtr_cell {σ σ' : Store} {p : Ptr} (h : σ'.cell p = σ.cell p) : σ'.ldPtr p = σ.ldPtr p := by simp only [Store.ldPtr, h]
/-- A slice whose row may be written. -/
def Store.Wr (σ : Store) (h : Hdl) : Prop := ∃ b o cs, h.a = some (b, o) ∧ σ.objs[b]? = some (.cells cs true 1) ∧ σ.prot ≤ b
theorem stL_one (σ : Store) (p : Ptr) (v : AV) : σ.stL p [v] 0 = σ.st p v := by
  have hp : Ptr.add p 0 = p := by cases p <;> rfl
  simp only [Store.stL, hp]
  cases σ.st p v <;> rfl
/-- One cell of a slice is written. -/
theorem st_spec {σ : Store} {h : Hdl} {l : List AV} (s : σ.Sl h 1 l) (w : σ.Wr h) {i : Int} (h0 : 0 ≤ i) (h1 : i < l.length) {v : AV} (hv : v.one = true) {b : Nat} (hb : h.row = some b) :
    ∃ σ', σ.stL (h.idx i 1) [v] 0 = some σ' ∧ Off b σ σ' ∧ σ'.Sl h 1 (l.set i.toNat v) ∧ σ'.Wr h := by
  obtain ⟨b', o, cs, ha, ho, hp⟩ := w
  have hbb : b' = b := by simpa [Hdl.row, ha] using hb
  subst hbb
  have hl := s.len
  have hlt : i.toNat < l.length := by omega
  rcases s.row with h2 | ⟨b2, o2, cs2, rw2, k1, k2, k3, k4⟩
  · rw [h2] at hl; omega
  rw [ha] at k1; injection k1 with k1; injection k1 with k1 k1'; subst k1 k1'
  rw [ho] at k2; injection k2 with k2; injection k2 with k2 k2' k2''; subst k2
  have hbl : b' < σ.objs.length := (List.getElem?_eq_some_iff.1 ho).1
  have hnew : (σ.objs.set b' (.cells (cs.set (o + i.toNat) v) true 1))[b']? = some (.cells (cs.set (o + i.toNat) v) true 1) := by rw [List.getElem?_set, if_pos rfl, if_pos hbl]
  refine ⟨{ σ with objs := σ.objs.set b' (.cells (cs.set (o + i.toNat) v) true 1) }, ?_, ⟨rfl, by simp, fun c hc => by show (σ.objs.set b' _)[c]? = _; rw [List.getElem?_set, if_neg (Ne.symm hc)]⟩, ⟨by simpa using hl, .inr ⟨b', o, _, true, ha, hnew, by simpa using k3, ?_⟩⟩, ⟨b', o, _, ha, hnew, hp⟩⟩
  · rw [stL_one]
    simp only [Hdl.idx, Ptr.add, ha, Option.map_some, Nat.mul_one, Store.st, ho]
    rw [if_pos ⟨⟨hp, by omega⟩, hv⟩]
  · apply List.ext_getElem?
    intro j
    have hj : l[j]? = ((cs.drop o).take l.length)[j]? := by rw [k4]
    rw [List.length_set, List.getElem?_take, List.getElem?_set]
    rw [List.getElem?_take] at hj
    by_cases c : j < l.length
    · rw [if_pos c] at hj ⊢
      rw [List.getElem?_drop] at hj ⊢
      rw [List.getElem?_set]
      by_cases e : i.toNat = j
      · subst e
        rw [if_pos rfl, if_pos rfl, if_pos (by omega), if_pos hlt]
      · rw [if_neg (by omega), if_neg e]; exact hj.symm
    · rw [if_neg c, if_neg (by omega)]
      rw [List.getElem?_eq_none (by omega)]
end Go.Ab


/- Rounds of loops over functions. -/
namespace Go.Ab
open Go
set_option linter.unusedVariables false
theorem setO_get (σ : Store) (l : Nat) (o : AObj) (h : l < σ.objs.length) (b : Nat) : (σ.setO l o).objs[b]? = if b = l then some o else σ.objs[b]? := by
  show (σ.objs.set l o)[b]? = _
  rw [List.getElem?_set]
  by_cases e : l = b
  · rw [if_pos e, if_pos e.symm, if_pos (e ▸ h)]
  · rw [if_neg e, if_neg (Ne.symm e)]
section
variable {P : Program} [Told P]
/-- What a round comes to. -/
def RunsY (P : Program) [Told P] (l : Nat) (args : List AV) (σ : Store) (v : AV) (σ' : Store) : Prop := Ev (fun k => gm P k (.yl l) args σ) (v, σ')
theorem RunsY.intro {l : Nat} {φ : Fr} {ps : List Tmp} {x y : Code} {nt : Nat} {args : List AV} {σ : Store} (hl : σ.objs[l]? = some (.loop φ ps x y nt .ready)) (hp : σ.prot ≤ l) (ha : ps.length = args.length) (hall : (ps.all fun t => Nat.blt t nt) = true)
    {φ1 : Fr} (hx : ∀ k, evCode P (gm P k) drawn k nt false x ⟨liveC y ⟨0, 0, []⟩, 0, []⟩ (roundFr ps args φ) σ (fun e φ1 σ1 => some ((e, φ1, σ1) : LX)) = some (.normal, φ1, σ))
    {σ2 : Store} (hy : Ev (fun k => evCode P (gm P k) drawn k nt false y ⟨0, 0, []⟩ (φ1.sel (liveC y ⟨0, 0, []⟩) nt) (σ.setO l (.loop φ ps x y nt .busy)) (fun e _ σ2 => some (e, σ2))) (.normal, σ2)) (h2 : σ2.objs[l]? = some (.loop φ ps x y nt .busy)) :
    RunsY P l args σ (.bool true) (σ2.setO l (.loop φ ps x y nt .ready)) := by
  obtain ⟨k0, hy⟩ := hy
  refine ⟨k0 + 1, fun k hk => ?_⟩
  obtain ⟨k, rfl⟩ : ∃ i, k = i + 1 := ⟨k - 1, by omega⟩
  simp only [gm, gam, evRound, hl]
  rw [if_pos ⟨hp, ha, hall⟩]
  have hx' := hx k
  have hy' := hy k (by omega)
  simp only [gm] at hx' hy'
  rw [hx']
  simp only [Option.bind_some, hl]
  rw [hy']
  simp only [Option.bind_some, h2]
end
end Go.Ab


/- Rows known whole, rows that grow, loops; how a reading is stepped by simp. -/
namespace Go.Ab
open Go
set_option linter.unusedVariables false
@[congr] theorem bindC {α β : Type} {x x' : Option α} {f : α → Option β} (h : x = x') : Option.bind x f = Option.bind x' f := by rw [h]
@[congr] theorem iteC {α : Type} {c c' : Prop} [Decidable c] [Decidable c'] {a b : α} (h : c = c') : (if c then a else b) = (if c' then a else b) := by
  subst h; congr
theorem beqFT : (false == true) = false := rfl
theorem beqTF : (true == false) = false := rfl
/-- A loop by a measure. -/
theorem EvI.while {S R : Type} {f : Nat → S → Option (S ⊕ R)} (I : Nat → S → Prop) (Q : R → Prop)
    (step : ∀ m s, I m s → (∃ m' s', m' < m ∧ Ev (fun k => f k s) (.inl s') ∧ I m' s') ∨ ∃ r, Ev (fun k => f k s) (.inr r) ∧ Q r) (m : Nat) : ∀ s, I m s → ∃ r, EvI f s r ∧ Q r := by
  induction m using Nat.strongRecOn with
  | ind m ih =>
    intro s hs
    rcases step m s hs with ⟨m', s', h1, h2, h3⟩ | ⟨r, h1, h2⟩
    · obtain ⟨r, g1, g2⟩ := ih m' h1 s' h3
      exact ⟨r, EvI.step h2 g1, g2⟩
    · exact ⟨r, EvI.done h1, h2⟩
/-- A loop that counts up to n, and may be left before. -/
theorem EvI.upX {S R : Type} {f : Nat → S → Option (S ⊕ R)} (n : Nat) (I : Nat → S → Prop) (Q : R → Prop)
    (step : ∀ i s, i < n → I i s → (∃ s', Ev (fun k => f k s) (.inl s') ∧ I (i + 1) s') ∨ ∃ r, Ev (fun k => f k s) (.inr r) ∧ Q r)
    (last : ∀ s, I n s → ∃ r, Ev (fun k => f k s) (.inr r) ∧ Q r) {i : Nat} (hi : i ≤ n) {s : S} (h : I i s) : ∃ r, EvI f s r ∧ Q r := by
  refine EvI.while (fun m s => ∃ i, m = n - i ∧ i ≤ n ∧ I i s) Q ?_ (n - i) s ⟨i, rfl, hi, h⟩
  rintro m s ⟨i, rfl, hi, h⟩
  by_cases c : i < n
  · rcases step i s c h with ⟨s', h1, h2⟩ | r
    · exact .inl ⟨n - (i + 1), s', by omega, h1, i + 1, rfl, by omega, h2⟩
    · exact .inr r
  · have : i = n := by omega
    subst this
    exact .inr (last s h)
theorem EvI.up {S R : Type} {f : Nat → S → Option (S ⊕ R)} (n : Nat) (I : Nat → S → Prop) (Q : R → Prop)
    (step : ∀ i s, i < n → I i s → ∃ s', Ev (fun k => f k s) (.inl s') ∧ I (i + 1) s')
    (last : ∀ s, I n s → ∃ r, Ev (fun k => f k s) (.inr r) ∧ Q r) {s : S} (h : I 0 s) : ∃ r, EvI f s r ∧ Q r :=
  EvI.upX n I Q (fun i s hi h => .inl (step i s hi h)) last (Nat.zero_le _) h
/-- A loop that counts down to 0. -/
theorem EvI.downX {S R : Type} {f : Nat → S → Option (S ⊕ R)} (I : Nat → S → Prop) (Q : R → Prop)
    (step : ∀ i s, I (i + 1) s → (∃ s', Ev (fun k => f k s) (.inl s') ∧ I i s') ∨ ∃ r, Ev (fun k => f k s) (.inr r) ∧ Q r)
    (last : ∀ s, I 0 s → ∃ r, Ev (fun k => f k s) (.inr r) ∧ Q r) (n : Nat) {s : S} (h : I n s) : ∃ r, EvI f s r ∧ Q r := by
  refine EvI.while I Q ?_ n s h
  intro m s h
  cases m with
  | zero => exact .inr (last s h)
  | succ m => rcases step m s h with ⟨s', h1, h2⟩ | r
              · exact .inl ⟨m, s', by omega, h1, h2⟩
              · exact .inr r
theorem Ev.mk {α : Type} {f : Nat → Option α} {x : α} (k0 : Nat) (h : ∀ k, k0 ≤ k → f k = some x) : Ev f x := ⟨k0, h⟩
/-! ### rows -/
/-- Row b holds l, and may be written. -/
def Store.Row (σ : Store) (b es : Nat) (l : List AV) : Prop := σ.objs[b]? = some (.cells l true es)
section
variable {σ σ' σ0 : Store} {b c es es' n m : Nat} {l l' : List AV}
theorem Store.Row.lt (r : σ.Row b es l) : b < σ.objs.length := (List.getElem?_eq_some_iff.1 r).1
theorem Store.Row.sl (r : σ.Row b es l) {len : Nat} {cp : Option Nat} (hn : len * es = l.length) : σ.Sl ⟨some (b, 0), len, cp⟩ es l :=
  ⟨hn, .inr ⟨b, 0, l, true, rfl, r, by simp, by rw [List.drop_zero, List.take_of_length_le (Nat.le_refl _)]⟩⟩
theorem Store.Row.cell (r : σ.Row b es l) (o : Nat) : σ.cell (some (b, o)) = l[o]? := by simp only [Store.cell]; rw [r]
theorem Store.Row.setO_eq (h : b < σ.objs.length) : (σ.setO b (.cells l true es)).Row b es l := by unfold Store.Row; rw [setO_get σ b _ h, if_pos rfl]
theorem Store.Row.setO_ne (r : σ.Row b es l) (h : c ≠ b) {o : AObj} : (σ.setO c o).Row b es l := by
  unfold Store.Row; show (σ.objs.set c o)[b]? = _; rw [List.getElem?_set, if_neg h]; exact r
theorem Store.Row.push (r : σ.Row b es l) : (σ.push l' es').Row b es l := by
  unfold Store.Row Store.push; simp only []; rw [List.getElem?_append_left r.lt]; exact r
theorem Store.Row.new : (σ.push l es).Row σ.objs.length es l := by simp [Store.Row, Store.push]
theorem Store.Row.kp (r : σ.Row b es l) (k : Kp n σ σ') (h : b < n) : σ'.Row b es l := (k.keep b h).trans r
theorem Store.Row.off (r : σ.Row b es l) (k : Off c σ σ') (h : b ≠ c) : σ'.Row b es l := (k.off b h).trans r
@[simp] theorem push_len : (σ.push l es).objs.length = σ.objs.length + 1 := by simp [Store.push]
@[simp] theorem push_prot : (σ.push l es).prot = σ.prot := rfl
@[simp] theorem setO_len {o : AObj} : (σ.setO b o).objs.length = σ.objs.length := by simp [Store.setO]
@[simp] theorem setO_prot {o : AObj} : (σ.setO b o).prot = σ.prot := rfl
theorem Kp.setO (k : Kp n σ0 σ) (h : n ≤ b) {o : AObj} : Kp n σ0 (σ.setO b o) :=
  ⟨k.prot, by rw [setO_len]; exact k.len, fun c hc => by show (σ.objs.set b o)[c]? = _; rw [List.getElem?_set, if_neg (by omega)]; exact k.keep c hc⟩
theorem Kp.push' (k : Kp n σ0 σ) (h : n ≤ σ.objs.length) : Kp n σ0 (σ.push l es) := k.trans (Kp.push l es h)
theorem Kp.then (k : Kp n σ0 σ) (k' : Kp m σ σ') (h : n ≤ m) : Kp n σ0 σ' := k.trans (k'.mono h)
theorem Kp.all (k : Kp σ0.objs.length σ0 σ) (k' : Kp σ.objs.length σ σ') : Kp σ0.objs.length σ0 σ' := k.then k' k.len
/-- A row is written. -/
theorem st_row (r : σ.Row b 1 l) (hp : σ.prot ≤ b) {i : Int} (h0 : 0 ≤ i) (h1 : i < l.length) {v : AV} (hv : v.one = true) {len : Nat} {cp : Option Nat} :
    σ.stL (Hdl.idx ⟨some (b, 0), len, cp⟩ i 1) [v] 0 = some (σ.setO b (.cells (l.set i.toNat v) true 1)) := by
  have : σ.objs[b]? = some (.cells l true 1) := r
  rw [stL_one]
  simp only [Hdl.idx, Ptr.add, Option.map_some, Nat.mul_one, Nat.zero_add, Store.st, this]
  rw [if_pos ⟨⟨hp, by omega⟩, hv⟩]
  rfl
theorem st_cell (r : σ.Row b es l) (hp : σ.prot ≤ b) {o : Nat} (h1 : o < l.length) {v : AV} (hv : v.one = true) :
    σ.stL (some (b, o)) [v] 0 = some (σ.setO b (.cells (l.set o v) true es)) := by
  have : σ.objs[b]? = some (.cells l true es) := r
  rw [stL_one]
  simp only [Store.st, this]
  rw [if_pos ⟨⟨hp, h1⟩, hv⟩]
  rfl
theorem intsL_set' (l : List Int) (n : Nat) (x : Int) : (intsL l).set n (.int .i64 x) = intsL (l.set n x) := by simp [intsL, List.map_set]
theorem intsL_append (l m : List Int) : intsL (l ++ m) = intsL l ++ intsL m := by simp [intsL]
/-! ### rows that grow -/
structure Grow (σ : Store) (n : Nat) (h : Hdl) (es : Nat) (l : List AV) : Prop where
  sl : σ.Sl h es l
  own : σ.Own n h es
theorem Grow.nil (σ : Store) (n es : Nat) : Grow σ n Hdl.nil es [] := ⟨⟨by simp [Hdl.nil], .inl rfl⟩, ⟨fun b o e => by simp [Hdl.nil] at e, fun _ => rfl⟩⟩
theorem Grow.rowLt {h : Hdl} (g : Grow σ n h es l) : ∀ b o, h.a = some (b, o) → n ≤ b ∧ b < σ.objs.length := fun b o e => by
  obtain ⟨h1, cs, h2, _⟩ := g.own.own b o e
  exact ⟨h1, (List.getElem?_eq_some_iff.1 h2).1⟩
theorem Grow.keep {h : Hdl} (g : Grow σ n h es l) (k : ∀ b o, h.a = some (b, o) → σ'.objs[b]? = σ.objs[b]?) : Grow σ' n h es l :=
  ⟨g.sl.keep k, ⟨fun b o e => by
    obtain ⟨h1, cs, h2, h3, h4⟩ := g.own.own b o e
    exact ⟨h1, cs, (k b o e).trans h2, h3, h4⟩, g.own.nil⟩⟩
theorem Grow.kp {h : Hdl} (g : Grow σ n h es l) (k : Kp σ.objs.length σ σ') : Grow σ' n h es l := g.keep fun b o e => k.keep b (g.rowLt b o e).2
theorem Grow.setO {h : Hdl} (g : Grow σ n h es l) (hc : c < n) {o : AObj} : Grow (σ.setO c o) n h es l := g.keep fun b o' e => by
  have := (g.rowLt b o' e).1
  show (σ.objs.set c o)[b]? = _
  rw [List.getElem?_set, if_neg (by omega)]
theorem Grow.mono {h : Hdl} (g : Grow σ n h es l) (hm : m ≤ n) : Grow σ m h es l :=
  ⟨g.sl, ⟨fun b o e => by obtain ⟨h1, h2⟩ := g.own.own b o e; exact ⟨by omega, h2⟩, g.own.nil⟩⟩
theorem Grow.len {h : Hdl} (g : Grow σ n h 1 l) : h.len = l.length := by have := g.sl.len; simpa using this
theorem read1 (σ : Store) (v : AV) (cp : Option Nat) : Store.readSl (σ.push [v] 1) ⟨some (σ.objs.length, 0), 1, cp⟩ 1 = some [v] :=
  (Store.Row.new.sl (by rfl)).read
/-- append of one value. -/
theorem Grow.app1 {h : Hdl} (g : Grow σ n h 1 l) (hp : σ.prot ≤ n) (hn : n ≤ σ.objs.length) {v : AV} (hv : v.one = true) {bs : Nat} (hb : 0 < bs) (hc : (l.length + 1) * bs ≤ 140737488355328) :
    ∃ h' σ', Store.app (σ.push [v] 1) h 1 bs [v] 1 = some (h', σ') ∧ Kp n σ σ' ∧ Grow σ' n h' 1 (l ++ [v]) := by
  have k := Kp.push [v] 1 (σ := σ) (Nat.le_refl _)
  have g' := g.kp k
  have hl := g.len
  obtain ⟨h', σ', e, k', s', o', _⟩ := app_spec (xs := [v]) (by_ := bs) (m := 1) g'.sl g'.own (by simpa using hp) (by simp; omega) (by omega) (by simp) (by simp [hv]) hb (by rw [hl]; exact hc)
  exact ⟨h', σ', e, (Kp.push [v] 1 hn).trans k', ⟨s', o'⟩⟩
end
theorem app_row {σ σ' : Store} {h h' : Hdl} {es bs m : Nat} {xs : List AV} (e : σ.app h es bs xs m = some (h', σ')) : h'.row = h.row ∨ h'.row = some σ.objs.length := by
  unfold Store.app at e
  split at e
  · injection e with e; injection e with e1 e2; subst e1; exact .inl rfl
  · split at e
    · split at e
      · injection e with e; injection e with e1 e2; subst e1; exact .inr rfl
      · rename_i b o ha
        split at e
        · split at e
          · split at e
            · split at e
              · split at e
                · injection e with e; injection e with e1 e2; subst e1; exact .inl (by simp [Hdl.row, ha])
                · cases e
              · injection e with e; injection e with e1 e2; subst e1; exact .inr rfl
            · split at e
              · injection e with e; injection e with e1 e2; subst e1; exact .inr rfl
              · cases e
          · cases e
        · cases e
    · cases e
/-- append of one value, and what else stays. -/
theorem Grow.app1X {σ : Store} {n : Nat} {h : Hdl} {l : List AV} (g : Grow σ n h 1 l) (hp : σ.prot ≤ n) (hn : n ≤ σ.objs.length) {v : AV} (hv : v.one = true) {bs : Nat} (hb : 0 < bs) (hc : (l.length + 1) * bs ≤ 140737488355328) :
    ∃ h' σ', Store.app (σ.push [v] 1) h 1 bs [v] 1 = some (h', σ') ∧ Kp n σ σ' ∧ Grow σ' n h' 1 (l ++ [v]) ∧ (∀ b, b < σ.objs.length → h.row ≠ some b → σ'.objs[b]? = σ.objs[b]?) ∧ (h'.row = h.row ∨ ∀ b, h'.row = some b → σ.objs.length ≤ b) := by
  have k := Kp.push [v] 1 (σ := σ) (Nat.le_refl _)
  have g' := g.kp k
  have hl := g.len
  obtain ⟨h', σ', e, k', s', o', _, fr⟩ := app_spec (xs := [v]) (by_ := bs) (m := 1) g'.sl g'.own (by simpa using hp) (by simp; omega) (by omega) (by simp) (by simp [hv]) hb (by rw [hl]; exact hc)
  refine ⟨h', σ', e, (Kp.push [v] 1 hn).trans k', ⟨s', o'⟩, fun b hb hr => ?_, ?_⟩
  · rw [fr b (fun c o e' e2 => hr (by simp [Hdl.row, e', e2])) (by simp; omega)]
    simp only [Store.push]; rw [List.getElem?_append_left hb]
  · rcases app_row e with r | r
    · exact .inl r
    · refine .inr fun b hb => ?_
      rw [r] at hb; injection hb with hb; subst hb; simp
theorem Grow.keepX {σ σ' : Store} {n : Nat} {h : Hdl} {es : Nat} {l : List AV} (g : Grow σ n h es l) (k : ∀ b, h.row = some b → σ'.objs[b]? = σ.objs[b]?) : Grow σ' n h es l := g.keep fun b o e => k b (by simp [Hdl.row, e])
/-- One cell of a row that grows is written. -/
theorem Grow.st {σ : Store} {n : Nat} {h : Hdl} {l : List AV} (g : Grow σ n h 1 l) (hp : σ.prot ≤ n) {i : Int} (h0 : 0 ≤ i) (h1 : i < l.length) {v : AV} (hv : v.one = true) :
    ∃ σ', σ.stL (h.idx i 1) [v] 0 = some σ' ∧ Kp n σ σ' ∧ Grow σ' n h 1 (l.set i.toNat v) ∧ σ'.objs.length = σ.objs.length := by
  have hl := g.len
  cases ha : h.a with
  | none => have := g.own.nil ha; omega
  | some bo =>
    obtain ⟨b, o⟩ := bo
    obtain ⟨hb, cs, k1, k2, k3⟩ := g.own.own b o ha
    have hbl : b < σ.objs.length := (List.getElem?_eq_some_iff.1 k1).1
    obtain ⟨σ', e, off, s', w'⟩ := st_spec g.sl ⟨b, o, cs, ha, k1, by omega⟩ h0 h1 hv (b := b) (by simp [Hdl.row, ha])
    have e2 : σ.stL (h.idx i 1) [v] 0 = some (σ.setO b (.cells (cs.set (o + i.toNat) v) true 1)) := by
      rw [stL_one]
      simp only [Hdl.idx, Ptr.add, ha, Option.map_some, Nat.mul_one, Store.st, k1]
      rw [if_pos ⟨⟨by omega, by omega⟩, hv⟩]
      rfl
    rw [e2] at e
    injection e with e
    refine ⟨_, e2, (Kp.refl n σ).setO hb, ⟨by rw [e]; exact s', ⟨fun b' o' e' => ?_, g.own.nil⟩⟩, by simp⟩
    rw [ha] at e'; injection e' with e'; injection e' with e1 e2; subst e1 e2
    exact ⟨hb, _, Store.Row.setO_eq hbl, by simpa using k2, fun c hc => by simpa using k3 c hc⟩
/-- A growing row of numbers. -/
abbrev GrowI (σ : Store) (n : Nat) (h : Hdl) (l : List Int) : Prop := Grow σ n h 1 (intsL l)
theorem GrowI.app {σ : Store} {n : Nat} {h : Hdl} {l : List Int} (g : GrowI σ n h l) (hp : σ.prot ≤ n) (hn : n ≤ σ.objs.length) (x : Int) (hc : l.length < 2 ^ 42) :
    ∃ h' σ', Store.app (σ.push [.int .i64 x] 1) h 1 8 [.int .i64 x] 1 = some (h', σ') ∧ Kp n σ σ' ∧ GrowI σ' n h' (l ++ [x]) := by
  obtain ⟨h', σ', e, k, g'⟩ := Grow.app1 g hp hn (v := .int .i64 x) rfl (bs := 8) (by omega) (by simp; omega)
  exact ⟨h', σ', e, k, by rw [GrowI, intsL_append]; exact g'⟩
theorem Grow.ints {σ : Store} {n : Nat} {h : Hdl} {l : List Int} (g : Grow σ n h 1 (intsL l)) : σ.Ints h l := g.sl
theorem GrowI.ints {σ : Store} {n : Nat} {h : Hdl} {l : List Int} (g : GrowI σ n h l) : σ.Ints h l := g.sl
end Go.Ab


/- What a law's call comes to, out of the store that its arguments make. -/
namespace Go.Ab
open Go
set_option linter.unusedVariables false
/-- The store that arguments make: rows that are not written. -/
structure Inp (w : World) (μ : Mu) (σ : Store) (args : List AV) (cargs : List Value) : Prop where
  rel : Rel μ σ w
  vl : VL μ args cargs
  pr : σ.prot = σ.objs.length
  no : ∀ (b : Nat) (o : AObj), σ.objs[b]? = some o → o.free = false ∧ o.other = false
theorem Inp.nil (w : World) : Inp w (fun _ => none) ⟨[], 0⟩ [] [] :=
  ⟨⟨by simp, by simp, by simp, by simp, by simp, by simp⟩, VL.nil _, rfl, by simp⟩
theorem VL.snoc {μ : Mu} {v : AV} {c : Value} {l : List AV} {l' : List Value} (hl : VL μ l l') (h : VR μ v c) : VL μ (l ++ [v]) (l' ++ [c]) := hl.append (VL.cons h (VL.nil _))
theorem Inp.val {w : World} {μ : Mu} {σ : Store} {args : List AV} {cargs : List Value} (I : Inp w μ σ args cargs) {v : AV} {c : Value} (h : VR μ v c) : Inp w μ σ (args ++ [v]) (cargs ++ [c]) :=
  ⟨I.rel, I.vl.snoc h, I.pr, I.no⟩
def Mu.add (μ : Mu) (n : Nat) (L : Option Loc) : Mu := fun b => if b = n then L else μ b
def Store.lay (σ : Store) (o : AObj) : Store := ⟨σ.objs ++ [o], σ.objs.length + 1⟩
theorem lay_old {σ : Store} {o : AObj} {b : Nat} (h : b < σ.objs.length) : (σ.lay o).objs[b]? = σ.objs[b]? := by simp only [Store.lay]; rw [List.getElem?_append_left h]
theorem lay_new {σ : Store} {o : AObj} : (σ.lay o).objs[σ.objs.length]? = some o := by simp [Store.lay]
theorem lay_get {σ : Store} {o : AObj} {b : Nat} {x : AObj} (h : (σ.lay o).objs[b]? = some x) : σ.objs[b]? = some x ∨ (b = σ.objs.length ∧ x = o) := by
  by_cases c : b < σ.objs.length
  · rw [lay_old c] at h; exact .inl h
  · have : b < (σ.lay o).objs.length := (List.getElem?_eq_some_iff.1 h).1
    simp [Store.lay] at this
    have e : b = σ.objs.length := by omega
    subst e
    rw [lay_new] at h; injection h with h; exact .inr ⟨rfl, h.symm⟩
@[simp] theorem lay_len {σ : Store} {o : AObj} : (σ.lay o).objs.length = σ.objs.length + 1 := by simp [Store.lay]
theorem Mu.add_mono {μ : Mu} {σ : Store} {w : World} (h : Rel μ σ w) (L : Option Loc) : ∀ b M, μ b = some M → Mu.add μ σ.objs.length L b = some M := fun b M hb => by
  have := h.dom b M hb
  unfold Mu.add; rw [if_neg (by omega)]; exact hb
/-- A dead row is laid. -/
theorem Inp.dead {w : World} {μ : Mu} {σ : Store} {args : List AV} {cargs : List Value} (I : Inp w μ σ args cargs) : Inp w μ (σ.lay .dead) args cargs := by
  refine ⟨⟨fun b L h => by have := I.rel.dom b L h; simp; omega, I.rel.dat, ?_, ?_, ?_, ?_⟩, I.vl, by simp [Store.lay], fun b o h => ?_⟩
  · intro b l rw es L h hb
    rw [lay_old (I.rel.dom b L hb)] at h; exact I.rel.cells b l rw es L h hb
  · intro b l es L h hb
    rw [lay_old (I.rel.dom b L hb)] at h; exact I.rel.rw b l es L h hb
  · intro b o L h ho hb
    rw [lay_old (I.rel.dom b L hb)] at h; exact I.rel.obj b o L h ho hb
  · intro b b' o o' L L' h hf h' ha hne hb hb'
    rw [lay_old (I.rel.dom b L hb)] at h; rw [lay_old (I.rel.dom b' L' hb')] at h'; exact I.rel.sep b b' o o' L L' h hf h' ha hne hb hb'
  · rcases lay_get h with h | ⟨_, rfl⟩
    · exact I.no b o h
    · exact ⟨rfl, rfl⟩
/-- A row of cells is laid. -/
theorem Inp.row {w : World} {μ : Mu} {σ : Store} {args : List AV} {cargs : List Value} (I : Inp w μ σ args cargs) {l : List AV} {es : Nat} {L : Loc} (hes : L.es = es) (hN : l.length = L.N) (hd : Dat w L.blk)
    (hc : ∀ (j : Nat) v, l[j]? = some v → ∃ c, w.cell? ⟨L.blk, L.off + j, none⟩ = some c ∧ VR μ v c) : Inp w (Mu.add μ σ.objs.length (some L)) (σ.lay (.cells l false es)) args cargs := by
  have hm := Mu.add_mono I.rel (some L)
  have hnew : Mu.add μ σ.objs.length (some L) σ.objs.length = some L := by simp [Mu.add]
  have hold : ∀ b M, Mu.add μ σ.objs.length (some L) b = some M → (b < σ.objs.length ∧ μ b = some M) ∨ (b = σ.objs.length ∧ M = L) := by
    intro b M h
    by_cases e : b = σ.objs.length
    · rw [e, hnew] at h; injection h with h; exact .inr ⟨e, h.symm⟩
    · unfold Mu.add at h; rw [if_neg e] at h; exact .inl ⟨I.rel.dom b M h, h⟩
  have hno : ∀ (b : Nat) (o : AObj), (σ.lay (.cells l false es)).objs[b]? = some o → o.free = false ∧ o.other = false := fun b o h => by
    rcases lay_get h with h | ⟨_, rfl⟩
    · exact I.no b o h
    · exact ⟨rfl, rfl⟩
  refine ⟨⟨fun b M h => ?_, fun b M h => ?_, ?_, ?_, ?_, ?_⟩, I.vl.mono hm, by simp [Store.lay], hno⟩
  · rcases hold b M h with ⟨h1, _⟩ | ⟨h1, _⟩ <;> simp <;> omega
  · rcases hold b M h with ⟨_, h1⟩ | ⟨_, rfl⟩
    · exact I.rel.dat b M h1
    · exact hd
  · intro b l' rw es' M h hb
    rcases hold b M hb with ⟨h1, h2⟩ | ⟨rfl, rfl⟩
    · rw [lay_old h1] at h
      obtain ⟨a1, a2, a3⟩ := I.rel.cells b l' rw es' M h h2
      exact ⟨a1, a2, fun j v hj => by obtain ⟨c, c1, c2⟩ := a3 j v hj; exact ⟨c, c1, c2.mono hm⟩⟩
    · rw [lay_new] at h; injection h with h; injection h with e1 e2 e3; subst e1 e2 e3
      exact ⟨hes, by omega, fun j v hj => by obtain ⟨c, c1, c2⟩ := hc j v hj; exact ⟨c, c1, c2.mono hm⟩⟩
  · intro b l' es' M h hb
    have := (hno b _ h).1
    cases this
  · intro b o M h ho hb
    rw [(hno b o h).2] at ho; cases ho
  · intro b b' o o' M M' h hf h' ha hne hb hb'
    rw [(hno b o h).1] at hf; cases hf
/-- Did a run answer true? -/
def okTrue : Option (AV × Store) → Bool
  | some (.bool true, _) => true
  | _ => false
theorem Rel.empty (w : World) : Rel (fun _ => none) ⟨[], 0⟩ w := ⟨by simp, by simp, by simp, by simp, by simp, by simp⟩
theorem Ste.same {μ : Mu} {σ : Store} {w w' : World} (h : Rel μ σ w) (h1 : w'.os = w.os) (h2 : w'.tape = w.tape) (h3 : w'.output = w.output) (hs : w.heap.size ≤ w'.heap.size) (hb : ∀ c, c < w.heap.size → w'.heap[c]? = w.heap[c]?) : Ste μ σ w μ σ w' :=
  ⟨h.same hs fun b L hL => hb _ (h.lt b L hL), fun _ _ => rfl, Nat.le_refl _, rfl, fun _ _ _ => rfl, hs, h1, h2, h3, fun c hc _ => hb c hc, fun _ h _ => h⟩
/-- A law's call. -/
theorem law_calls {P : Program} [Told P] (hm : P.follows .mixedOrders = true) (ht : SpS P (Told.sp P) ∧ SpK (Told.sp P)) {f : FuncId} {w : World} {μ : Mu} {σ σ' : Store} {args : List AV} {cargs : Array Value} (I : Inp w μ σ args cargs.toList) (h : Runs P f args σ (.bool true) σ') :
    Calls P f cargs w fun e w' => e = .returned (.bool true) ∧ Go.RowKit.Below w.heap.size w w' := by
  obtain ⟨k, h⟩ := h
  have hs := read_sound (P := P) hm ht.1 ht.2 k
  refine ((hs _ _ _ _ _ (h k (Nat.le_refl _))) μ w cargs I.rel I.vl).2.mono fun e w' ⟨μ', c, e1, e2, e3⟩ => ?_
  subst e1
  cases e2
  refine ⟨rfl, e3.os, e3.tape, e3.output, e3.size, fun k hk => e3.pres k hk ?_⟩
  rintro ⟨b, o, L, h1, h2, _⟩
  rw [(I.no b o h1).1] at h2; cases h2
/-! ### slices of numbers -/
def numsL (k : IntKind) (l : List Int) : List AV := l.map (AV.int k)
@[simp] theorem numsL_length (k : IntKind) (l : List Int) : (numsL k l).length = l.length := by simp [numsL]
def IsRow (k : IntKind) (w : World) (a : Option Addr) (len cap : Nat) (zs : List Int) : Prop :=
  (a = none ∧ len = 0 ∧ cap = 0 ∧ zs = []) ∨
  ∃ x, a = some x ∧ len ≤ cap ∧ cap ≤ maxLen ∧ zs.length = cap ∧ (∀ i, i < zs.length → w.cell? (x.add i) = some (.int k (zs.getD i 0))) ∧ ∀ n ∈ zs, (Lit.int k n).wf = true
/-- What an earlier store reads, a later one reads. -/
def Store.More (σ σ' : Store) : Prop := σ.objs.length ≤ σ'.objs.length ∧ ∀ b, b < σ.objs.length → σ'.objs[b]? = σ.objs[b]?
theorem Store.More.refl (σ : Store) : σ.More σ := ⟨Nat.le_refl _, fun _ _ => rfl⟩
theorem Store.More.trans {σ σ1 σ2 : Store} (h : σ.More σ1) (k : σ1.More σ2) : σ.More σ2 := ⟨Nat.le_trans h.1 k.1, fun b hb => (k.2 b (Nat.lt_of_lt_of_le hb h.1)).trans (h.2 b hb)⟩
theorem Store.More.lay (σ : Store) (o : AObj) : σ.More (σ.lay o) := ⟨by simp, fun b hb => lay_old hb⟩
theorem Store.Sl.more {σ σ' : Store} {h : Hdl} {es : Nat} {l : List AV} (s : σ.Sl h es l) (m : σ.More σ') : σ'.Sl h es l := by
  refine ⟨s.len, ?_⟩
  rcases s.row with h1 | ⟨b, o, cs, rw, h1, h2, h3, h4⟩
  · exact .inl h1
  · exact .inr ⟨b, o, cs, rw, h1, (m.2 b (List.getElem?_eq_some_iff.1 h2).1).trans h2, h3, h4⟩
/-- A slice's row is there. -/
def Store.Has (σ : Store) (h : Hdl) : Prop := ∀ b, h.row = some b → b < σ.objs.length
theorem Store.Has.more {σ σ' : Store} {h : Hdl} (s : σ.Has h) (m : σ.More σ') : σ'.Has h := fun b hb => Nat.lt_of_lt_of_le (s b hb) m.1
theorem cell_dat {w : World} {a : Addr} {c : Value} (h : w.cell? a = some c) : Dat w a.block ∧ a.spot = none := by
  unfold World.cell? at h
  split at h
  · rename_i x ty fz e
    split at h
    · cases h
    · rename_i hs
      exact ⟨.inl ⟨_, _, _, e⟩, by simpa using hs⟩
  · cases h
/-- A slice of values, each known. -/
theorem Inp.slice {w : World} {μ : Mu} {σ : Store} {args : List AV} {cargs : List Value} (I : Inp w μ σ args cargs) {a : Option Addr} {len cap : Nat} {l : List AV}
    (h : (a = none ∧ len = 0 ∧ cap = 0 ∧ l = []) ∨ ∃ x, a = some x ∧ len ≤ cap ∧ l.length = cap ∧ ∀ (j : Nat) v, l[j]? = some v → ∃ c, w.cell? (x.add j) = some c ∧ VR μ v c) :
    ∃ h' μ' σ', Inp w μ' σ' (args ++ [.slice h']) (cargs ++ [.slice a len cap]) ∧ σ.More σ' ∧ σ'.Sl h' 1 (l.take len) ∧ σ'.Has h' ∧ (∀ b L, μ b = some L → μ' b = some L) ∧ VR μ' (.slice h') (.slice a len cap) := by
  rcases h with ⟨rfl, rfl, rfl, rfl⟩ | ⟨x, rfl, hl, hc, hx⟩
  · have hv : VR μ (.slice ⟨none, 0, some 0⟩) (.slice none 0 0) := .slN (by simp)
    exact ⟨⟨none, 0, some 0⟩, μ, σ, I.val hv, .refl _, ⟨by simp, .inl rfl⟩, fun b hb => by simp [Hdl.row] at hb, fun _ _ h => h, hv⟩
  · by_cases c0 : cap = 0
    · subst c0
      have : len = 0 := by omega
      subst this
      have hv : VR μ (.slice ⟨some (σ.objs.length, 0), 0, some 0⟩) (.slice (some x) 0 0) := .sl0 (by simp)
      exact ⟨⟨some (σ.objs.length, 0), 0, some 0⟩, μ, _, I.dead.val hv, .lay _ _, ⟨by simp, .inl rfl⟩, fun b hb => by simp [Hdl.row] at hb; simp; omega, fun _ _ h => h, hv⟩
    · obtain ⟨v0, hv0⟩ : ∃ v, l[0]? = some v := ⟨_, List.getElem?_eq_getElem (by omega)⟩
      obtain ⟨c0', hc0, _⟩ := hx 0 v0 hv0
      obtain ⟨hd, hs⟩ := cell_dat (by simpa [Addr.add] using hc0 : w.cell? x = some c0')
      have hrow := I.row (l := l) (es := 1) (L := ⟨x.block, x.off, cap, 1⟩) rfl hc hd fun j v hj => by
        obtain ⟨c, h1, h2⟩ := hx j v hj
        refine ⟨c, ?_, h2⟩
        rw [← h1]
        cases j with
        | zero => cases x; simp at hs; subst hs; simp [Addr.add]
        | succ j => simp [Addr.add]
      have hnew : Mu.add μ σ.objs.length (some ⟨x.block, x.off, cap, 1⟩) σ.objs.length = some ⟨x.block, x.off, cap, 1⟩ := by simp [Mu.add]
      have hv : VR (Mu.add μ σ.objs.length (some ⟨x.block, x.off, cap, 1⟩)) (.slice ⟨some (σ.objs.length, 0), len, some cap⟩) (.slice (some x) len cap) := by
        have := VR.sl (len := len) (cap := cap) (c := some cap) (o := 0) hnew (by simp) hl (by simp)
        have e : (⟨x.block, x.off + 0, none⟩ : Addr) = x := by cases x; simp at hs; subst hs; rfl
        rwa [e] at this
      refine ⟨⟨some (σ.objs.length, 0), len, some cap⟩, _, _, hrow.val hv, .lay _ _, ⟨by simp; omega, .inr ⟨σ.objs.length, 0, l, false, rfl, lay_new, by simp; omega, ?_⟩⟩, fun b hb => by simp [Hdl.row] at hb; simp; omega, Mu.add_mono I.rel _, hv⟩
      rw [List.drop_zero, List.length_take, Nat.min_eq_left (by omega)]
/-- A slice of numbers. -/
theorem Inp.nums {w : World} {μ : Mu} {σ : Store} {args : List AV} {cargs : List Value} (I : Inp w μ σ args cargs) {k : IntKind} {a : Option Addr} {len cap : Nat} {zs : List Int} (h : IsRow k w a len cap zs) :
    ∃ h' μ' σ' l, Inp w μ' σ' (args ++ [.slice h']) (cargs ++ [.slice a len cap]) ∧ σ.More σ' ∧ σ'.Sl h' 1 (numsL k l) ∧ σ'.Has h' ∧ l.length = len ∧ (∀ n ∈ l, (Lit.int k n).wf = true) ∧ (∀ b L, μ b = some L → μ' b = some L) ∧ VR μ' (.slice h') (.slice a len cap) := by
  obtain ⟨h', μ', σ', h1, h2, h3, h4, h5, h6⟩ := I.slice (a := a) (len := len) (cap := cap) (l := numsL k zs) (by
    rcases h with ⟨rfl, rfl, rfl, rfl⟩ | ⟨x, rfl, hl, hm, hz, hcell, hw⟩
    · exact .inl ⟨rfl, rfl, rfl, rfl⟩
    · refine .inr ⟨x, rfl, hl, by simpa using hz, fun j v hj => ?_⟩
      simp only [numsL, List.getElem?_map, Option.map_eq_some_iff] at hj
      obtain ⟨n, hn, rfl⟩ := hj
      obtain ⟨hlt, e⟩ := List.getElem?_eq_some_iff.1 hn
      refine ⟨_, hcell j hlt, ?_⟩
      rw [List.getD_eq_getElem?_getD, hn]; exact .int ..)
  refine ⟨h', μ', σ', zs.take len, h1, h2, by simpa [numsL, List.map_take] using h3, h4, ?_, fun n hn => ?_, h5, h6⟩
  · rcases h with ⟨rfl, rfl, rfl, rfl⟩ | ⟨x, rfl, hl, hm, hz, _⟩
    · rfl
    · simp; omega
  · rcases h with ⟨rfl, rfl, rfl, rfl⟩ | ⟨x, rfl, hl, hm, hz, _, hw⟩
    · cases (List.mem_of_mem_take hn)
    · exact hw n (List.mem_of_mem_take hn)
end Go.Ab


/- Lists read and written by whole numbers. -/
namespace Go.Ab.Wd
def rd (xs : List Int) (i : Int) : Int := xs.getD i.toNat 0
def rdOf {α : Type} (d : α) (xs : List α) (i : Int) : α := xs.getD i.toNat d
end Go.Ab.Wd


/- Lists of numbers, their order, what two begin with in common; lists that have each place once; sorted suffixes. Plain Lean, no program. -/
namespace Go.Ab.Bs
open Go.Ab.Wd
set_option linter.unusedVariables false
set_option linter.unusedSimpArgs false

/-! ### order -/
def llt : List Int → List Int → Prop
  | [], [] => False
  | [], _ :: _ => True
  | _ :: _, [] => False
  | x :: xs, y :: ys => x < y ∨ (x = y ∧ llt xs ys)
theorem llt_irrefl : ∀ a : List Int, ¬ llt a a
  | [] => by simp [llt]
  | x :: xs => by simp [llt, llt_irrefl xs]
theorem llt_trans : ∀ {a b c : List Int}, llt a b → llt b c → llt a c
  | [], [], _, h, _ => by simp [llt] at h
  | [], _ :: _, [], _, h => by simp [llt] at h
  | [], _ :: _, _ :: _, _, _ => by simp [llt]
  | _ :: _, [], _, h, _ => by simp [llt] at h
  | _ :: _, _ :: _, [], _, h => by simp [llt] at h
  | x :: xs, y :: ys, z :: zs, h, k => by
    simp only [llt] at h k ⊢
    rcases h with h | ⟨rfl, h⟩
    · rcases k with k | ⟨rfl, k⟩
      · exact .inl (by omega)
      · exact .inl h
    · rcases k with k | ⟨rfl, k⟩
      · exact .inl k
      · exact .inr ⟨rfl, llt_trans h k⟩
theorem llt_tri : ∀ a b : List Int, llt a b ∨ a = b ∨ llt b a
  | [], [] => .inr (.inl rfl)
  | [], _ :: _ => .inl (by simp [llt])
  | _ :: _, [] => .inr (.inr (by simp [llt]))
  | x :: xs, y :: ys => by
    simp only [llt]
    rcases Int.lt_trichotomy x y with h | rfl | h
    · exact .inl (.inl h)
    · rcases llt_tri xs ys with h | rfl | h
      · exact .inl (.inr ⟨rfl, h⟩)
      · exact .inr (.inl rfl)
      · exact .inr (.inr (.inr ⟨rfl, h⟩))
    · exact .inr (.inr (.inl h))
theorem llt_asymm {a b : List Int} (h : llt a b) : ¬ llt b a := fun k => llt_irrefl _ (llt_trans h k)

/-! ### what two lists begin with in common -/
/-! ### lists that have each place once -/
theorem nodup_sub_len : ∀ {l m : List Int}, l.Nodup → (∀ x ∈ l, x ∈ m) → l.length ≤ m.length
  | [], _, _, _ => by simp
  | a :: l, m, hn, hs => by
    rw [List.nodup_cons] at hn
    have hm : a ∈ m := hs a (List.mem_cons_self ..)
    have := nodup_sub_len (m := m.erase a) hn.2 (fun x hx => by
      have hne : x ≠ a := fun e => hn.1 (e ▸ hx)
      rw [List.mem_erase_of_ne hne]
      exact hs x (List.mem_cons_of_mem _ hx))
    rw [List.length_erase_of_mem hm] at this
    have : 0 < m.length := List.length_pos_of_mem hm
    simp only [List.length_cons]
    omega
/-- The list of all places. -/
def places (n : Nat) : List Int := (List.range n).map Int.ofNat
theorem places_length (n : Nat) : (places n).length = n := by simp [places]
theorem mem_places {n : Nat} {p : Int} : p ∈ places n ↔ 0 ≤ p ∧ p < n := by
  simp only [places, List.mem_map, List.mem_range]
  constructor
  · rintro ⟨a, ha, rfl⟩; simp; omega
  · rintro ⟨h0, h1⟩; exact ⟨p.toNat, by omega, by simp; omega⟩
theorem nodup_map_inj {α β : Type} {f : α → β} (hf : ∀ a b, f a = f b → a = b) : ∀ {l : List α}, l.Nodup → (l.map f).Nodup
  | [], _ => by simp
  | a :: l, h => by
    rw [List.nodup_cons] at h
    rw [List.map_cons, List.nodup_cons]
    refine ⟨fun hm => ?_, nodup_map_inj hf h.2⟩
    obtain ⟨b, hb, e⟩ := List.mem_map.1 hm
    exact h.1 (hf _ _ e ▸ hb)
theorem nodup_places (n : Nat) : (places n).Nodup := nodup_map_inj (fun a b h => by injection h) List.nodup_range
structure IsPerm (n : Nat) (sa : List Int) : Prop where
  len : sa.length = n
  rng : ∀ p ∈ sa, 0 ≤ p ∧ p < n
  nd : sa.Nodup
theorem IsPerm.mem {n : Nat} {sa : List Int} (h : IsPerm n sa) {p : Int} (h0 : 0 ≤ p) (h1 : p < n) : p ∈ sa := by
  apply Classical.byContradiction
  intro hp
  have := nodup_sub_len (l := p :: sa) (m := places n) (List.nodup_cons.2 ⟨hp, h.nd⟩) (fun x hx => by
    rw [mem_places]
    rcases List.mem_cons.1 hx with rfl | hx
    · exact ⟨h0, h1⟩
    · exact h.rng x hx)
  rw [places_length, List.length_cons, h.len] at this
  omega
theorem IsPerm.mem_iff {n : Nat} {sa : List Int} (h : IsPerm n sa) {p : Int} : p ∈ sa ↔ 0 ≤ p ∧ p < n := ⟨h.rng p, fun ⟨a, b⟩ => h.mem a b⟩
theorem IsPerm.perm {n : Nat} {sa : List Int} (h : IsPerm n sa) : sa.Perm (places n) :=
  (List.perm_ext_iff_of_nodup h.nd (nodup_places n)).2 fun p => by rw [h.mem_iff, mem_places]
theorem rd_mem {l : List Int} {i : Int} (h0 : 0 ≤ i) (h1 : i < l.length) : rd l i ∈ l := by
  unfold rd
  rw [List.getD_eq_getElem?_getD, List.getElem?_eq_getElem (by omega)]
  simp
theorem rd_getElem {l : List Int} {i : Nat} (h : i < l.length) : rd l (i : Int) = l[i] := by
  unfold rd
  simp [List.getD_eq_getElem?_getD, List.getElem?_eq_getElem h]
theorem mem_rd {l : List Int} {p : Int} (h : p ∈ l) : ∃ i : Int, 0 ≤ i ∧ i < l.length ∧ rd l i = p := by
  obtain ⟨i, hi, e⟩ := List.getElem_of_mem h
  exact ⟨i, by omega, by omega, by rw [rd_getElem hi, e]⟩
theorem ext_rd {a b : List Int} (hl : a.length = b.length) (h : ∀ i : Int, 0 ≤ i → i < a.length → rd a i = rd b i) : a = b := by
  refine List.ext_getElem hl fun i h1 h2 => ?_
  have := h i (by omega) (by omega)
  rwa [rd_getElem h1, rd_getElem h2] at this
theorem rd_set {l : List Int} {i j v : Int} (hi0 : 0 ≤ i) (hi : i < l.length) (hj0 : 0 ≤ j) : rd (l.set i.toNat v) j = if i = j then v else rd l j := by
  unfold rd
  simp only [List.getD_eq_getElem?_getD, List.getElem?_set]
  by_cases e : i = j
  · subst e
    rw [if_pos rfl, if_pos rfl, if_pos (by omega)]
    rfl
  · rw [if_neg (by omega), if_neg e]
/-- Where each place stands. -/
def inv (sa : List Int) : List Int := (List.range sa.length).map fun p => ((sa.idxOf (Int.ofNat p) : Nat) : Int)
/-! ### suffixes -/
/-- Is the suffix p less than the suffix q? -/
def sl (t : List Int) (p q : Int) : Prop := llt (t.drop p.toNat) (t.drop q.toNat)
theorem sl_trans {t : List Int} {p q r : Int} (h : sl t p q) (k : sl t q r) : sl t p r := llt_trans h k
theorem sl_irrefl (t : List Int) (p : Int) : ¬ sl t p p := llt_irrefl _
structure IsSA (t sa : List Int) : Prop where
  perm : IsPerm t.length sa
  ord : sa.Pairwise (sl t)
theorem IsSA.lt {t sa : List Int} (h : IsSA t sa) {i j : Int} (h0 : 0 ≤ i) (hij : i < j) (hj : j < t.length) : sl t (rd sa i) (rd sa j) := by
  obtain ⟨i, rfl⟩ := Int.eq_ofNat_of_zero_le h0
  obtain ⟨j, rfl⟩ := Int.eq_ofNat_of_zero_le (show 0 ≤ j by omega)
  have hl := h.perm.len
  rw [rd_getElem (by omega), rd_getElem (by omega)]
  exact List.pairwise_iff_getElem.1 h.ord i j (by omega) (by omega) (by omega)
theorem IsSA.uniq {t a b : List Int} (ha : IsSA t a) (hb : IsSA t b) : a = b := by
  refine List.Perm.eq_of_pairwise (le := fun p q => sl t p q ∨ p = q) ?_ ?_ ?_ (ha.perm.perm.trans hb.perm.perm.symm)
  · intro p q _ _ h k
    rcases h with h | h
    · rcases k with k | k
      · exact absurd k (llt_asymm h)
      · exact k.symm
    · exact h
  · exact ha.ord.imp fun h => .inl h
  · exact hb.ord.imp fun h => .inl h
theorem IsSA.mk' {t sa : List Int} (hp : IsPerm t.length sa) (ho : ∀ i : Int, 1 ≤ i → i < t.length → sl t (rd sa (i - 1)) (rd sa i)) : IsSA t sa := by
  refine ⟨hp, List.pairwise_iff_getElem.2 fun i j hi hj hij => ?_⟩
  have hl := hp.len
  obtain ⟨d, rfl⟩ : ∃ d, j = i + 1 + d := ⟨j - (i + 1), by omega⟩
  induction d with
  | zero =>
    have := ho ((i + 1 : Nat) : Int) (by omega) (by omega)
    rw [show ((i + 1 : Nat) : Int) - 1 = (i : Int) by omega, rd_getElem hi, rd_getElem hj] at this
    exact this
  | succ d ih =>
    refine sl_trans (ih (by omega) (by omega)) ?_
    have := ho ((i + 1 + (d + 1) : Nat) : Int) (by omega) (by omega)
    rw [show ((i + 1 + (d + 1) : Nat) : Int) - 1 = ((i + 1 + d : Nat) : Int) by omega, rd_getElem (by omega), rd_getElem (by omega)] at this
    exact this

end Go.Ab.Bs


/- Slices of numbers of any kind, read and written by whole numbers. -/
namespace Go.Ab
open Go Go.Ab.Wd Go.Ab.Bs
set_option linter.unusedVariables false
abbrev Store.Nums (k : IntKind) (σ : Store) (h : Hdl) (l : List Int) : Prop := σ.Sl h 1 (numsL k l)
theorem nums_len {k : IntKind} {σ : Store} {h : Hdl} {l : List Int} (s : Store.Nums k σ h l) : h.len = l.length := by have := Store.Sl.len s; simpa using this
theorem nums_rd {k : IntKind} {σ : Store} {h : Hdl} {l : List Int} (s : Store.Nums k σ h l) {i : Int} (h0 : 0 ≤ i) (h1 : i < l.length) : σ.ldInt k (h.idx i 1) = some (rd l i) := by
  have hlt : i.toNat < l.length := by omega
  have : σ.cell (h.idx i 1) = some (.int k l[i.toNat]) := Store.Sl.at s h0 (by simp [numsL, hlt])
  simp [Store.ldInt, this, hlt, rd]
theorem numsL_set (k : IntKind) (l : List Int) (n : Nat) (x : Int) : (numsL k l).set n (.int k x) = numsL k (l.set n x) := by simp [numsL, List.map_set]
theorem numsL_append (k : IntKind) (l m : List Int) : numsL k (l ++ m) = numsL k l ++ numsL k m := by simp [numsL]
theorem mkCells_num (k : IntKind) (n : Nat) : mkCells [.int k 0] n = numsL k (List.replicate n 0) := by simp [mkCells, numsL]
section
variable {k : IntKind} {σ σ' : Store} {b n : Nat} {l : List Int}
theorem row_nums (r : σ.Row b 1 (numsL k l)) {len : Nat} {cp : Option Nat} (hl : len = l.length) : Store.Nums k σ ⟨some (b, 0), len, cp⟩ l := r.sl (by simp [hl])
theorem row_rd (r : σ.Row b 1 (numsL k l)) {i : Int} (h0 : 0 ≤ i) (h1 : i < l.length) {len : Nat} {cp : Option Nat} : σ.ldInt k (Hdl.idx ⟨some (b, 0), len, cp⟩ i 1) = some (rd l i) := by
  have := nums_rd (row_nums r (cp := cp) rfl) h0 h1
  simpa [Hdl.idx] using this
theorem st_nums (r : σ.Row b 1 (numsL k l)) (hp : σ.prot ≤ b) {i : Int} (h0 : 0 ≤ i) (h1 : i < l.length) {x : Int} {len : Nat} {cp : Option Nat} :
    σ.stL (Hdl.idx ⟨some (b, 0), len, cp⟩ i 1) [.int k x] 0 = some (σ.setO b (.cells (numsL k (l.set i.toNat x)) true 1)) := by
  rw [st_row r hp h0 (by simpa using h1) rfl, numsL_set]
end
abbrev GrowN (k : IntKind) (σ : Store) (n : Nat) (h : Hdl) (l : List Int) : Prop := Grow σ n h 1 (numsL k l)
theorem growN_appX {k : IntKind} {σ : Store} {n : Nat} {h : Hdl} {l : List Int} (g : GrowN k σ n h l) (hp : σ.prot ≤ n) (hn : n ≤ σ.objs.length) (x : Int) {bs : Nat} (hb : 0 < bs) (hb8 : bs ≤ 8) (hc : l.length < 2 ^ 42) :
    ∃ h' σ', Store.app (σ.push [.int k x] 1) h 1 bs [.int k x] 1 = some (h', σ') ∧ Kp n σ σ' ∧ GrowN k σ' n h' (l ++ [x]) ∧ (∀ b, b < σ.objs.length → h.row ≠ some b → σ'.objs[b]? = σ.objs[b]?) ∧ (h'.row = h.row ∨ ∀ b, h'.row = some b → σ.objs.length ≤ b) := by
  obtain ⟨h', σ', e, kp, g', f, r⟩ := Grow.app1X g hp hn (v := .int k x) rfl (bs := bs) hb (by
    have : (l.length + 1) * bs ≤ (l.length + 1) * 8 := Nat.mul_le_mul_left _ hb8
    simp only [numsL_length]; omega)
  exact ⟨h', σ', e, kp, by rw [GrowN, numsL_append]; exact g', f, r⟩
theorem Grow.nums {k : IntKind} {σ : Store} {n : Nat} {h : Hdl} {l : List Int} (g : Grow σ n h 1 (numsL k l)) : Store.Nums k σ h l := g.sl
theorem Grow.has {σ : Store} {n : Nat} {h : Hdl} {es : Nat} {l : List AV} (g : Grow σ n h es l) : σ.Has h := fun b hb => by
  cases ha : h.a with
  | none => simp [Hdl.row, ha] at hb
  | some bo => obtain ⟨c, o⟩ := bo; simp [Hdl.row, ha] at hb; subst hb; exact (g.rowLt c o ha).2
theorem Store.Has.kp {σ σ' : Store} {h : Hdl} (s : σ.Has h) {n : Nat} (k : Kp n σ σ') : σ'.Has h := fun b hb => Nat.lt_of_lt_of_le (s b hb) k.len
/-- append([]T{}, l...). -/
theorem copy_app {σ : Store} {h : Hdl} {l : List AV} {bs : Nat} (s : σ.Sl h 1 l) (hp : σ.prot ≤ σ.objs.length) (ho : l.all AV.one = true) (hb : 0 < bs) (hc : l.length * bs ≤ 140737488355328) :
    ∃ h' σ', Store.readSl (σ.push [] 1) h 1 = some l ∧ Store.app (σ.push [] 1) ⟨some (σ.objs.length, 0), 0, some 0⟩ 1 bs l h.len = some (h', σ') ∧ Kp σ.objs.length σ σ' ∧ Grow σ' σ.objs.length h' 1 l := by
  have k := Kp.push [] 1 (σ := σ) (Nat.le_refl _)
  have hl := s.len
  have g0 : Grow (σ.push [] 1) σ.objs.length ⟨some (σ.objs.length, 0), 0, some 0⟩ 1 [] :=
    ⟨⟨by simp, .inl rfl⟩, ⟨fun b o e => by
      simp only [Option.some.injEq, Prod.mk.injEq] at e
      obtain ⟨rfl, rfl⟩ := e
      exact ⟨Nat.le_refl _, [], Store.Row.new, by simp, by simp⟩, by simp⟩⟩
  obtain ⟨h', σ', e, k', s', o', _⟩ := app_spec (xs := l) (by_ := bs) (m := h.len) g0.sl g0.own (by simpa using hp) (by simp) (by omega) (by omega) ho hb (by simp only []; rw [show 0 + h.len = l.length by omega]; exact hc)
  exact ⟨h', σ', (s.kp k).read, e, k.trans k', ⟨by simpa using s', o'⟩⟩
theorem numsL_one (k : IntKind) (l : List Int) : (numsL k l).all AV.one = true := by simp [numsL, AV.one]
theorem intsL_one (l : List Int) : (intsL l).all AV.one = true := by simp [intsL, AV.one]
theorem Store.Has.nil (σ : Store) : σ.Has Hdl.nil := fun b hb => by simp [Hdl.row, Hdl.nil] at hb
/-- A part of a slice. -/
theorem sub_spec {σ : Store} {h : Hdl} {l : List AV} (s : σ.Sl h 1 l) (hh : σ.Has h) {lo hi : Option Int} (h0 : 0 ≤ lo.getD 0) (h1 : lo.getD 0 ≤ hi.getD h.len) (h2 : hi.getD h.len ≤ h.len) :
    ∃ h', σ.sub h 1 lo hi none = some h' ∧ σ.Sl h' 1 ((l.take (hi.getD h.len).toNat).drop (lo.getD 0).toNat) ∧ σ.Has h' ∧ h'.row = h.row := by
  have hl := s.len
  have hes : σ.esOk h 1 = true := by
    unfold Store.esOk
    cases ha : h.a with
    | none => rfl
    | some bo =>
      obtain ⟨b, o⟩ := bo
      rcases s.row with h1 | ⟨b', o', cs, rw, k1, k2, _⟩
      · simp [h1]
      · rw [ha] at k1; injection k1 with k1; injection k1 with k1 k1'; subst k1 k1'
        simp only [k2]
        cases Nat.beq h.len 0 <;> rfl
  have lhi : (hi.getD h.len).toNat ≤ l.length := by omega
  refine ⟨⟨h.a.map fun x => (x.1, x.2 + (lo.getD 0).toNat * 1), (hi.getD h.len).toNat - (lo.getD 0).toNat, h.cap.map (· - (lo.getD 0).toNat)⟩, ?_, ⟨?_, ?_⟩, fun b hb => hh b ?_, ?_⟩
  · unfold Store.sub
    rw [if_pos ⟨⟨hes, by simp, by simp⟩, ⟨by omega, by simpa using h2⟩, h0, h1⟩]
  · rw [List.length_drop, List.length_take, Nat.min_eq_left lhi]; simp
  · by_cases c : (hi.getD h.len).toNat - (lo.getD 0).toNat = 0
    · exact .inl c
    · rcases s.row with k0 | ⟨b, o, cs, rw, k1, k2, k3, k4⟩
      · omega
      · refine .inr ⟨b, o + (lo.getD 0).toNat * 1, cs, rw, by simp [k1], k2, ?_, ?_⟩
        · rw [List.length_drop, List.length_take, Nat.min_eq_left lhi]; omega
        · rw [List.length_drop, List.length_take, Nat.min_eq_left lhi, ← k4]
          rw [List.take_take, Nat.min_eq_left lhi, List.drop_take, List.drop_drop]
          simp
  · cases ha : h.a with
    | none => simp [Hdl.row, ha] at hb
    | some bo => simpa [Hdl.row, ha] using hb
  · cases ha : h.a with
    | none => simp [Hdl.row, ha]
    | some bo => simp [Hdl.row, ha]
end Go.Ab


/- How long a law's slices are. -/
namespace Go.Ab
open Go Go.ChangeShapes Go.WideShapes
/-- A slice of numbers among a law's arguments: its cells, and how long it is. -/
theorem open_nums {H : Type} {enc : TypeId × Value → H} {P : Program} {W : World} {base : Nat} {held : Bool} {t e : TypeId} {k : IntKind} {a : Option Addr} {len cap : Nat} {d : DataW H} {ps : List MemPlace} {ts : List TypeId} {ds : List (DataW H)} {j : Nat}
    (hsz : (DataW.weightsEach P ts ds).all (· ≤ reachBytes) = true) (ht : ts[j]? = some t) (hd : ds[j]? = some d) (hu : P.underlying t = some (.slice e)) (he : P.underlying e = some (.int k)) (hc : P.cellsOf e = 1) {B : Nat} (hB : P.bytesOf e = B)
    (h : DataW.Trod enc P W base (fun _ => true) held t (.slice a len cap) d ps) : (∃ zs, IsRow k W a len cap zs) ∧ len * B ≤ 140737488351232 := by
  obtain ⟨fuel, hf⟩ := h
  rcases open_ints hu he hc hf with ⟨hcs, _⟩ | ⟨x, l, c, zs, hcs, _, hl, hm, hz, hx, hcell, hwz⟩
  · simp [Value.cells] at hcs
    obtain ⟨rfl, rfl, rfl⟩ := hcs
    exact ⟨⟨[], .inl ⟨rfl, rfl, rfl, rfl⟩⟩, by simp⟩
  · simp [Value.cells] at hcs
    obtain ⟨rfl, rfl, rfl⟩ := hcs
    refine ⟨⟨zs, .inr ⟨_, rfl, hl, hm, by simpa using hz, hcell, hwz⟩⟩, ?_⟩
    obtain ⟨hx, _⟩ := Prod.mk.inj hx
    subst hx
    have z := sized_slice hsz ht hd hu
    rw [hB] at z
    have hz' : zs.length = cap := by simpa using hz
    have h1 : (lits (H := H) k (zs.take len)).length + (lits (H := H) k (zs.drop len)).length = zs.length := by
      simp [lits]
      omega
    rw [h1] at z
    exact Nat.le_trans (Nat.mul_le_mul_right _ (by omega)) z
theorem wf_int {k : IntKind} {n : Int} (h : (Lit.int k n).wf = true) : k.min ≤ n ∧ n ≤ k.max := by
  simpa [Lit.wf] using h
/-- The table of bits.Len. -/
def len8list : List UInt8 := [0, 1] ++ List.replicate 2 2 ++ List.replicate 4 3 ++ List.replicate 8 4 ++ List.replicate 16 5 ++ List.replicate 32 6 ++ List.replicate 64 7 ++ List.replicate 128 8
def len8tab : ByteArray := ⟨len8list.toArray⟩
end Go.Ab


/- Sorting of whole numbers in place, as it is told. -/
namespace Go.Ab
open Go
set_option linter.unusedVariables false
/-! ### sorted lists -/
def insL (x : Int) : List Int → List Int
  | [] => [x]
  | y :: l => if x ≤ y then x :: y :: l else y :: insL x l
def sortL : List Int → List Int
  | [] => []
  | x :: l => insL x (sortL l)
theorem insL_perm (x : Int) : ∀ l : List Int, (insL x l).Perm (x :: l)
  | [] => List.Perm.refl _
  | y :: l => by
    unfold insL
    split
    · exact List.Perm.refl _
    · exact ((insL_perm x l).cons y).trans (List.Perm.swap x y l)
theorem sortL_perm : ∀ l : List Int, (sortL l).Perm l
  | [] => List.Perm.refl _
  | x :: l => (insL_perm x _).trans ((sortL_perm l).cons x)
theorem insL_sorted (x : Int) : ∀ l : List Int, l.Pairwise (· ≤ ·) → (insL x l).Pairwise (· ≤ ·)
  | [], _ => by simp [insL]
  | y :: l, h => by
    rw [List.pairwise_cons] at h
    unfold insL
    split
    · rename_i c
      rw [List.pairwise_cons]
      refine ⟨fun z hz => ?_, List.pairwise_cons.2 h⟩
      rcases List.mem_cons.1 hz with rfl | hz
      · exact c
      · have := h.1 z hz; omega
    · rw [List.pairwise_cons]
      refine ⟨fun z hz => ?_, insL_sorted x l h.2⟩
      rcases List.mem_cons.1 ((insL_perm x l).mem_iff.1 hz) with rfl | hz
      · omega
      · exact h.1 z hz
theorem sortL_sorted : ∀ l : List Int, (sortL l).Pairwise (· ≤ ·)
  | [] => by simp [sortL]
  | x :: l => insL_sorted x _ (sortL_sorted l)
theorem sorted_uniq {a b : List Int} (p : a.Perm b) (ha : a.Pairwise (· ≤ ·)) (hb : b.Pairwise (· ≤ ·)) : a = b := by
  induction a generalizing b with
  | nil => exact (List.nil_perm.1 p).symm ▸ rfl
  | cons x l ih =>
    cases b with
    | nil => exact absurd p.symm (by intro h; have := h.length_eq; simp at this)
    | cons y m =>
      rw [List.pairwise_cons] at ha hb
      have h1 : y ∈ x :: l := p.mem_iff.2 (by simp)
      have h2 : x ∈ y :: m := p.mem_iff.1 (by simp)
      have e : x = y := by
        rcases List.mem_cons.1 h1 with h1 | h1
        · exact h1.symm
        · rcases List.mem_cons.1 h2 with h2 | h2
          · exact h2
          · have := ha.1 y h1; have := hb.1 x h2; omega
      subst e
      rw [ih (List.Perm.cons_inv p) ha.2 hb.2]
theorem mergeSort_sortL (l : List Int) : (l.mergeSort fun x y => decide (x ≤ y)) = sortL l := by
  refine sorted_uniq ((List.mergeSort_perm l _).trans (sortL_perm l).symm) ?_ (sortL_sorted l)
  have := List.pairwise_mergeSort (le := fun x y : Int => decide (x ≤ y)) (fun a b c h1 h2 => by simp at *; omega) (fun a b => by simp; omega) l
  exact this.imp (fun h => by simpa using h)
theorem sortL_length (l : List Int) : (sortL l).length = l.length := (sortL_perm l).length_eq
/-! ### what is told -/
def intsOf : List AV → Option (List Int)
  | [] => some []
  | .int .i64 x :: l => match intsOf l with
    | some r => some (x :: r)
    | none => none
  | _ => none
theorem intsOf_eq : ∀ {l : List AV} {zs : List Int}, intsOf l = some zs → l = intsL zs
  | [], zs, h => by simp [intsOf] at h; subst h; rfl
  | v :: l, zs, h => by
    cases v with
    | int k x =>
      cases k with
      | i64 =>
        simp only [intsOf] at h
        cases hr : intsOf l with
        | none => rw [hr] at h; cases h
        | some r =>
          rw [hr] at h; injection h with h; subst h
          rw [intsOf_eq hr]; rfl
      | _ => simp [intsOf] at h
    | _ => simp [intsOf] at h
def sortT : List AV → Store → Option (AV × Store)
  | [.slice h], σ =>
    match h.len, h.a with
    | 0, _ => some (.tuple [], σ)
    | _ + 1, none => none
    | n + 1, some (b, o) => match σ.objs[b]? with
      | some (.cells cs true 1) => match intsOf ((cs.drop o).take (n + 1)) with
        | some zs => if σ.prot ≤ b ∧ o + (n + 1) ≤ cs.length ∧ n + 1 < 4611686018427387904 then some (.tuple [], σ.setO b (.cells (cs.take o ++ (intsL (sortL zs) ++ cs.drop (o + (n + 1)))) true 1)) else none
        | none => none
      | _ => none
  | _, _ => none
theorem sortT_inv {args : List AV} {σ σ' : Store} {v : AV} (h : sortT args σ = some (v, σ')) : ∃ hd, args = [.slice hd] ∧ v = .tuple [] ∧ ((hd.len = 0 ∧ σ' = σ) ∨ ∃ b o cs zs, hd.a = some (b, o) ∧ σ.objs[b]? = some (.cells cs true 1) ∧ (cs.drop o).take hd.len = intsL zs ∧ σ.prot ≤ b ∧ o + hd.len ≤ cs.length ∧ hd.len < 4611686018427387904 ∧ 0 < hd.len ∧
    σ' = σ.setO b (.cells (cs.take o ++ (intsL (sortL zs) ++ cs.drop (o + hd.len))) true 1)) := by
  unfold sortT at h
  split at h
  · rename_i hd
    refine ⟨hd, rfl, ?_⟩
    split at h
    · rename_i e
      simp only [Option.some.injEq, Prod.mk.injEq] at h
      exact ⟨h.1.symm, .inl ⟨e, h.2.symm⟩⟩
    · cases h
    · rename_i n b o e1 e2
      split at h
      · rename_i cs e3
        split at h
        · rename_i zs e4
          split at h
          · rename_i c
            simp only [Option.some.injEq, Prod.mk.injEq] at h
            exact ⟨h.1.symm, .inr ⟨b, o, cs, zs, e2, e3, by rw [e1]; exact intsOf_eq e4, c.1, by rw [e1]; exact c.2.1, by rw [e1]; exact c.2.2, by omega, by rw [e1]; exact h.2.symm⟩⟩
          · cases h
        · cases h
      · cases h
  · cases h
/-- Told: one function sorts. -/
def sortSp (s : Nat) (g : FuncId) : Option (List AV → Store → Option (AV × Store)) :=
  match Nat.beq s g with
  | true => some sortT
  | false => none
theorem sortSp_inv {s g : Nat} {f : List AV → Store → Option (AV × Store)} (h : sortSp s g = some f) : g = s ∧ f = sortT := by
  unfold sortSp at h
  split at h
  · rename_i e
    injection h with h
    exact ⟨(Nat.eq_of_beq_eq_true e).symm, h.symm⟩
  · cases h
/-! ### two kinds of told functions -/
def orTell (sp : FuncId → Option (List AV → Store → Option (AV × Store))) (fs : List Nat) (g : FuncId) : Option (List AV → Store → Option (AV × Store)) :=
  match sp g with
  | some f => some f
  | none => tell fs g
end Go.Ab

