/- A part of the proof of the law FindParts: lemmas alone; what each says stands at it. No conditions. -/
import Derived.Test.YthikeeclihkdmaaAbFindParts4
import Derived.Test.YthikeeclihkdmaaAbFindParts3
import Derived.Test.YthikeeclihkdmaaAbFindParts1
import Derived.Shelf.SortM.Plain
import Derived.Shelf.SortM.SortNone
import Derived.Test.YthikeeclihkdmaaAbFindParts2
import Derived.Ground.SlgmProg
import Derived.OpenShut
import Derived.WideShapes
/- The range of a pattern: what it comes to, and which suffixes it holds. -/
namespace Go.Ab
open Go Go.Proofs Go.Ab.Wd Go.Ab.Bs Go.Ab.Sai
set_option linter.unusedVariables false
set_option linter.unusedSimpArgs false
def ranR (B : List Int) (n al : Nat) : List Int → Int × Int
  | [] => (0, n)
  | c :: q => nar B n al (ranR B n al q).1 (ranR B n al q).2 c
theorem nar_zero (B : List Int) (n al : Nat) (c : Int) : nar B n al 0 0 c = (0, 0) := by
  unfold nar; rw [if_neg]; rintro ⟨_, _, _, _, _, h⟩; exact h rfl
theorem nar_eq {B : List Int} {n al : Nat} {x y c : Int} (h : (nar B n al x y c).1 = (nar B n al x y c).2) : nar B n al x y c = (0, 0) := by
  unfold nar at h ⊢
  by_cases c1 : 0 ≤ c ∧ c < al ∧ 0 ≤ x ∧ x ≤ y ∧ y ≤ n ∧ narrow B c x.toNat ≠ narrow B c y.toNat
  · rw [if_pos c1] at h
    exact absurd (by simp at h; omega) c1.2.2.2.2.2
  · rw [if_neg c1]
theorem ranR_stop {B : List Int} {n al : Nat} {q : List Int} (h : ranR B n al q = (0, 0)) : ∀ p : List Int, ranR B n al (p ++ q) = (0, 0)
  | [] => h
  | c :: p => by
    rw [List.cons_append, ranR, ranR_stop h p]; exact nar_zero ..
theorem ranR_drop {B : List Int} {n al m : Nat} {p : List Int} (h : ranR B n al (p.drop m) = (0, 0)) : ranR B n al p = (0, 0) := by
  have := ranR_stop h (p.take m)
  rwa [List.take_append_drop] at this
theorem nar_rng {B : List Int} {n al : Nat} (hB : B.length = n) {x y c : Int} : 0 ≤ (nar B n al x y c).1 ∧ (nar B n al x y c).1 ≤ n ∧ 0 ≤ (nar B n al x y c).2 ∧ (nar B n al x y c).2 ≤ n := by
  unfold nar
  split
  · have h1 := narrow_le (b := B) (c := c) (a := x.toNat)
    have h2 := narrow_le (b := B) (c := c) (a := y.toNat)
    refine ⟨?_, ?_, ?_, ?_⟩ <;> simp only <;> omega
  · refine ⟨?_, ?_, ?_, ?_⟩ <;> simp
theorem ranR_rng {B : List Int} {n al : Nat} (hB : B.length = n) : ∀ q : List Int, 0 ≤ (ranR B n al q).1 ∧ (ranR B n al q).1 ≤ n ∧ 0 ≤ (ranR B n al q).2 ∧ (ranR B n al q).2 ≤ n
  | [] => by simp [ranR]
  | c :: q => nar_rng hB
/-- What a range is. -/
def Rg (t p : List Int) (r : Int × Int) : Prop := (∃ a z : Nat, IsRng t (saOf t) p a z ∧ a < z ∧ r = ((a : Int), (z : Int))) ∨ (r = (0, 0) ∧ ∀ j : Nat, j < t.length → ¬ Pf t (rd (saOf t) j) p)
theorem pf_tail {t : List Int} {x c : Int} {q : List Int} (h : Pf t x (c :: q)) : rd t x = c ∧ 0 ≤ x ∧ x < t.length ∧ Pf t (x + 1) q := by
  have h0 := h.1
  have h1 := h.2.1
  simp only [List.length_cons] at h1
  have := (Pf.cons_iff h0 (by omega)).1 h
  exact ⟨this.1, h0, by omega, this.2⟩
theorem ranR_spec {t : List Int} {al : Nat} (he : Bs.Ends t) (rng : ∀ x ∈ t, 0 ≤ x ∧ x < al) : ∀ p : List Int, rd t (t.length - 1) ∉ p.take (p.length - 1) → Rg t p (ranR (bwtOf t (saOf t)) t.length al p)
  | [], _ => .inl ⟨0, t.length, IsRng.all (saOf_spec t), he.1, rfl⟩
  | c :: q, hl => by
    have SA := saOf_spec t
    have ls := saOf_len t
    have h0 := he.1
    have bl : (bwtOf t (saOf t)).length = t.length := by rw [bwtOf_length, ls]
    have hq : rd t (t.length - 1) ∉ q.take (q.length - 1) := fun hm => hl (by
      cases q with
      | nil => simp at hm
      | cons d q =>
        simp only [List.length_cons, Nat.add_sub_cancel] at hm ⊢
        rw [List.take_succ_cons]
        exact List.mem_cons_of_mem _ hm)
    have hc : q = [] ∨ c ≠ rd t (t.length - 1) := by
      cases q with
      | nil => exact .inl rfl
      | cons d q => exact .inr fun e => hl (by simp [e])
    have IH := ranR_spec he rng q hq
    rw [ranR]
    rcases IH with ⟨a, z, R, haz, er⟩ | ⟨er, no⟩
    · rw [er]
      simp only
      by_cases hcal : 0 ≤ c ∧ c < al
      · have st := R.step SA he hc
        have lz := R.lz
        unfold nar
        simp only [Int.toNat_natCast]
        by_cases hne : narrow (bwtOf t (saOf t)) c a = narrow (bwtOf t (saOf t)) c z
        · rw [if_neg (fun h => h.2.2.2.2.2 hne)]
          refine .inr ⟨rfl, fun j hj hp => ?_⟩
          have := (st.iff j hj).2 hp
          omega
        · rw [if_pos ⟨hcal.1, hcal.2, by omega, by omega, by omega, hne⟩]
          have := st.le
          exact .inl ⟨_, _, st, by omega, rfl⟩
      · unfold nar
        rw [if_neg (fun h => hcal ⟨h.1, h.2.1⟩)]
        refine .inr ⟨rfl, fun j hj hp => ?_⟩
        obtain ⟨h1, h2, h3, _⟩ := pf_tail hp
        have := rng _ (rd_mem (l := t) h2 h3)
        rw [h1] at this
        exact hcal this
    · rw [er]
      simp only [nar_zero]
      refine .inr ⟨rfl, fun j hj hp => ?_⟩
      obtain ⟨h1, h2, h3, h4⟩ := pf_tail hp
      cases q with
      | nil =>
        refine no j hj ?_
        have := SA.perm.rng _ (rd_mem (l := saOf t) (i := (j : Int)) (by omega) (by omega))
        exact Pf.nil this.1 (by omega)
      | cons d q =>
        have h5 := h4.2.1
        simp only [List.length_cons] at h5
        obtain ⟨i, i0, i1, ei⟩ := mem_rd (SA.perm.mem_iff.2 (⟨by omega, by omega⟩ : 0 ≤ rd (saOf t) j + 1 ∧ rd (saOf t) j + 1 < t.length))
        obtain ⟨i, rfl⟩ := Int.eq_ofNat_of_zero_le i0
        refine no i (by omega) ?_
        rw [ei]; exact h4
/-- What Range comes to. -/
def ran (t : List Int) (al : Nat) (p : List Int) : Int × Int := if rd t (t.length - 1) ∈ p.take (p.length - 1) then (0, 0) else ranR (bwtOf t (saOf t)) t.length al p
theorem ran_spec {t : List Int} {al : Nat} (he : Bs.Ends t) (rng : ∀ x ∈ t, 0 ≤ x ∧ x < al) (p : List Int) : Rg t p (ran t al p) := by
  unfold ran
  split
  · rename_i hm
    refine .inr ⟨rfl, fun j hj hp => ?_⟩
    obtain ⟨k, k0, k1, ek⟩ := mem_rd hm
    obtain ⟨k, rfl⟩ := Int.eq_ofNat_of_zero_le k0
    have k2 : k < p.length - 1 := by simp at k1; omega
    have e1 : rd (p.take (p.length - 1)) k = rd p k := by rw [rd_getElem (by simpa using k1), rd_getElem (by omega)]; simp
    have h1 := hp.2.2 k (by omega)
    have h2 := hp.2.1
    refine he.2 (rd (saOf t) j + k) (by have := hp.1; omega) (by omega) ?_
    rw [h1, ← e1, ek]
  · rename_i hm
    exact ranR_spec he rng p hm
/-! ### the program -/
noncomputable abbrev rgx : Code := codeAt (fnCode Try.f18) ([1, 1, 1, 0, 1, 0] ++ [0])
noncomputable abbrev rgy : Code := codeAt (fnCode Try.f18) ([1, 1, 1, 0, 1, 0] ++ [1])
abbrev rgf (N : Nat) : Fr := [(7, .ptr (some (N + 4, 0))), (6, .ptr (some (N + 3, 0))), (5, .ptr (some (N + 2, 0))), (4, .ptr (some (N + 1, 0))), (2, .ptr (some (N, 0)))]
noncomputable abbrev rgo (N : Nat) (st : LSt) : AObj := .loop (rgf N) [35, 36] rgx rgy (Func.ntmps Try.f18) st
structure RgI (σ : Store) (p : Ptr) (h : Hdl) (r : Int × Int) (st : LSt) (s : Store) : Prop where
  kk : Kp σ.objs.length σ s
  r0 : s.Row σ.objs.length 1 [.ptr p]
  r1 : s.Row (σ.objs.length + 1) 1 [.int .i64 0]
  r2 : s.Row (σ.objs.length + 2) 1 [.int .i64 0]
  r3 : s.Row (σ.objs.length + 3) 1 [.int .i64 r.1]
  r4 : s.Row (σ.objs.length + 4) 1 [.int .i64 r.2]
  r5 : s.Row (σ.objs.length + 5) 1 [.slice h]
  r6 : s.objs[σ.objs.length + 6]? = some (rgo σ.objs.length st)
theorem RgI.set {σ : Store} {p : Ptr} {h : Hdl} {r : Int × Int} {st st' : LSt} {s : Store} (I : RgI σ p h r st s) : RgI σ p h r st' (s.setO (σ.objs.length + 6) (rgo σ.objs.length st')) := by
  have hlt : σ.objs.length + 6 < s.objs.length := (List.getElem?_eq_some_iff.1 I.r6).1
  exact ⟨I.kk.setO (by omega), I.r0.setO_ne (by omega), I.r1.setO_ne (by omega), I.r2.setO_ne (by omega), I.r3.setO_ne (by omega), I.r4.setO_ne (by omega), I.r5.setO_ne (by omega), by rw [setO_get _ _ _ hlt, if_pos rfl]⟩
theorem one_int {s : Store} {b : Nat} {x : Int} (r : s.Row b 1 [.int .i64 x]) : s.ldInt .i64 (some (b, 0)) = some x := by simp only [Store.ldInt, r.cell]; simp
theorem one_ptr {s : Store} {b : Nat} {x : Ptr} (r : s.Row b 1 [.ptr x]) : s.ldPtr (some (b, 0)) = some x := by simp only [Store.ldPtr, r.cell]; simp
theorem one_sl {s : Store} {b : Nat} {x : Hdl} (r : s.Row b 1 [.slice x]) : s.ldSl (some (b, 0)) = some x := by simp only [Store.ldSl, r.cell]; simp
theorem one_st {s : Store} {b : Nat} {v w : AV} (r : s.Row b 1 [v]) (hp : s.prot ≤ b) (hw : w.one = true) : ∃ s', s.stL (some (b, 0)) [w] 0 = some s' ∧ s' = s.setO b (.cells [w] true 1) ∧ s'.Row b 1 [w] ∧ ∀ {c es l}, s.Row c es l → c ≠ b → s'.Row c es l := by
  have t := st_cell r hp (o := 0) (by simp) hw
  exact ⟨_, t, rfl, Store.Row.setO_eq r.lt, fun h hne => h.setO_ne (Ne.symm hne)⟩
section
variable {σ : Store} {p : Ptr} {t : List Int} {al sp : Nat}
/-- A round. -/
theorem rg_round {h : Hdl} {r : Int × Int} {i c x y : Int} {s : Store} (hr : nar (bwtOf t (saOf t)) t.length al r.1 r.2 c = (x, y)) (F : Fnd σ p t al sp) (hp : σ.prot ≤ σ.objs.length) (I : RgI σ p h r .ready s) :
    ∃ s', if x = y then RunsY Try.prog (σ.objs.length + 6) [.int .i64 i, .int .i64 c] s (.bool false) s' ∧ RgI σ p h (x, y) (.fin .ret) s' else RunsY Try.prog (σ.objs.length + 6) [.int .i64 i, .int .i64 c] s (.bool true) s' ∧ RgI σ p h (x, y) .ready s' := by
  have lt6 : σ.objs.length + 6 < s.objs.length := (List.getElem?_eq_some_iff.1 I.r6).1
  obtain ⟨sb, hsb⟩ : ∃ sb, sb = s.setO (σ.objs.length + 6) (rgo σ.objs.length .busy) := ⟨_, rfl⟩
  have Ib : RgI σ p h r .busy sb := by rw [hsb]; exact I.set
  have lb : σ.objs.length + 6 < sb.objs.length := (List.getElem?_eq_some_iff.1 Ib.r6).1
  have hpb : sb.prot ≤ σ.objs.length := by rw [Ib.kk.prot]; exact hp
  have Fb := F.kp Ib.kk
  obtain ⟨n1, q1⟩ := narrow_run Fb r.1 r.2 c
  rw [hr] at q1
  have f0 := one_ptr Ib.r0
  have f3 := one_int Ib.r3
  have f4 := one_int Ib.r4
  obtain ⟨s1, t1, e1, R31, k1⟩ := one_st (w := .int .i64 x) Ib.r3 (by omega) rfl
  have p1 : s1.prot = sb.prot := by rw [e1]; rfl
  obtain ⟨s2, t2, e2, R42, k2⟩ := one_st (w := .int .i64 y) (k1 Ib.r4 (by omega)) (by omega) rfl
  have p2 : s2.prot = sb.prot := by rw [e2, setO_prot, p1]
  have g3 := one_int (k2 R31 (by omega))
  have g4 := one_int R42
  have obj2 : s2.objs[σ.objs.length + 6]? = some (rgo σ.objs.length .busy) := by
    rw [e2, e1]
    show ((sb.objs.set _ _).set _ _)[_]? = _
    rw [List.getElem?_set, if_neg (by omega), List.getElem?_set, if_neg (by omega)]; exact Ib.r6
  have I2 : RgI σ p h (x, y) .busy s2 := by
    refine ⟨?_, k2 (k1 Ib.r0 (by omega)) (by omega), k2 (k1 Ib.r1 (by omega)) (by omega), k2 (k1 Ib.r2 (by omega)) (by omega), k2 R31 (by omega), R42, k2 (k1 Ib.r5 (by omega)) (by omega), obj2⟩
    rw [e2, e1]; exact (Ib.kk.setO (by omega)).setO (by omega)
  have hx : ∀ k, evCode Try.prog (gm Try.prog k) drawn k (Func.ntmps Try.f18) false rgx ⟨liveC rgy ⟨0, 0, []⟩, 0, []⟩ (roundFr [35, 36] [.int .i64 i, .int .i64 c] (rgf σ.objs.length)) s (fun e φ1 σ1 => some ((e, φ1, σ1) : LX)) =
      some (.normal, [(9, .int .i64 c), (36, .int .i64 c), (35, .int .i64 i)] ++ rgf σ.objs.length, s) := fun k => f18_RX111010 (gm Try.prog k) k s _ _ _ _ _ _ _
  have hsel : Fr.sel ([(9, .int .i64 c), (36, .int .i64 c), (35, .int .i64 i)] ++ rgf σ.objs.length) (liveC rgy ⟨0, 0, []⟩) (Func.ntmps Try.f18) = (9, .int .i64 c) :: rgf σ.objs.length := by kernel_rfl
  by_cases q : x = y
  · have r0 : (x, y) = ((0 : Int), (0 : Int)) := by rw [← hr]; exact nar_eq (by rw [hr]; exact q)
    injection r0 with rx ry
    subst rx ry
    obtain ⟨s3, t3, e3, R13, k3⟩ := one_st (w := .int .i64 0) I2.r1 (by omega) rfl
    have p3 : s3.prot = sb.prot := by rw [e3, setO_prot, p2]
    obtain ⟨s4, t4, e4, R24, k4⟩ := one_st (w := .int .i64 0) (k3 I2.r2 (by omega)) (by omega) rfl
    have obj4 : s4.objs[σ.objs.length + 6]? = some (rgo σ.objs.length .busy) := by
      rw [e4, e3]
      show ((s2.objs.set _ _).set _ _)[_]? = _
      rw [List.getElem?_set, if_neg (by omega), List.getElem?_set, if_neg (by omega)]; exact I2.r6
    have I4 : RgI σ p h (0, 0) .busy s4 := by
      refine ⟨?_, k4 (k3 I2.r0 (by omega)) (by omega), k4 R13 (by omega), R24, k4 (k3 I2.r3 (by omega)) (by omega), k4 (k3 I2.r4 (by omega)) (by omega), k4 (k3 I2.r5 (by omega)) (by omega), obj4⟩
      rw [e4, e3]; exact (I2.kk.setO (by omega)).setO (by omega)
    have ev : Ev (fun kk => roundY Try.prog (gm Try.prog kk) drawn kk Try.f18 [1, 1, 1, 0, 1, 0] ((9, .int .i64 c) :: rgf σ.objs.length) sb) (.ret, s4) := by
      refine ⟨n1, fun kk hkk => ?_⟩
      have q1 := q1 kk hkk
      simp only at q1
      simp only [f18_RY111010]
      simp only [Option.bind_some, decide_eq_true_eq, decide_eq_false_iff_not, Bool.not_eq_true', Bool.not_true, Bool.not_false, Bool.false_eq_true, Bool.true_eq_false, Bool.not_eq_eq_eq_not, beq_self_eq_true, beqFT, beqTF, decide_true, decide_false, not_false_eq_true, not_true_eq_false, ne_eq, true_and, and_true, false_and, and_false, and_self, if_true, if_false, ite_true, ite_false, Bool.and_true, Bool.and_false, Bool.true_and, Bool.false_and, Bool.or_true, Bool.true_or, Bool.or_false, Bool.false_or, or_true, true_or, or_false, false_or, or_self, AV.asInt, AV.asBool, AV.asSl, AV.asPtr, AV.asFn, AV.asStr, AV.asMap, AV.asIfc, AV.item, List.length_cons, List.length_nil, List.getElem?_cons_zero, List.getElem?_cons_succ, Nat.zero_add, f0, f3, f4, q1, t1, t2, g3, g4, t3, t4]
    refine ⟨s4.setO (σ.objs.length + 6) (rgo σ.objs.length (.fin .ret)), ?_⟩
    rw [if_pos q]
    refine ⟨RunsY.stop I.r6 (by rw [I.kk.prot]; omega) rfl (by kernel_rfl) hx (by simp) ?_ I4.r6, I4.set⟩
    obtain ⟨n, ev⟩ := ev
    refine ⟨n, fun kk hkk => ?_⟩
    have ev := ev kk hkk
    simp only at ev
    rw [hsel]
    rw [hsb] at ev
    exact ev
  · have ev : Ev (fun kk => roundY Try.prog (gm Try.prog kk) drawn kk Try.f18 [1, 1, 1, 0, 1, 0] ((9, .int .i64 c) :: rgf σ.objs.length) sb) (.normal, s2) := by
      refine ⟨n1, fun kk hkk => ?_⟩
      have q1 := q1 kk hkk
      simp only at q1
      simp only [f18_RY111010]
      simp only [Option.bind_some, decide_eq_true_eq, decide_eq_false_iff_not, Bool.not_eq_true', Bool.not_true, Bool.not_false, Bool.false_eq_true, Bool.true_eq_false, Bool.not_eq_eq_eq_not, beq_self_eq_true, beqFT, beqTF, decide_true, decide_false, not_false_eq_true, not_true_eq_false, ne_eq, true_and, and_true, false_and, and_false, and_self, if_true, if_false, ite_true, ite_false, Bool.and_true, Bool.and_false, Bool.true_and, Bool.false_and, Bool.or_true, Bool.true_or, Bool.or_false, Bool.false_or, or_true, true_or, or_false, false_or, or_self, AV.asInt, AV.asBool, AV.asSl, AV.asPtr, AV.asFn, AV.asStr, AV.asMap, AV.asIfc, AV.item, List.length_cons, List.length_nil, List.getElem?_cons_zero, List.getElem?_cons_succ, Nat.zero_add, f0, f3, f4, q1, t1, t2, g3, g4, q]
    refine ⟨s2.setO (σ.objs.length + 6) (rgo σ.objs.length .ready), ?_⟩
    rw [if_neg q]
    refine ⟨RunsY.intro I.r6 (by rw [I.kk.prot]; omega) rfl (by kernel_rfl) hx ?_ I2.r6, I2.set⟩
    obtain ⟨n, ev⟩ := ev
    refine ⟨n, fun kk hkk => ?_⟩
    have ev := ev kk hkk
    simp only at ev
    rw [hsel]
    rw [hsb] at ev
    exact ev
end
end Go.Ab


/- The range of a pattern, whole; the places of a pattern. -/
namespace Go.Ab
open Go Go.Proofs Go.Ab.Wd Go.Ab.Bs Go.Ab.Sai
set_option linter.unusedVariables false
set_option linter.unusedSimpArgs false
theorem ptr_off {b c o o' : Nat} (h : b ≠ c) : Ptr.off (some (b, o)) (some (c, o')) = true := by
  show (!Nat.beq b c) = true
  cases e : Nat.beq b c with
  | false => rfl
  | true => exact absurd (Nat.eq_of_beq_eq_true e) h
section
variable {σ : Store} {p : Ptr} {t : List Int} {al sp : Nat}
theorem rg_back {h : Hdl} {pt : List Int} {s : Store} (F : Fnd σ p t al sp) (hp : σ.prot ≤ σ.objs.length) (S : σ.Ints h pt) (hn : pt.length < 2 ^ 61) (I : RgI σ p h (0, (t.length : Int)) .ready s) :
    ∃ s', Runs Try.prog 60 [.yld (σ.objs.length + 6), .ptr (some (σ.objs.length + 5, 0))] s (.tuple []) s' ∧
      (RgI σ p h (ranR (bwtOf t (saOf t)) t.length al pt) .ready s' ∨ (ranR (bwtOf t (saOf t)) t.length al pt = (0, 0) ∧ RgI σ p h (0, 0) (.fin .ret) s')) := by
  have ll := S.ilen
  obtain ⟨B, hB⟩ : ∃ B, B = bwtOf t (saOf t) := ⟨_, rfl⟩
  have e5 : ∀ {r : Int × Int} {st : LSt} {s1 : Store}, RgI σ p h r st s1 → s1.ldSl (some (σ.objs.length + 5, 0)) = some h := fun {r st s1} I => one_sl I.r5
  obtain ⟨r, e, s', q⟩ := EvI.downX (f := fun k s => stepF Try.prog (gm Try.prog k) drawn k Try.f60 [1, 0] [3, 1, 0] s)
    (fun m st => ∃ s1, st = ([.int .i64 ((m : Int) - 1), .ptr (some (σ.objs.length + 5, 0)), .yld (σ.objs.length + 6)], s1) ∧ m ≤ pt.length ∧ RgI σ p h (ranR (bwtOf t (saOf t)) t.length al (pt.drop m)) .ready s1)
    (fun r => ∃ s1, (r = (AX.exit 0, [], s1) ∧ RgI σ p h (ranR (bwtOf t (saOf t)) t.length al pt) .ready s1) ∨ (r = (AX.ret, [], s1) ∧ ranR (bwtOf t (saOf t)) t.length al pt = (0, 0) ∧ RgI σ p h (0, 0) (.fin .ret) s1))
    (by
      rintro m st ⟨s1, rfl, hm, I1⟩
      have em : ((m + 1 : Nat) : Int) - 1 = m := by omega
      rw [em]
      have hml : m < pt.length := by omega
      have g := Store.Ints.rd (l := pt) (Store.Sl.kp S I1.kk) (i := (m : Int)) (by omega) (by omega)
      have i0 : (0 : Int) ≤ m := by omega
      have i1 : (m : Int) < h.len := by omega
      have w1 : IntKind.wrap .i64 ((m : Int) - 1) = m - 1 := wrap64 (by omega) (by omega)
      obtain ⟨x, y, hxy⟩ : ∃ x y, nar (bwtOf t (saOf t)) t.length al (ranR (bwtOf t (saOf t)) t.length al (pt.drop (m + 1))).1 (ranR (bwtOf t (saOf t)) t.length al (pt.drop (m + 1))).2 (rd pt m) = (x, y) := ⟨_, _, rfl⟩
      have ed : ranR (bwtOf t (saOf t)) t.length al (pt.drop m) = (x, y) := by
        rw [show pt.drop m = rd pt m :: pt.drop (m + 1) by rw [rd_getElem hml, List.getElem_cons_drop], ranR, hxy]
      obtain ⟨s2, hs⟩ := rg_round (i := (m : Int)) hxy F hp I1
      by_cases c : x = y
      · rw [if_pos c] at hs
        obtain ⟨⟨n1, r1⟩, I2⟩ := hs
        have z : (x, y) = ((0 : Int), (0 : Int)) := by rw [← hxy]; exact nar_eq (by rw [hxy]; exact c)
        rw [z] at ed I2
        refine .inr ⟨(AX.ret, [], s2), ⟨n1, fun k hk => ?_⟩, s2, .inr ⟨rfl, ranR_drop ed, I2⟩⟩
        have r1 := r1 k hk
        simp only at r1
        simp only [f60_L10]
        simp only [Option.bind_some, decide_eq_true_eq, decide_eq_false_iff_not, Bool.not_eq_true', Bool.not_true, Bool.not_false, Bool.false_eq_true, Bool.true_eq_false, Bool.not_eq_eq_eq_not, beq_self_eq_true, beqFT, beqTF, decide_true, decide_false, not_false_eq_true, not_true_eq_false, ne_eq, true_and, and_true, false_and, and_false, and_self, if_true, if_false, ite_true, ite_false, Bool.and_true, Bool.and_false, Bool.true_and, Bool.false_and, Bool.or_true, Bool.true_or, Bool.or_false, Bool.false_or, or_true, true_or, or_false, false_or, or_self, AV.asInt, AV.asBool, AV.asSl, AV.asPtr, AV.asFn, AV.asStr, AV.asMap, AV.asIfc, AV.item, List.length_cons, List.length_nil, List.getElem?_cons_zero, List.getElem?_cons_succ, Nat.zero_add, i0, e5 I1, i1, g, r1]
      · rw [if_neg c] at hs
        obtain ⟨⟨n1, r1⟩, I2⟩ := hs
        refine .inl ⟨_, ⟨n1, fun k hk => ?_⟩, s2, rfl, by omega, by rw [ed]; exact I2⟩
        have r1 := r1 k hk
        simp only at r1
        simp only [f60_L10]
        simp only [Option.bind_some, decide_eq_true_eq, decide_eq_false_iff_not, Bool.not_eq_true', Bool.not_true, Bool.not_false, Bool.false_eq_true, Bool.true_eq_false, Bool.not_eq_eq_eq_not, beq_self_eq_true, beqFT, beqTF, decide_true, decide_false, not_false_eq_true, not_true_eq_false, ne_eq, true_and, and_true, false_and, and_false, and_self, if_true, if_false, ite_true, ite_false, Bool.and_true, Bool.and_false, Bool.true_and, Bool.false_and, Bool.or_true, Bool.true_or, Bool.or_false, Bool.false_or, or_true, true_or, or_false, false_or, or_self, AV.asInt, AV.asBool, AV.asSl, AV.asPtr, AV.asFn, AV.asStr, AV.asMap, AV.asIfc, AV.item, List.length_cons, List.length_nil, List.getElem?_cons_zero, List.getElem?_cons_succ, Nat.zero_add, i0, e5 I1, i1, g, r1, w1])
    (by
      rintro st ⟨s1, rfl, _, I1⟩
      have c1 : ¬ (0 : Int) ≤ ((0 : Nat) : Int) - 1 := by omega
      exact ⟨(AX.exit 0, [], s1), Ev.of fun k => by simp only [f60_L10]; simp only [Option.bind_some, decide_eq_true_eq, decide_eq_false_iff_not, Bool.not_eq_true', Bool.not_true, Bool.not_false, Bool.false_eq_true, Bool.true_eq_false, Bool.not_eq_eq_eq_not, beq_self_eq_true, beqFT, beqTF, decide_true, decide_false, not_false_eq_true, not_true_eq_false, ne_eq, true_and, and_true, false_and, and_false, and_self, if_true, if_false, ite_true, ite_false, Bool.and_true, Bool.and_false, Bool.true_and, Bool.false_and, Bool.or_true, Bool.true_or, Bool.or_false, Bool.false_or, or_true, true_or, or_false, false_or, or_self, AV.asInt, AV.asBool, AV.asSl, AV.asPtr, AV.asFn, AV.asStr, AV.asMap, AV.asIfc, AV.item, List.length_cons, List.length_nil, List.getElem?_cons_zero, List.getElem?_cons_succ, Nat.zero_add, c1], s1, .inl ⟨rfl, by simpa using I1⟩⟩)
    pt.length (s := ([.int .i64 ((pt.length : Int) - 1), .ptr (some (σ.objs.length + 5, 0)), .yld (σ.objs.length + 6)], s)) ⟨s, rfl, Nat.le_refl _, by simpa [ranR] using I⟩
  have w1 : IntKind.wrap .i64 ((h.len : Int) - 1) = (pt.length : Int) - 1 := by rw [ll, wrap64 (by omega) (by omega)]
  rcases q with ⟨rfl, I'⟩ | ⟨rfl, z, I'⟩
  · refine ⟨s', Runs.intro (fn := Try.f60) (by kernel_rfl) (by kernel_rfl) ?_, .inl I'⟩
    refine (Ev.bind (loopF_ev e) (Ev.of fun k => f60_X10_2 (gm Try.prog k) k s')).congr fun k => ?_
    simp only [f60_eq]
    simp only [Option.bind_some, decide_eq_true_eq, decide_eq_false_iff_not, Bool.not_eq_true', Bool.not_true, Bool.not_false, Bool.false_eq_true, Bool.true_eq_false, Bool.not_eq_eq_eq_not, beq_self_eq_true, beqFT, beqTF, decide_true, decide_false, not_false_eq_true, not_true_eq_false, ne_eq, true_and, and_true, false_and, and_false, and_self, if_true, if_false, ite_true, ite_false, Bool.and_true, Bool.and_false, Bool.true_and, Bool.false_and, Bool.or_true, Bool.true_or, Bool.or_false, Bool.false_or, or_true, true_or, or_false, false_or, or_self, AV.asInt, AV.asBool, AV.asSl, AV.asPtr, AV.asFn, AV.asStr, AV.asMap, AV.asIfc, AV.item, List.length_cons, List.length_nil, List.getElem?_cons_zero, List.getElem?_cons_succ, Nat.zero_add, e5 I, w1]
  · refine ⟨s', Runs.intro (fn := Try.f60) (by kernel_rfl) (by kernel_rfl) ?_, .inr ⟨z, I'⟩⟩
    refine (Ev.bind (loopF_ev e) (Ev.of fun k => f60_X10_1 (gm Try.prog k) k s')).congr fun k => ?_
    simp only [f60_eq]
    simp only [Option.bind_some, decide_eq_true_eq, decide_eq_false_iff_not, Bool.not_eq_true', Bool.not_true, Bool.not_false, Bool.false_eq_true, Bool.true_eq_false, Bool.not_eq_eq_eq_not, beq_self_eq_true, beqFT, beqTF, decide_true, decide_false, not_false_eq_true, not_true_eq_false, ne_eq, true_and, and_true, false_and, and_false, and_self, if_true, if_false, ite_true, ite_false, Bool.and_true, Bool.and_false, Bool.true_and, Bool.false_and, Bool.or_true, Bool.true_or, Bool.or_false, Bool.false_or, or_true, true_or, or_false, false_or, or_self, AV.asInt, AV.asBool, AV.asSl, AV.asPtr, AV.asFn, AV.asStr, AV.asMap, AV.asIfc, AV.item, List.length_cons, List.length_nil, List.getElem?_cons_zero, List.getElem?_cons_succ, Nat.zero_add, e5 I, w1]
theorem frange_run {h : Hdl} {pt : List Int} (F : Fnd σ p t al sp) (hp : σ.prot ≤ σ.objs.length) (S : σ.Ints h pt) (hH : σ.Has h) (hn : pt.length < 2 ^ 61) :
    ∃ σ', Runs Try.prog 18 [.ptr p, .slice h] σ (.tuple [.int .i64 (ran t al pt).1, .int .i64 (ran t al pt).2]) σ' ∧ Kp σ.objs.length σ σ' := by
  have ll := S.ilen
  obtain ⟨N, hN⟩ : ∃ N, N = σ.objs.length := ⟨_, rfl⟩
  obtain ⟨σ1, h1⟩ : ∃ s, s = σ.push [.ptr p] 1 := ⟨_, rfl⟩
  obtain ⟨σ2, h2⟩ : ∃ s, s = σ1.push [.int .i64 0] 1 := ⟨_, rfl⟩
  obtain ⟨σ3, h3⟩ : ∃ s, s = σ2.push [.int .i64 0] 1 := ⟨_, rfl⟩
  have l1 : σ1.objs.length = N + 1 := by rw [h1, hN]; simp
  have l2 : σ2.objs.length = N + 2 := by rw [h2]; simp [l1]
  have l3 : σ3.objs.length = N + 3 := by rw [h3]; simp [l2]
  have R01 : σ1.Row N 1 [.ptr p] := by rw [h1, hN]; exact Store.Row.new
  have R03 : σ3.Row N 1 [.ptr p] := by rw [h3, h2]; exact R01.push.push
  have R12 : σ2.Row (N + 1) 1 [.int .i64 0] := by rw [h2, ← l1]; exact Store.Row.new
  have R13 : σ3.Row (N + 1) 1 [.int .i64 0] := by rw [h3]; exact R12.push
  have R23 : σ3.Row (N + 2) 1 [.int .i64 0] := by rw [h3, ← l2]; exact Store.Row.new
  have K3 : Kp N σ σ3 := by rw [h3, h2, h1, hN]; exact ((Kp.push _ _ (Nat.le_refl _)).push' (by simp)).push' (by simp; omega)
  rw [hN] at K3
  have F3 := F.kp K3
  have S3 := Store.Sl.kp S K3
  have f0 := one_ptr R03
  have p3 : σ3.prot ≤ N := by rw [K3.prot, hN]; exact hp
  obtain ⟨b, hb, pm, w, pv, L, wd, ws, ep, R, _⟩ := F3.ex
  have e0 := row_int R (o := 0) rfl
  have e3 := row_int R (o := 3) rfl
  rw [ep] at f0
  by_cases hm : rd t (t.length - 1) ∈ pt.take (pt.length - 1)
  · -- the last number stands within
    have er : ran t al pt = (0, 0) := by unfold ran; rw [if_pos hm]
    rw [er]
    have hpos : 0 < pt.length := by
      rcases Nat.eq_zero_or_pos pt.length with h0 | h0
      · rw [h0] at hm; simp at hm
      · exact h0
    have hp0 : (0 : Int) < h.len := by omega
    have w1 : IntKind.wrap .i64 ((h.len : Int) - 1) = (pt.length : Int) - 1 := by rw [ll, wrap64 (by omega) (by omega)]
    obtain ⟨hx, q1, q2, q3, _⟩ := sub_spec S3 (hH.kp K3) (lo := none) (hi := some ((pt.length : Int) - 1)) (by simp) (by simp; omega) (by simp; omega)
    have J : σ3.Ints hx (pt.take (pt.length - 1)) := by
      have : (Option.getD (some ((pt.length : Int) - 1)) (h.len : Int)).toNat = pt.length - 1 := by simp only [Option.getD_some]; omega
      rw [this] at q2
      simp only [Option.getD_none, Int.toNat_zero, List.drop_zero, intsL_take] at q2; exact q2
    obtain ⟨k1, r1⟩ := contains_run J (by simp; omega) (rd t (t.length - 1))
    rw [decide_eq_true hm] at r1
    obtain ⟨s4, t4, e4, R14, k4⟩ := one_st (w := .int .i64 0) R13 (by omega) rfl
    obtain ⟨s5, t5, e5, R25, k5⟩ := one_st (w := .int .i64 0) (k4 R23 (by omega)) (by rw [e4, setO_prot]; omega) rfl
    have g1 := one_int (k5 R14 (by omega))
    have g2 := one_int R25
    refine ⟨s5, Runs.intro (fn := Try.f18) (by kernel_rfl) (by kernel_rfl) ⟨k1, fun k hk => ?_⟩, by rw [e5, e4]; exact (K3.setO (by omega)).setO (by omega)⟩
    have r1 := r1 k hk
    simp only at r1
    simp only [f18_eq]
    simp only [Option.bind_some, decide_eq_true_eq, decide_eq_false_iff_not, Bool.not_eq_true', Bool.not_true, Bool.not_false, Bool.false_eq_true, Bool.true_eq_false, Bool.not_eq_eq_eq_not, beq_self_eq_true, beqFT, beqTF, decide_true, decide_false, not_false_eq_true, not_true_eq_false, ne_eq, true_and, and_true, false_and, and_false, and_self, if_true, if_false, ite_true, ite_false, Bool.and_true, Bool.and_false, Bool.true_and, Bool.false_and, Bool.or_true, Bool.true_or, Bool.or_false, Bool.false_or, or_true, true_or, or_false, false_or, or_self, AV.asInt, AV.asBool, AV.asSl, AV.asPtr, AV.asFn, AV.asStr, AV.asMap, AV.asIfc, AV.item, List.length_cons, List.length_nil, List.getElem?_cons_zero, List.getElem?_cons_succ, Nat.zero_add, ← h1, ← h2, ← h3, ← hN, l1, l2, f0, Option.isNone_some, hp0, w1, q1, e3, r1, t4, t5, g1, g2]
  · -- the rows of the loop
    have er : ran t al pt = ranR (bwtOf t (saOf t)) t.length al pt := by unfold ran; rw [if_neg hm]
    rw [er]
    obtain ⟨σ4, h4⟩ : ∃ s, s = σ3.push [.int .i64 0] 1 := ⟨_, rfl⟩
    obtain ⟨σ5, h5⟩ : ∃ s, s = σ4.push [.int .i64 0] 1 := ⟨_, rfl⟩
    have l4 : σ4.objs.length = N + 4 := by rw [h4]; simp [l3]
    have l5 : σ5.objs.length = N + 5 := by rw [h5]; simp [l4]
    have R34 : σ4.Row (N + 3) 1 [.int .i64 0] := by rw [h4, ← l3]; exact Store.Row.new
    have R35 : σ5.Row (N + 3) 1 [.int .i64 0] := by rw [h5]; exact R34.push
    have R45 : σ5.Row (N + 4) 1 [.int .i64 0] := by rw [h5, ← l4]; exact Store.Row.new
    have K5 : Kp σ3.objs.length σ3 σ5 := by rw [h5, h4]; exact (Kp.push _ _ (Nat.le_refl _)).push' (by simp)
    have p5 : σ5.prot = σ3.prot := K5.prot
    obtain ⟨σ6, t6, e6, R36, k6⟩ := one_st (w := .int .i64 0) R35 (by omega) rfl
    obtain ⟨σ7, t7, e7, R47, k7⟩ := one_st (w := .int .i64 t.length) (k6 R45 (by omega)) (by rw [e6, setO_prot]; omega) rfl
    have l7 : σ7.objs.length = N + 5 := by rw [e7, e6]; simp [l5]
    have K7 : Kp N σ σ7 := by
      have := hN ▸ K3
      rw [e7, e6]; exact (((hN ▸ K3 : Kp N σ σ3).then K5 (by omega)).setO (by omega)).setO (by omega)
    obtain ⟨σ8, h8⟩ : ∃ s, s = σ7.push [.slice h] 1 := ⟨_, rfl⟩
    have l8 : σ8.objs.length = N + 6 := by rw [h8]; simp [l7]
    have rB : Runs Try.prog 39 [.slice h] σ7 (.func 60 [] [.ptr (some (N + 5, 0))]) σ8 :=
      Runs.intro (fn := Try.f39) (by kernel_rfl) (by kernel_rfl) (Ev.of fun m => by rw [f39_eq, h8, l7])
    obtain ⟨n8, r8⟩ := rB
    obtain ⟨σ9, h9⟩ : ∃ s : Store, s = { σ8 with objs := σ8.objs ++ [rgo N .ready] } := ⟨_, rfl⟩
    have g9 : ∀ x, x < σ8.objs.length → σ9.objs[x]? = σ8.objs[x]? := fun x hx => by rw [h9]; exact List.getElem?_append_left hx
    have K79 : Kp σ7.objs.length σ7 σ9 := ⟨by rw [h9, h8]; rfl, by rw [h9]; simp [l8, l7], fun x hx => by rw [g9 x (by omega), h8]; simp only [Store.push]; rw [List.getElem?_append_left hx]⟩
    have I9 : RgI σ p h (0, (t.length : Int)) .ready σ9 := by
      refine ⟨hN ▸ (K7.then K79 (by omega)), ?_, ?_, ?_, ?_, ?_, ?_, ?_⟩
      · rw [← hN]; exact (k7 (k6 (R03.kp K5 (by omega)) (by omega)) (by omega)).kp K79 (by omega)
      · rw [← hN]; exact (k7 (k6 (R13.kp K5 (by omega)) (by omega)) (by omega)).kp K79 (by omega)
      · rw [← hN]; exact (k7 (k6 (R23.kp K5 (by omega)) (by omega)) (by omega)).kp K79 (by omega)
      · rw [← hN]; exact (k7 R36 (by omega)).kp K79 (by omega)
      · rw [← hN]; exact R47.kp K79 (by omega)
      · rw [← hN]
        have : σ8.Row (N + 5) 1 [.slice h] := by rw [h8, ← l7]; exact Store.Row.new
        exact (g9 _ (by omega)).trans this
      · rw [← hN, h9, ← l8]; simp
    obtain ⟨σ10, r10, I10⟩ := rg_back F hp S hn I9
    rw [← hN] at r10
    have off : Ptr.off (some (N + 1, 0)) (some (N + 4, 0)) = true := ptr_off (by omega)
    -- the loop, and what follows
    have tail : ∃ σ', Ev (fun k => Option.bind (rangeV (gm Try.prog k) 60 [] [.ptr (some (N + 5, 0))] (rgo N .ready) σ8) fun z => contF Try.prog (gm Try.prog k) drawn k Try.f18 [1, 1, 1, 0, 1, 0] (z.1, [(7, .ptr (some (N + 4, 0))), (6, .ptr (some (N + 3, 0))), (5, .ptr (some (N + 2, 0))), (4, .ptr (some (N + 1, 0)))], z.2))
        (.tuple [.int .i64 (ranR (bwtOf t (saOf t)) t.length al pt).1, .int .i64 (ranR (bwtOf t (saOf t)) t.length al pt).2], σ') ∧ Kp σ.objs.length σ σ' := by
      rcases I10 with I | ⟨z, I⟩
      · obtain ⟨n, g⟩ := range_ev (P := Try.prog) (g := 60) (a := []) (b := [.ptr (some (N + 5, 0))]) (φ := rgf N) (ps := [35, 36]) (x := rgx) (y := rgy) (nt := Func.ntmps Try.f18) (σ := σ8) (σ' := σ10) (by rw [l8, ← h9]; exact r10) (by rw [l8, hN]; exact I.r6)
        rw [l8] at g
        obtain ⟨σ11, h11⟩ : ∃ s, s = σ10.setO (N + 6) .dead := ⟨_, rfl⟩
        rw [← h11] at g
        have k11 : ∀ {c es : Nat} {l : List AV}, σ10.Row c es l → c ≠ N + 6 → σ11.Row c es l := fun r hc => by rw [h11]; exact r.setO_ne (Ne.symm hc)
        have p11 : σ11.prot ≤ N := by rw [h11, setO_prot, I.kk.prot, hN]; exact hp
        have a3 := one_int (k11 I.r3 (by omega))
        have a4 := one_int (k11 I.r4 (by omega))
        rw [← hN] at a3 a4
        obtain ⟨σ12, t12, e12, R12', k12⟩ := one_st (w := .int .i64 (ranR (bwtOf t (saOf t)) t.length al pt).1) (k11 I.r1 (by omega)) (by omega) rfl
        obtain ⟨σ13, t13, e13, R13', k13⟩ := one_st (w := .int .i64 (ranR (bwtOf t (saOf t)) t.length al pt).2) (k12 (k11 I.r2 (by omega)) (by omega)) (by rw [e12, setO_prot]; omega) rfl
        rw [← hN] at t12 t13
        have b1 := one_int (k13 R12' (by omega))
        have b2 := one_int R13'
        rw [← hN] at b1 b2
        refine ⟨σ13, ⟨n, fun k hk => ?_⟩, by rw [e13, e12, h11]; exact ((I.kk.setO (by omega)).setO (by omega)).setO (by omega)⟩
        have g := g k hk
        simp only at g
        simp only [g, Option.bind_some, f18_RC111010, off, if_true, a3, a4, t12, t13, b1, b2]
      · obtain ⟨n, g⟩ := range_stop (P := Try.prog) (g := 60) (a := []) (b := [.ptr (some (N + 5, 0))]) (φ := rgf N) (ps := [35, 36]) (x := rgx) (y := rgy) (nt := Func.ntmps Try.f18) (σ := σ8) (σ' := σ10) (by rw [l8, ← h9]; exact r10) (by rw [l8, hN]; exact I.r6)
        rw [l8] at g
        obtain ⟨σ11, h11⟩ : ∃ s, s = σ10.setO (N + 6) .dead := ⟨_, rfl⟩
        rw [← h11] at g
        have k11 : ∀ {c es : Nat} {l : List AV}, σ10.Row c es l → c ≠ N + 6 → σ11.Row c es l := fun r hc => by rw [h11]; exact r.setO_ne (Ne.symm hc)
        have b1 := one_int (k11 I.r1 (by omega))
        have b2 := one_int (k11 I.r2 (by omega))
        rw [← hN] at b1 b2
        refine ⟨σ11, ⟨n, fun k hk => ?_⟩, by rw [h11]; exact I.kk.setO (by omega)⟩
        have g := g k hk
        simp only at g
        simp only [g, z, Option.bind_some, f18_RT111010, b1, b2]
    obtain ⟨σ', ⟨nt, et⟩, Kf⟩ := tail
    by_cases hpos : 0 < pt.length
    · have hp0 : (0 : Int) < h.len := by omega
      have w1 : IntKind.wrap .i64 ((h.len : Int) - 1) = (pt.length : Int) - 1 := by rw [ll, wrap64 (by omega) (by omega)]
      obtain ⟨hx, q1, q2, q3, _⟩ := sub_spec S3 (hH.kp K3) (lo := none) (hi := some ((pt.length : Int) - 1)) (by simp) (by simp; omega) (by simp; omega)
      have J : σ3.Ints hx (pt.take (pt.length - 1)) := by
        have : (Option.getD (some ((pt.length : Int) - 1)) (h.len : Int)).toNat = pt.length - 1 := by simp only [Option.getD_some]; omega
        rw [this] at q2
        simp only [Option.getD_none, Int.toNat_zero, List.drop_zero, intsL_take] at q2; exact q2
      obtain ⟨k1, r1⟩ := contains_run J (by simp; omega) (rd t (t.length - 1))
      rw [decide_eq_false hm] at r1
      refine ⟨σ', Runs.intro (fn := Try.f18) (by kernel_rfl) (by kernel_rfl) ⟨k1 + n8 + nt, fun k hk => ?_⟩, Kf⟩
      have r1 := r1 k (by omega)
      have r8 := r8 k (by omega)
      have et := et k (by omega)
      simp only at r1 r8 et
      simp only [f18_eq]
      simp only [Option.bind_some, decide_eq_true_eq, decide_eq_false_iff_not, Bool.not_eq_true', Bool.not_true, Bool.not_false, Bool.false_eq_true, Bool.true_eq_false, Bool.not_eq_eq_eq_not, beq_self_eq_true, beqFT, beqTF, decide_true, decide_false, not_false_eq_true, not_true_eq_false, ne_eq, true_and, and_true, false_and, and_false, and_self, if_true, if_false, ite_true, ite_false, Bool.and_true, Bool.and_false, Bool.true_and, Bool.false_and, Bool.or_true, Bool.true_or, Bool.or_false, Bool.false_or, or_true, true_or, or_false, false_or, or_self, AV.asInt, AV.asBool, AV.asSl, AV.asPtr, AV.asFn, AV.asStr, AV.asMap, AV.asIfc, AV.item, List.length_cons, List.length_nil, List.getElem?_cons_zero, List.getElem?_cons_succ, Nat.zero_add, ← h1, ← h2, ← h3, ← hN, l1, l2, f0, Option.isNone_some, hp0, w1, q1, e3, r1, e0, l3, ← h4, ← h5, l4, t6, t7, r8]
      exact et
    · have hp0 : ¬ (0 : Int) < h.len := by omega
      refine ⟨σ', Runs.intro (fn := Try.f18) (by kernel_rfl) (by kernel_rfl) ⟨n8 + nt, fun k hk => ?_⟩, Kf⟩
      have r8 := r8 k (by omega)
      have et := et k (by omega)
      simp only at r8 et
      simp only [f18_eq]
      simp only [Option.bind_some, decide_eq_true_eq, decide_eq_false_iff_not, Bool.not_eq_true', Bool.not_true, Bool.not_false, Bool.false_eq_true, Bool.true_eq_false, Bool.not_eq_eq_eq_not, beq_self_eq_true, beqFT, beqTF, decide_true, decide_false, not_false_eq_true, not_true_eq_false, ne_eq, true_and, and_true, false_and, and_false, and_self, if_true, if_false, ite_true, ite_false, Bool.and_true, Bool.and_false, Bool.true_and, Bool.false_and, Bool.or_true, Bool.true_or, Bool.or_false, Bool.false_or, or_true, true_or, or_false, false_or, or_self, AV.asInt, AV.asBool, AV.asSl, AV.asPtr, AV.asFn, AV.asStr, AV.asMap, AV.asIfc, AV.item, List.length_cons, List.length_nil, List.getElem?_cons_zero, List.getElem?_cons_succ, Nat.zero_add, ← h1, ← h2, ← h3, ← hN, l1, l2, f0, Option.isNone_some, hp0, e0, l3, ← h4, ← h5, l4, t6, t7, r8]
      exact et
end
end Go.Ab


/- Sorting; the places of a pattern; the references of the layer; the law's ended. -/
namespace Go.Ab
open Go Go.Proofs Go.Ab.Wd Go.Ab.Bs Go.Ab.Sai
set_option linter.unusedVariables false
set_option linter.unusedSimpArgs false
/-- slices.Sort of a row of its own. -/
theorem slsort_run {σ : Store} {n : Nat} {h : Hdl} {l : List Int} (g : GrowI σ n h l) (hp : σ.prot ≤ n) (hl : l.length < 2 ^ 60) : ∃ σ', Runs Try.prog 40 [.slice h] σ (.tuple []) σ' ∧ Kp n σ σ' ∧ GrowI σ' n h (sortL l) ∧ σ'.objs.length = σ.objs.length := by
  have ll := g.ints.ilen
  rcases Nat.eq_zero_or_pos l.length with h0 | h0
  · have : l = [] := List.eq_nil_of_length_eq_zero h0
    subst this
    refine ⟨σ, Runs.told (f := sortT) (by kernel_rfl) ?_, Kp.refl _ _, g, rfl⟩
    obtain ⟨a, len, cap⟩ := h
    simp only [List.length_nil] at ll
    subst ll
    rfl
  · have s := Grow.sl g
    rcases s.row with h1 | ⟨b, o, cs, rw, h1, h2, h3, h4⟩
    · omega
    · obtain ⟨hb, cs', k1, k2, k3⟩ := g.own.own b o h1
      rw [h2] at k1; injection k1 with k1; injection k1 with e1 e2 e3; subst e1 e2
      simp only [intsL_length] at h3 h4
      have hbl : b < σ.objs.length := (List.getElem?_eq_some_iff.1 h2).1
      refine ⟨σ.setO b (.cells (cs.take o ++ (intsL (sortL l) ++ cs.drop (o + l.length))) true 1), Runs.told (f := sortT) (by kernel_rfl) ?_, (Kp.refl _ _).setO hb, ⟨⟨by simp [ll, sortL_length], .inr ⟨b, o, _, true, h1, Store.Row.setO_eq hbl, ?_, ?_⟩⟩, ⟨fun b' o' e => ?_, g.own.nil⟩⟩, by simp⟩
      · obtain ⟨a, len, cap⟩ := h
        simp only at h1 ll
        subst h1 ll
        obtain ⟨m, hm⟩ : ∃ m, l.length = m + 1 := ⟨l.length - 1, by omega⟩
        unfold sortT
        simp only [hm]
        simp only [h2]
        rw [hm] at h3 h4
        rw [h4, intsOf_ints]
        simp only
        rw [if_pos ⟨by omega, h3, by omega⟩]
      · simp only [List.length_append, List.length_take, intsL_length, List.length_drop, sortL_length]; omega
      · have tk : (cs.take o).length = o := by simp; omega
        rw [List.drop_append_of_le_length (by omega), List.drop_of_length_le (by omega), List.nil_append, List.take_append_of_le_length (by simp), List.take_of_length_le (by simp)]
      · rw [h1] at e; injection e with e; injection e with e1 e2; subst e1 e2
        refine ⟨hb, _, Store.Row.setO_eq hbl, ?_, fun c hc => ?_⟩
        · simp only [List.length_append, List.length_take, intsL_length, List.length_drop, sortL_length]; omega
        · have := k3 c hc
          simp only [List.length_append, List.length_take, intsL_length, List.length_drop, sortL_length]; omega
section
variable {σ : Store} {p : Ptr} {t : List Int} {al sp : Nat}
/-- The suffixes of a range. -/
def suf (t : List Int) (x : Int) (m : Nat) : List Int := (List.range m).map fun j : Nat => rd (saOf t) (x + j)
theorem suf_succ (t : List Int) (x : Int) (m : Nat) : suf t x (m + 1) = suf t x m ++ [rd (saOf t) (x + m)] := by simp [suf, List.range_succ]
theorem suf_length (t : List Int) (x : Int) (m : Nat) : (suf t x m).length = m := by simp [suf]
def plsOf (t : List Int) (al : Nat) (pt : List Int) : List Int := if pt = [] then [] else sortL (suf t (ran t al pt).1 ((ran t al pt).2 - (ran t al pt).1).toNat)
theorem ran_rng (F : Fnd σ p t al sp) (pt : List Int) : 0 ≤ (ran t al pt).1 ∧ (ran t al pt).1 ≤ t.length ∧ 0 ≤ (ran t al pt).2 ∧ (ran t al pt).2 ≤ t.length := by
  unfold ran
  split
  · simp
  · exact ranR_rng F.bl pt
theorem places_run {h : Hdl} {pt : List Int} (F : Fnd σ p t al sp) (hp : σ.prot ≤ σ.objs.length) (S : σ.Ints h pt) (hH : σ.Has h) (hn : pt.length < 2 ^ 61) :
    ∃ ho σ', Runs Try.prog 20 [.ptr p, .slice h] σ (.slice ho) σ' ∧ Kp σ.objs.length σ σ' ∧ GrowI σ' σ.objs.length ho (plsOf t al pt) := by
  have ll := S.ilen
  by_cases c : pt = []
  · have z : (h.len : Int) = 0 := by rw [ll, c]; rfl
    refine ⟨Hdl.nil, σ, Runs.intro (fn := Try.f20) (by kernel_rfl) (by kernel_rfl) (Ev.of fun k => ?_), Kp.refl _ _, by unfold plsOf; rw [if_pos c]; exact Grow.nil _ _ _⟩
    simp only [f20_eq]
    simp only [Option.bind_some, decide_eq_true_eq, decide_eq_false_iff_not, Bool.not_eq_true', Bool.not_true, Bool.not_false, Bool.false_eq_true, Bool.true_eq_false, Bool.not_eq_eq_eq_not, beq_self_eq_true, beqFT, beqTF, decide_true, decide_false, not_false_eq_true, not_true_eq_false, ne_eq, true_and, and_true, false_and, and_false, and_self, if_true, if_false, ite_true, ite_false, Bool.and_true, Bool.and_false, Bool.true_and, Bool.false_and, Bool.or_true, Bool.true_or, Bool.or_false, Bool.false_or, or_true, true_or, or_false, false_or, or_self, AV.asInt, AV.asBool, AV.asSl, AV.asPtr, AV.asFn, AV.asStr, AV.asMap, AV.asIfc, AV.item, List.length_cons, List.length_nil, List.getElem?_cons_zero, List.getElem?_cons_succ, Nat.zero_add, z]
  have z : ¬ (h.len : Int) = 0 := by
    have : 0 < pt.length := List.length_pos_iff.2 c
    omega
  obtain ⟨σ1, ⟨k1, r1⟩, K1⟩ := frange_run F hp S hH hn
  obtain ⟨x0, x1, y0, y1⟩ := ran_rng F pt
  obtain ⟨x, hx⟩ : ∃ x, x = (ran t al pt).1 := ⟨_, rfl⟩
  obtain ⟨y, hy⟩ : ∃ y, y = (ran t al pt).2 := ⟨_, rfl⟩
  rw [← hx, ← hy] at r1
  rw [← hx] at x0 x1
  rw [← hy] at y0 y1
  have sm := F.small
  obtain ⟨re, e, ho, σ2, rfl, K2, G2⟩ := EvI.up (f := fun k s => stepF Try.prog (gm Try.prog k) drawn k Try.f20 [1, 1, 1, 1, 0, 1, 0] [8, 7, 6, 0] s) (y - x).toNat
    (fun i s => ∃ h1 s1, s = ([.int .i64 (x + i), .slice h1, .int .i64 y, .ptr p], s1) ∧ Kp σ.objs.length σ s1 ∧ GrowI s1 σ.objs.length h1 (suf t x i))
    (fun r => ∃ h1 s1, r = (AX.exit 0, [(7, .slice h1)], s1) ∧ Kp σ.objs.length σ s1 ∧ GrowI s1 σ.objs.length h1 (suf t x (y - x).toNat))
    (by
      rintro i s hi ⟨h1, s1, rfl, kk, g⟩
      have i1 : x + (i : Int) < y := by omega
      obtain ⟨n1, q1⟩ := place_run (F.kp kk) (x + i)
      rw [if_pos ⟨by omega, by omega⟩] at q1
      obtain ⟨h2, s2, e2, k2, g2⟩ := g.app (by rw [kk.prot]; exact hp) kk.len (rd (saOf t) (x + i)) (by rw [suf_length]; omega)
      have w : IntKind.wrap .i64 (x + (i : Int) + 1) = x + ((i + 1 : Nat) : Int) := by rw [wrap64 (by omega) (by omega)]; omega
      refine ⟨_, ⟨n1, fun k hk => ?_⟩, h2, s2, rfl, kk.trans k2, by rw [suf_succ]; exact g2⟩
      have q1 := q1 k hk
      simp only at q1
      simp only [f20_L1111010]
      simp only [Option.bind_some, decide_eq_true_eq, decide_eq_false_iff_not, Bool.not_eq_true', Bool.not_true, Bool.not_false, Bool.false_eq_true, Bool.true_eq_false, Bool.not_eq_eq_eq_not, beq_self_eq_true, beqFT, beqTF, decide_true, decide_false, not_false_eq_true, not_true_eq_false, ne_eq, true_and, and_true, false_and, and_false, and_self, if_true, if_false, ite_true, ite_false, Bool.and_true, Bool.and_false, Bool.true_and, Bool.false_and, Bool.or_true, Bool.true_or, Bool.or_false, Bool.false_or, or_true, true_or, or_false, false_or, or_self, AV.asInt, AV.asBool, AV.asSl, AV.asPtr, AV.asFn, AV.asStr, AV.asMap, AV.asIfc, AV.item, List.length_cons, List.length_nil, List.getElem?_cons_zero, List.getElem?_cons_succ, Nat.zero_add, i1, q1, read1, e2, w])
    (by
      rintro s ⟨h1, s1, rfl, kk, g⟩
      have i1 : ¬ x + (((y - x).toNat : Nat) : Int) < y := by omega
      exact ⟨(AX.exit 0, [(7, .slice h1)], s1), Ev.of fun k => by simp only [f20_L1111010]; simp only [Option.bind_some, decide_eq_true_eq, decide_eq_false_iff_not, Bool.not_eq_true', Bool.not_true, Bool.not_false, Bool.false_eq_true, Bool.true_eq_false, Bool.not_eq_eq_eq_not, beq_self_eq_true, beqFT, beqTF, decide_true, decide_false, not_false_eq_true, not_true_eq_false, ne_eq, true_and, and_true, false_and, and_false, and_self, if_true, if_false, ite_true, ite_false, Bool.and_true, Bool.and_false, Bool.true_and, Bool.false_and, Bool.or_true, Bool.true_or, Bool.or_false, Bool.false_or, or_true, true_or, or_false, false_or, or_self, AV.asInt, AV.asBool, AV.asSl, AV.asPtr, AV.asFn, AV.asStr, AV.asMap, AV.asIfc, AV.item, List.length_cons, List.length_nil, List.getElem?_cons_zero, List.getElem?_cons_succ, Nat.zero_add, i1], h1, s1, rfl, kk, g⟩)
    (s := ([.int .i64 x, .slice Hdl.nil, .int .i64 y, .ptr p], σ1)) ⟨Hdl.nil, σ1, by simp, K1, (show suf t x 0 = [] from rfl) ▸ Grow.nil _ _ _⟩
  obtain ⟨σ3, ⟨k3, r3⟩, K3, G3, _⟩ := slsort_run G2 (by rw [K2.prot]; exact hp) (by rw [suf_length]; omega)
  obtain ⟨k2, e⟩ := loopF_ev e
  refine ⟨ho, σ3, Runs.intro (fn := Try.f20) (by kernel_rfl) (by kernel_rfl) ⟨k1 + k2 + k3, fun k hk => ?_⟩, K2.trans K3, by unfold plsOf; rw [if_neg c, ← hx, ← hy]; exact G3⟩
  have r1 := r1 k (by omega)
  have e := e k (by omega)
  have r3 := r3 k (by omega)
  simp only at r1 e r3
  simp only [f20_eq]
  simp only [Option.bind_some, decide_eq_true_eq, decide_eq_false_iff_not, Bool.not_eq_true', Bool.not_true, Bool.not_false, Bool.false_eq_true, Bool.true_eq_false, Bool.not_eq_eq_eq_not, beq_self_eq_true, beqFT, beqTF, decide_true, decide_false, not_false_eq_true, not_true_eq_false, ne_eq, true_and, and_true, false_and, and_false, and_self, if_true, if_false, ite_true, ite_false, Bool.and_true, Bool.and_false, Bool.true_and, Bool.false_and, Bool.or_true, Bool.true_or, Bool.or_false, Bool.false_or, or_true, true_or, or_false, false_or, or_self, AV.asInt, AV.asBool, AV.asSl, AV.asPtr, AV.asFn, AV.asStr, AV.asMap, AV.asIfc, AV.item, List.length_cons, List.length_nil, List.getElem?_cons_zero, List.getElem?_cons_succ, Nat.zero_add, z, r1, e]
  rw [f20_X1111010_1]
  simp only [Option.bind_some, decide_eq_true_eq, decide_eq_false_iff_not, Bool.not_eq_true', Bool.not_true, Bool.not_false, Bool.false_eq_true, Bool.true_eq_false, Bool.not_eq_eq_eq_not, beq_self_eq_true, beqFT, beqTF, decide_true, decide_false, not_false_eq_true, not_true_eq_false, ne_eq, true_and, and_true, false_and, and_false, and_self, if_true, if_false, ite_true, ite_false, Bool.and_true, Bool.and_false, Bool.true_and, Bool.false_and, Bool.or_true, Bool.true_or, Bool.or_false, Bool.false_or, or_true, true_or, or_false, false_or, or_self, AV.asInt, AV.asBool, AV.asSl, AV.asPtr, AV.asFn, AV.asStr, AV.asMap, AV.asIfc, AV.item, List.length_cons, List.length_nil, List.getElem?_cons_zero, List.getElem?_cons_succ, Nat.zero_add, r3]
end
/-! ### what the references say -/
def pfB (t : List Int) (q : Int) (p : List Int) : Bool := decide (0 ≤ q) && (decide (q + p.length ≤ t.length) && (List.range p.length).all fun k => decide (rd t (q + k) = rd p k))
theorem pfB_iff {t p : List Int} {q : Int} : pfB t q p = true ↔ Pf t q p := by
  unfold pfB Pf
  simp
theorem stands_run {σ : Store} {h h' : Hdl} {t p : List Int} (T : σ.Ints h t) (S : σ.Ints h' p) (hn : t.length < 2 ^ 60) (hn' : p.length < 2 ^ 60) {q : Int} (q0 : 0 ≤ q) (q1 : q ≤ t.length) :
    Runs Try.prog 26 [.slice h, .slice h', .int .i64 q] σ (.bool (pfB t q p)) σ := by
  have lt := T.ilen
  have lp := S.ilen
  have w1 : IntKind.wrap .i64 ((h.len : Int) - q) = t.length - q := by rw [lt, wrap64 (by omega) (by omega)]
  by_cases c : (t.length : Int) - q < p.length
  · have e : pfB t q p = false := by
      rw [Bool.eq_false_iff]; intro h; rw [pfB_iff] at h; have := h.2.1; omega
    rw [e]
    refine Runs.intro (fn := Try.f26) (by kernel_rfl) (by kernel_rfl) (Ev.of fun k => ?_)
    simp only [f26_eq]
    simp only [Option.bind_some, decide_eq_true_eq, decide_eq_false_iff_not, Bool.not_eq_true', Bool.not_true, Bool.not_false, Bool.false_eq_true, Bool.true_eq_false, Bool.not_eq_eq_eq_not, beq_self_eq_true, beqFT, beqTF, decide_true, decide_false, not_false_eq_true, not_true_eq_false, ne_eq, true_and, and_true, false_and, and_false, and_self, if_true, if_false, ite_true, ite_false, Bool.and_true, Bool.and_false, Bool.true_and, Bool.false_and, Bool.or_true, Bool.true_or, Bool.or_false, Bool.false_or, or_true, true_or, or_false, false_or, or_self, AV.asInt, AV.asBool, AV.asSl, AV.asPtr, AV.asFn, AV.asStr, AV.asMap, AV.asIfc, AV.item, List.length_cons, List.length_nil, List.getElem?_cons_zero, List.getElem?_cons_succ, Nat.zero_add, w1, lp, c]
  obtain ⟨r, e, Q⟩ := EvI.upX (f := fun k s => stepF Try.prog (gm Try.prog k) drawn k Try.f26 [1, 1, 0, 1, 0] [17, 16, 2, 1, 0] s) p.length
    (fun i s => s = ([.int .i64 i, .int .i64 p.length, .int .i64 q, .slice h', .slice h], σ) ∧ ∀ k : Nat, k < i → rd t (q + k) = rd p k)
    (fun r => (r = (AX.ret, [(6, .bool false)], σ) ∧ pfB t q p = false) ∨ (r = (AX.exit 0, [], σ) ∧ pfB t q p = true))
    (by
      rintro i s hi ⟨rfl, hq⟩
      have i0 : (0 : Int) ≤ i := by omega
      have i1 : (i : Int) < p.length := by omega
      have i2 : (i : Int) < h'.len := by omega
      have j0 : 0 ≤ q + (i : Int) := by omega
      have j1 : q + (i : Int) < t.length := by omega
      have j2 : q + (i : Int) < h.len := by omega
      have w := wsucc hi (by omega)
      have w2 : IntKind.wrap .i64 (q + (i : Int)) = q + i := wrap64 (by omega) (by omega)
      by_cases e : rd t (q + i) = rd p i
      · refine .inl ⟨_, Ev.of fun k => by simp only [f26_L11010]; simp only [Option.bind_some, decide_eq_true_eq, decide_eq_false_iff_not, Bool.not_eq_true', Bool.not_true, Bool.not_false, Bool.false_eq_true, Bool.true_eq_false, Bool.not_eq_eq_eq_not, beq_self_eq_true, beqFT, beqTF, decide_true, decide_false, not_false_eq_true, not_true_eq_false, ne_eq, true_and, and_true, false_and, and_false, and_self, if_true, if_false, ite_true, ite_false, Bool.and_true, Bool.and_false, Bool.true_and, Bool.false_and, Bool.or_true, Bool.true_or, Bool.or_false, Bool.false_or, or_true, true_or, or_false, false_or, or_self, AV.asInt, AV.asBool, AV.asSl, AV.asPtr, AV.asFn, AV.asStr, AV.asMap, AV.asIfc, AV.item, List.length_cons, List.length_nil, List.getElem?_cons_zero, List.getElem?_cons_succ, Nat.zero_add, i0, i1, i2, w2, j0, j2, T.rd j0 j1, S.rd i0 i1, e, w], rfl, fun k hk => ?_⟩
        by_cases ek : k = i
        · subst ek; exact e
        · exact hq k (by omega)
      · refine .inr ⟨(AX.ret, [(6, .bool false)], σ), Ev.of fun k => by simp only [f26_L11010]; simp only [Option.bind_some, decide_eq_true_eq, decide_eq_false_iff_not, Bool.not_eq_true', Bool.not_true, Bool.not_false, Bool.false_eq_true, Bool.true_eq_false, Bool.not_eq_eq_eq_not, beq_self_eq_true, beqFT, beqTF, decide_true, decide_false, not_false_eq_true, not_true_eq_false, ne_eq, true_and, and_true, false_and, and_false, and_self, if_true, if_false, ite_true, ite_false, Bool.and_true, Bool.and_false, Bool.true_and, Bool.false_and, Bool.or_true, Bool.true_or, Bool.or_false, Bool.false_or, or_true, true_or, or_false, false_or, or_self, AV.asInt, AV.asBool, AV.asSl, AV.asPtr, AV.asFn, AV.asStr, AV.asMap, AV.asIfc, AV.item, List.length_cons, List.length_nil, List.getElem?_cons_zero, List.getElem?_cons_succ, Nat.zero_add, i0, i1, i2, w2, j0, j2, T.rd j0 j1, S.rd i0 i1, e], .inl ⟨rfl, ?_⟩⟩
        rw [Bool.eq_false_iff]; intro hh; rw [pfB_iff] at hh; exact e (hh.2.2 i hi))
    (by
      rintro s ⟨rfl, hq⟩
      exact ⟨(AX.exit 0, [], σ), Ev.of fun k => by simp only [f26_L11010]; simp only [Option.bind_some, decide_eq_true_eq, decide_eq_false_iff_not, Bool.not_eq_true', Bool.not_true, Bool.not_false, Bool.false_eq_true, Bool.true_eq_false, Bool.not_eq_eq_eq_not, beq_self_eq_true, beqFT, beqTF, decide_true, decide_false, not_false_eq_true, not_true_eq_false, ne_eq, true_and, and_true, false_and, and_false, and_self, if_true, if_false, ite_true, ite_false, Bool.and_true, Bool.and_false, Bool.true_and, Bool.false_and, Bool.or_true, Bool.true_or, Bool.or_false, Bool.false_or, or_true, true_or, or_false, false_or, or_self, AV.asInt, AV.asBool, AV.asSl, AV.asPtr, AV.asFn, AV.asStr, AV.asMap, AV.asIfc, AV.item, List.length_cons, List.length_nil, List.getElem?_cons_zero, List.getElem?_cons_succ, Nat.zero_add, Int.lt_irrefl], .inr ⟨rfl, pfB_iff.2 ⟨q0, by omega, hq⟩⟩⟩)
    (Nat.zero_le _) (s := ([.int .i64 0, .int .i64 p.length, .int .i64 q, .slice h', .slice h], σ)) ⟨rfl, fun k hk => by omega⟩
  rcases Q with ⟨rfl, Q⟩ | ⟨rfl, Q⟩
  · rw [Q]
    refine Runs.intro (fn := Try.f26) (by kernel_rfl) (by kernel_rfl) ?_
    exact (Ev.bind (loopF_ev e) (Ev.of fun k => f26_X11010_1 (gm Try.prog k) k σ _)).congr fun k => by simp only [f26_eq]; simp only [Option.bind_some, decide_eq_true_eq, decide_eq_false_iff_not, Bool.not_eq_true', Bool.not_true, Bool.not_false, Bool.false_eq_true, Bool.true_eq_false, Bool.not_eq_eq_eq_not, beq_self_eq_true, beqFT, beqTF, decide_true, decide_false, not_false_eq_true, not_true_eq_false, ne_eq, true_and, and_true, false_and, and_false, and_self, if_true, if_false, ite_true, ite_false, Bool.and_true, Bool.and_false, Bool.true_and, Bool.false_and, Bool.or_true, Bool.true_or, Bool.or_false, Bool.false_or, or_true, true_or, or_false, false_or, or_self, AV.asInt, AV.asBool, AV.asSl, AV.asPtr, AV.asFn, AV.asStr, AV.asMap, AV.asIfc, AV.item, List.length_cons, List.length_nil, List.getElem?_cons_zero, List.getElem?_cons_succ, Nat.zero_add, w1, lp, c]
  · rw [Q]
    refine Runs.intro (fn := Try.f26) (by kernel_rfl) (by kernel_rfl) ?_
    exact (Ev.bind (loopF_ev e) (Ev.of fun k => f26_X11010_2 (gm Try.prog k) k σ)).congr fun k => by simp only [f26_eq]; simp only [Option.bind_some, decide_eq_true_eq, decide_eq_false_iff_not, Bool.not_eq_true', Bool.not_true, Bool.not_false, Bool.false_eq_true, Bool.true_eq_false, Bool.not_eq_eq_eq_not, beq_self_eq_true, beqFT, beqTF, decide_true, decide_false, not_false_eq_true, not_true_eq_false, ne_eq, true_and, and_true, false_and, and_false, and_self, if_true, if_false, ite_true, ite_false, Bool.and_true, Bool.and_false, Bool.true_and, Bool.false_and, Bool.or_true, Bool.true_or, Bool.or_false, Bool.false_or, or_true, true_or, or_false, false_or, or_self, AV.asInt, AV.asBool, AV.asSl, AV.asPtr, AV.asFn, AV.asStr, AV.asMap, AV.asIfc, AV.item, List.length_cons, List.length_nil, List.getElem?_cons_zero, List.getElem?_cons_succ, Nat.zero_add, w1, lp, c]
def refPls (t p : List Int) : List Int := if p = [] then [] else (places t.length).filter fun q => pfB t q p
theorem places_succ (i : Nat) : places (i + 1) = places i ++ [(i : Int)] := by simp [places, List.range_succ]
theorem ends15_run {σ : Store} {h : Hdl} {t : List Int} (T : σ.Ints h t) (hn : t.length < 2 ^ 60) : ∃ b, Runs Try.prog 13 [.slice h] σ (.bool b) σ ∧ (b = true ↔ Bs.Ends t) := by
  have lt := T.ilen
  have w1 : IntKind.wrap .i64 ((h.len : Int) - 1) = (t.length : Int) - 1 := by rw [lt, wrap64 (by omega) (by omega)]
  obtain ⟨r, e, Q⟩ := EvI.upX (f := fun k s => stepF Try.prog (gm Try.prog k) drawn k Try.f13 [1, 0, 1, 0] [3, 0] s) (t.length - 1)
    (fun i s => s = ([.int .i64 i, .slice h], σ) ∧ ∀ k : Nat, k < i → rd t k ≠ rd t (t.length - 1))
    (fun r => (r = (AX.ret, [(2, .bool false)], σ) ∧ ¬ Bs.Ends t) ∨ (r = (AX.exit 0, [(0, .slice h)], σ) ∧ (0 < t.length → Bs.Ends t)))
    (by
      rintro i s hi ⟨rfl, hq⟩
      have i0 : (0 : Int) ≤ i := by omega
      have i1 : (i : Int) < h.len := by omega
      have w : IntKind.wrap .i64 ((i : Int) + 1) = ((i + 1 : Nat) : Int) := by rw [wrap64 (by omega) (by omega)]; omega
      have i2 : ((i + 1 : Nat) : Int) < h.len := by omega
      have j0 : (0 : Int) ≤ (t.length : Int) - 1 := by omega
      have j1 : (t.length : Int) - 1 < h.len := by omega
      have r1 := T.rd i0 (by omega)
      have r2 := T.rd (i := (t.length : Int) - 1) j0 (by omega)
      by_cases e : rd t i = rd t (t.length - 1)
      · exact .inr ⟨_, Ev.of fun k => by simp only [f13_L1010]; simp only [Option.bind_some, decide_eq_true_eq, decide_eq_false_iff_not, Bool.not_eq_true', Bool.not_true, Bool.not_false, Bool.false_eq_true, Bool.true_eq_false, Bool.not_eq_eq_eq_not, beq_self_eq_true, beqFT, beqTF, decide_true, decide_false, not_false_eq_true, not_true_eq_false, ne_eq, true_and, and_true, false_and, and_false, and_self, if_true, if_false, ite_true, ite_false, Bool.and_true, Bool.and_false, Bool.true_and, Bool.false_and, Bool.or_true, Bool.true_or, Bool.or_false, Bool.false_or, or_true, true_or, or_false, false_or, or_self, AV.asInt, AV.asBool, AV.asSl, AV.asPtr, AV.asFn, AV.asStr, AV.asMap, AV.asIfc, AV.item, List.length_cons, List.length_nil, List.getElem?_cons_zero, List.getElem?_cons_succ, Nat.zero_add, w, i2, i0, i1, r1, w1, j0, j1, r2, e], .inl ⟨rfl, fun hE => hE.2 i i0 (by omega) e⟩⟩
      · refine .inl ⟨_, Ev.of fun k => by simp only [f13_L1010]; simp only [Option.bind_some, decide_eq_true_eq, decide_eq_false_iff_not, Bool.not_eq_true', Bool.not_true, Bool.not_false, Bool.false_eq_true, Bool.true_eq_false, Bool.not_eq_eq_eq_not, beq_self_eq_true, beqFT, beqTF, decide_true, decide_false, not_false_eq_true, not_true_eq_false, ne_eq, true_and, and_true, false_and, and_false, and_self, if_true, if_false, ite_true, ite_false, Bool.and_true, Bool.and_false, Bool.true_and, Bool.false_and, Bool.or_true, Bool.true_or, Bool.or_false, Bool.false_or, or_true, true_or, or_false, false_or, or_self, AV.asInt, AV.asBool, AV.asSl, AV.asPtr, AV.asFn, AV.asStr, AV.asMap, AV.asIfc, AV.item, List.length_cons, List.length_nil, List.getElem?_cons_zero, List.getElem?_cons_succ, Nat.zero_add, w, i2, i0, i1, r1, w1, j0, j1, r2, e], rfl, fun k hk => ?_⟩
        by_cases ek : k = i
        · subst ek; exact e
        · exact hq k (by omega))
    (by
      rintro s ⟨rfl, hq⟩
      have w : IntKind.wrap .i64 (((t.length - 1 : Nat) : Int) + 1) = ((t.length - 1 + 1 : Nat) : Int) := by rw [wrap64 (by omega) (by omega)]; omega
      have i2 : ¬ ((t.length - 1 + 1 : Nat) : Int) < h.len := by omega
      refine ⟨_, Ev.of fun k => by simp only [f13_L1010]; simp only [Option.bind_some, decide_eq_true_eq, decide_eq_false_iff_not, Bool.not_eq_true', Bool.not_true, Bool.not_false, Bool.false_eq_true, Bool.true_eq_false, Bool.not_eq_eq_eq_not, beq_self_eq_true, beqFT, beqTF, decide_true, decide_false, not_false_eq_true, not_true_eq_false, ne_eq, true_and, and_true, false_and, and_false, and_self, if_true, if_false, ite_true, ite_false, Bool.and_true, Bool.and_false, Bool.true_and, Bool.false_and, Bool.or_true, Bool.true_or, Bool.or_false, Bool.false_or, or_true, true_or, or_false, false_or, or_self, AV.asInt, AV.asBool, AV.asSl, AV.asPtr, AV.asFn, AV.asStr, AV.asMap, AV.asIfc, AV.item, List.length_cons, List.length_nil, List.getElem?_cons_zero, List.getElem?_cons_succ, Nat.zero_add, w, i2], .inr ⟨rfl, fun h0 => ⟨h0, fun i i0 i1 => ?_⟩⟩⟩
      obtain ⟨i, rfl⟩ := Int.eq_ofNat_of_zero_le i0
      exact hq i (by omega))
    (Nat.zero_le _) (s := ([.int .i64 0, .slice h], σ)) ⟨rfl, fun k hk => by omega⟩
  rcases Q with ⟨rfl, Q⟩ | ⟨rfl, Q⟩
  · refine ⟨false, Runs.intro (fn := Try.f13) (by kernel_rfl) (by kernel_rfl) ?_, by simp [Q]⟩
    exact (Ev.bind (loopF_ev e) (Ev.of fun k => f13_X1010_1 (gm Try.prog k) k σ _)).congr fun k => by rw [f13_eq]
  · refine ⟨decide (0 < (h.len : Int)), Runs.intro (fn := Try.f13) (by kernel_rfl) (by kernel_rfl) ?_, ?_⟩
    · exact (Ev.bind (loopF_ev e) (Ev.of fun k => f13_X1010_2 (gm Try.prog k) k σ _)).congr fun k => by rw [f13_eq]
    · rw [decide_eq_true_eq]
      exact ⟨fun h0 => Q (by omega), fun hE => by have := hE.1; omega⟩
end Go.Ab


/- The law's lists; the places found are those where a pattern stands. -/
namespace Go.Ab
open Go Go.Proofs Go.Ab.Wd Go.Ab.Bs Go.Ab.Sai
set_option linter.unusedVariables false
set_option linter.unusedSimpArgs false
theorem first15_told (σ : Store) : Runs Try.prog 10 [] σ (.bool true) σ := Runs.told (f := fun args σ => match args with | [] => some (.bool true, σ) | _ => none) (by kernel_rfl) rfl
theorem sorted_places (n : Nat) : (places n).Pairwise (· ≤ ·) := by
  unfold places
  rw [List.pairwise_map]
  refine (List.pairwise_le_range (n := n)).imp fun h => ?_
  simp only [Int.ofNat_eq_natCast]; omega
theorem suf_mem {t : List Int} {x q : Int} {m : Nat} : q ∈ suf t x m ↔ ∃ j : Nat, j < m ∧ rd (saOf t) (x + j) = q := by
  unfold suf; simp
theorem suf_nodup {t : List Int} {a m : Nat} (h : a + m ≤ t.length) : (suf t a m).Nodup := by
  have SA := saOf_spec t
  have ls := saOf_len t
  unfold suf
  rw [List.nodup_iff_pairwise_ne, List.pairwise_map]
  refine (List.nodup_iff_pairwise_ne.1 List.nodup_range).imp_of_mem fun {i j} hi hj hne e => ?_
  rw [List.mem_range] at hi hj
  rw [show (a : Int) + i = ((a + i : Nat) : Int) by omega, show (a : Int) + j = ((a + j : Nat) : Int) by omega] at e
  have := nodup_rd SA.perm.nd (by omega) (by omega) (by omega) (by omega) e
  omega
theorem pls_eq {t : List Int} {al : Nat} (he : Bs.Ends t) (rng : ∀ x ∈ t, 0 ≤ x ∧ x < al) (p : List Int) : plsOf t al p = refPls t p := by
  unfold plsOf refPls
  split
  · rfl
  have SA := saOf_spec t
  have ls := saOf_len t
  have srt : ((places t.length).filter fun q => pfB t q p).Pairwise (· ≤ ·) := (sorted_places _).sublist (List.filter_sublist)
  refine sortL_of ?_ srt
  rcases ran_spec he rng p with ⟨a, z, R, haz, er⟩ | ⟨er, no⟩
  · rw [er]
    simp only
    have lz := R.lz
    rw [show ((z : Int) - (a : Int)).toNat = z - a by omega]
    refine (List.perm_ext_iff_of_nodup (suf_nodup (by omega)) ((nodup_places _).sublist List.filter_sublist)).2 fun q => ?_
    rw [suf_mem, List.mem_filter, mem_places, pfB_iff]
    constructor
    · rintro ⟨j, hj, rfl⟩
      have e : (a : Int) + j = ((a + j : Nat) : Int) := by omega
      rw [e]
      have := SA.perm.rng _ (rd_mem (l := saOf t) (i := ((a + j : Nat) : Int)) (by omega) (by omega))
      exact ⟨this, (R.iff (a + j) (by omega)).1 ⟨by omega, by omega⟩⟩
    · rintro ⟨hq, hp⟩
      obtain ⟨i, i0, i1, ei⟩ := mem_rd (SA.perm.mem_iff.2 hq)
      obtain ⟨i, rfl⟩ := Int.eq_ofNat_of_zero_le i0
      have := (R.iff i (by omega)).2 (by rw [ei]; exact hp)
      exact ⟨i - a, by omega, by rw [show (a : Int) + ((i - a : Nat) : Int) = (i : Nat) by omega]; exact ei⟩
  · rw [er]
    have : ((places t.length).filter fun q => pfB t q p) = [] := by
      rw [List.filter_eq_nil_iff]
      intro q hq hh
      rw [pfB_iff] at hh
      obtain ⟨i, i0, i1, ei⟩ := mem_rd (SA.perm.mem_iff.2 (mem_places.1 hq))
      obtain ⟨i, rfl⟩ := Int.eq_ofNat_of_zero_le i0
      exact no i (by omega) (by rw [ei]; exact hh)
    rw [this]; simp [suf]
theorem wrapu' (x : Int) : IntKind.wrap .u64 x = x % 18446744073709551616 := by
  unfold IntKind.wrap
  have e2 : (2 : Int) ^ IntKind.u64.bits = 18446744073709551616 := by decide
  simp [e2, IntKind.signed]
theorem wfb8 {x : Int} (h : IntKind.min .u8 ≤ x ∧ x ≤ IntKind.max .u8) : 0 ≤ x ∧ x ≤ 255 := by
  have e1 : IntKind.min .u8 = 0 := by decide
  have e2 : IntKind.max .u8 = 255 := by decide
  rw [e1, e2] at h; exact h
theorem ended_run {σ : Store} {h : Hdl} {few : List Int} (hT : Store.Nums .u8 σ h few) (hn : few.length < 2 ^ 47) (hw : ∀ n ∈ few, IntKind.min .u8 ≤ n ∧ n ≤ IntKind.max .u8) (hp : σ.prot ≤ σ.objs.length) :
    ∃ ht hs σ' t, Runs Try.prog 17 [.slice h] σ (.tuple [.slice ht, .slice hs]) σ' ∧ Kp σ.objs.length σ σ' ∧ σ'.Ints ht t ∧ σ'.Has ht ∧ σ'.Ints hs (saOf t) ∧ σ'.Has hs ∧ Bs.Ends t ∧ (∀ x ∈ t, 0 ≤ x ∧ x < 21) ∧ t.length ≤ 121 := by
  have ll := nums_len hT
  obtain ⟨ra, ea, h4, σ1, rfl, K1, g1⟩ := EvI.up (f := fun k s => stepF Try.prog (gm Try.prog k) drawn k Try.f17 [1, 1, 0, 1, 0] [9, 8, 7, 4] s) few.length
    (fun i s => ∃ h7 s1, s = ([.int .i64 i, .int .i64 few.length, .slice h, .slice h7], s1) ∧ Kp σ.objs.length σ s1 ∧ GrowI s1 σ.objs.length h7 (((few.take 120).take i).map fun x => x % 6))
    (fun r => ∃ h7 s1, r = (AX.exit 0, [(4, .slice h7)], s1) ∧ Kp σ.objs.length σ s1 ∧ GrowI s1 σ.objs.length h7 ((few.take 120).map fun x => x % 6))
    (by
      rintro i s hi ⟨h7, s1, rfl, kk, g⟩
      have i0 : (0 : Int) ≤ i := by omega
      have i1 : (i : Int) < few.length := by omega
      have w := wsucc hi (by omega)
      have rx := nums_rd (Store.Sl.kp hT kk) i0 i1
      obtain ⟨x0, x1⟩ := wfb8 (hw _ (rd_mem i0 i1))
      by_cases c : i < 120
      · have c' : (i : Int) < 120 := by omega
        have w1 : IntKind.wrap .i64 (Int.tmod (rd few i) 6) = rd few i % 6 := by
          rw [Int.tmod_eq_emod_of_nonneg x0, wrap64 (by omega) (by omega)]
        obtain ⟨h8, s2, e2, k2, g2⟩ := g.app (by rw [kk.prot]; exact hp) kk.len (rd few i % 6) (by simp; omega)
        refine ⟨_, Ev.of fun k => by simp only [f17_L11010]; simp only [Option.bind_some, decide_eq_true_eq, decide_eq_false_iff_not, Bool.not_eq_true', Bool.not_true, Bool.not_false, Bool.false_eq_true, Bool.true_eq_false, Bool.not_eq_eq_eq_not, beq_self_eq_true, beqFT, beqTF, decide_true, decide_false, not_false_eq_true, not_true_eq_false, ne_eq, true_and, and_true, false_and, and_false, and_self, if_true, if_false, ite_true, ite_false, Bool.and_true, Bool.and_false, Bool.true_and, Bool.false_and, Bool.or_true, Bool.true_or, Bool.or_false, Bool.false_or, or_true, true_or, or_false, false_or, or_self, AV.asInt, AV.asBool, AV.asSl, AV.asPtr, AV.asFn, AV.asStr, AV.asMap, AV.asIfc, AV.item, List.length_cons, List.length_nil, List.getElem?_cons_zero, List.getElem?_cons_succ, Nat.zero_add, ll, i0, i1, rx, c', w1, read1, e2, w], h8, s2, rfl, kk.trans k2, ?_⟩
        have er : rd (few.take 120) i = rd few i := by rw [rd_getElem (by simp; omega), rd_getElem hi]; simp
        rw [take_rd (by simp; omega), er, List.map_append]; exact g2
      · have c' : ¬ (i : Int) < 120 := by omega
        refine ⟨_, Ev.of fun k => by simp only [f17_L11010]; simp only [Option.bind_some, decide_eq_true_eq, decide_eq_false_iff_not, Bool.not_eq_true', Bool.not_true, Bool.not_false, Bool.false_eq_true, Bool.true_eq_false, Bool.not_eq_eq_eq_not, beq_self_eq_true, beqFT, beqTF, decide_true, decide_false, not_false_eq_true, not_true_eq_false, ne_eq, true_and, and_true, false_and, and_false, and_self, if_true, if_false, ite_true, ite_false, Bool.and_true, Bool.and_false, Bool.true_and, Bool.false_and, Bool.or_true, Bool.true_or, Bool.or_false, Bool.false_or, or_true, true_or, or_false, false_or, or_self, AV.asInt, AV.asBool, AV.asSl, AV.asPtr, AV.asFn, AV.asStr, AV.asMap, AV.asIfc, AV.item, List.length_cons, List.length_nil, List.getElem?_cons_zero, List.getElem?_cons_succ, Nat.zero_add, ll, i0, i1, rx, c', w], h7, s1, rfl, kk, ?_⟩
        rw [List.take_take] at g ⊢
        rw [Nat.min_eq_right (by omega)] at g ⊢; exact g)
    (by
      rintro s ⟨h7, s1, rfl, kk, g⟩
      rw [List.take_of_length_le (by simp; omega)] at g
      exact ⟨(AX.exit 0, [(4, .slice h7)], s1), Ev.of fun k => by simp only [f17_L11010]; simp only [Option.bind_some, decide_eq_true_eq, decide_eq_false_iff_not, Bool.not_eq_true', Bool.not_true, Bool.not_false, Bool.false_eq_true, Bool.true_eq_false, Bool.not_eq_eq_eq_not, beq_self_eq_true, beqFT, beqTF, decide_true, decide_false, not_false_eq_true, not_true_eq_false, ne_eq, true_and, and_true, false_and, and_false, and_self, if_true, if_false, ite_true, ite_false, Bool.and_true, Bool.and_false, Bool.true_and, Bool.false_and, Bool.or_true, Bool.true_or, Bool.or_false, Bool.false_or, or_true, true_or, or_false, false_or, or_self, AV.asInt, AV.asBool, AV.asSl, AV.asPtr, AV.asFn, AV.asStr, AV.asMap, AV.asIfc, AV.item, List.length_cons, List.length_nil, List.getElem?_cons_zero, List.getElem?_cons_succ, Nat.zero_add, Int.lt_irrefl], h7, s1, rfl, kk, g⟩)
    (s := ([.int .i64 0, .int .i64 few.length, .slice h, .slice Hdl.nil], σ)) ⟨Hdl.nil, σ, rfl, Kp.refl _ _, Grow.nil _ _ _⟩
  obtain ⟨u, hu⟩ : ∃ u, u = (few.take 120).map fun x => x % 6 := ⟨_, rfl⟩
  rw [← hu] at g1
  have lu : u.length ≤ 120 := by rw [hu]; simp; omega
  have hwu : ∀ x ∈ u, 0 ≤ x ∧ x < 6 := fun x hx => by
    rw [hu] at hx; obtain ⟨y, hy, rfl⟩ := List.mem_map.1 hx; omega
  have l4 := g1.ints.ilen
  obtain ⟨v, hv⟩ : ∃ v : Int, v = 3 + (u.length : Int) % 4 * 4 := ⟨_, rfl⟩
  have wv : IntKind.wrap .i64 (3 + IntKind.wrap .i64 (Int.tmod (h4.len : Int) 4 * 4)) = v := by
    rw [l4, Int.tmod_eq_emod_of_nonneg (by omega), wrap64 (x := (u.length : Int) % 4 * 4) (by omega) (by omega), wrap64 (by omega) (by omega), hv]
  have hp1 : σ1.prot ≤ σ.objs.length := by rw [K1.prot]; exact hp
  obtain ⟨h5, σ2, e2, K2, g2⟩ := g1.app hp1 K1.len v (by omega)
  have l5 := g2.ints.ilen
  simp only [List.length_append, List.length_cons, List.length_nil] at l5
  obtain ⟨b, ⟨k3, r3⟩, hb⟩ := ends15_run g2.ints (by simp; omega)
  obtain ⟨na, ea⟩ := loopF_ev ea
  have K12 := K1.trans K2
  have last_of : ∀ w : Int, rd (u ++ [w]) ((u ++ [w]).length - 1) = w := fun w => by
    have : ((u ++ [w]).length : Int) - 1 = ((u.length : Nat) : Int) := by simp
    rw [this, rd_getElem (by simp)]; simp
  have ends_of : ∀ w : Int, w ∉ u → Bs.Ends (u ++ [w]) := fun w hw' => ⟨by simp, fun i i0 i1 => by
    rw [last_of]
    simp only [List.length_append, List.length_cons, List.length_nil] at i1
    obtain ⟨i, rfl⟩ := Int.eq_ofNat_of_zero_le i0
    have hi : i < u.length := by omega
    have : rd (u ++ [w]) (i : Int) = rd u (i : Int) := by rw [rd_getElem (by simp; omega), rd_getElem hi]; simp [List.getElem_append_left hi]
    rw [this]
    intro e; exact hw' (e ▸ rd_mem (by omega) (by omega))⟩
  cases b with
  | true =>
    have hE := hb.1 rfl
    have hp2 : σ2.prot ≤ σ2.objs.length := by rw [K12.prot]; have := K12.len; omega
    obtain ⟨h6, σ3, ⟨k4, r4⟩, K3, G3⟩ := ref9_array g2.ints (by simp; omega) hp2
    refine ⟨h5, h6, σ3, u ++ [v], Runs.intro (fn := Try.f17) (by kernel_rfl) (by kernel_rfl) ⟨na + k3 + k4, fun m hm => ?_⟩, K12.then K3 K12.len, (g2.kp K3).ints, (g2.kp K3).has, G3.ints, G3.has, hE, fun x hx => ?_, by simp; omega⟩
    · have ea := ea m (by omega)
      have r3 := r3 m (by omega)
      have r4 := r4 m (by omega)
      simp only at ea r3 r4
      simp only [f17_eq]
      simp only [Option.bind_some, decide_eq_true_eq, decide_eq_false_iff_not, Bool.not_eq_true', Bool.not_true, Bool.not_false, Bool.false_eq_true, Bool.true_eq_false, Bool.not_eq_eq_eq_not, beq_self_eq_true, beqFT, beqTF, decide_true, decide_false, not_false_eq_true, not_true_eq_false, ne_eq, true_and, and_true, false_and, and_false, and_self, if_true, if_false, ite_true, ite_false, Bool.and_true, Bool.and_false, Bool.true_and, Bool.false_and, Bool.or_true, Bool.true_or, Bool.or_false, Bool.false_or, or_true, true_or, or_false, false_or, or_self, AV.asInt, AV.asBool, AV.asSl, AV.asPtr, AV.asFn, AV.asStr, AV.asMap, AV.asIfc, AV.item, List.length_cons, List.length_nil, List.getElem?_cons_zero, List.getElem?_cons_succ, Nat.zero_add, ll, ea]
      rw [f17_X11010_1]
      simp only [Option.bind_some, decide_eq_true_eq, decide_eq_false_iff_not, Bool.not_eq_true', Bool.not_true, Bool.not_false, Bool.false_eq_true, Bool.true_eq_false, Bool.not_eq_eq_eq_not, beq_self_eq_true, beqFT, beqTF, decide_true, decide_false, not_false_eq_true, not_true_eq_false, ne_eq, true_and, and_true, false_and, and_false, and_self, if_true, if_false, ite_true, ite_false, Bool.and_true, Bool.and_false, Bool.true_and, Bool.false_and, Bool.or_true, Bool.true_or, Bool.or_false, Bool.false_or, or_true, true_or, or_false, false_or, or_self, AV.asInt, AV.asBool, AV.asSl, AV.asPtr, AV.asFn, AV.asStr, AV.asMap, AV.asIfc, AV.item, List.length_cons, List.length_nil, List.getElem?_cons_zero, List.getElem?_cons_succ, Nat.zero_add, wv, read1, e2, r3, r4]
    · rcases List.mem_append.1 hx with hx | hx
      · have := hwu x hx; omega
      · rw [List.mem_singleton] at hx; omega
  | false =>
    have hnE : ¬ Bs.Ends (u ++ [v]) := fun h => by have := hb.2 h; cases this
    obtain ⟨σ3, e3, K3, g3, l3⟩ := Grow.st g2 (by rw [K2.prot]; exact hp1) (i := (u.length : Int)) (by omega) (by simp; omega) (v := .int .i64 20) rfl
    have es : (intsL (u ++ [v])).set (u.length : Int).toNat (.int .i64 20) = intsL (u ++ [20]) := by
      rw [Int.toNat_natCast, intsL_set']
      congr 1
      rw [List.set_append_right _ _ (Nat.le_refl _)]; simp
    rw [es] at g3
    have G3 : GrowI σ3 σ.objs.length h5 (u ++ [20]) := g3
    have hE : Bs.Ends (u ++ [20]) := ends_of 20 fun hm => by have := hwu 20 hm; omega
    have K13 := K12.trans K3
    have hp3 : σ3.prot ≤ σ3.objs.length := by rw [K13.prot]; have := K13.len; omega
    obtain ⟨h6, σ4, ⟨k4, r4⟩, K4, G4⟩ := ref9_array G3.ints (by simp; omega) hp3
    have w1 : IntKind.wrap .i64 ((h5.len : Int) - 1) = (u.length : Int) := by rw [l5, wrap64 (by omega) (by omega)]; omega
    have j0 : (0 : Int) ≤ u.length := by omega
    have j1 : (u.length : Int) < h5.len := by omega
    refine ⟨h5, h6, σ4, u ++ [20], Runs.intro (fn := Try.f17) (by kernel_rfl) (by kernel_rfl) ⟨na + k3 + k4, fun m hm => ?_⟩, K13.then K4 K13.len, (G3.kp K4).ints, (G3.kp K4).has, G4.ints, G4.has, hE, fun x hx => ?_, by simp; omega⟩
    · have ea := ea m (by omega)
      have r3 := r3 m (by omega)
      have r4 := r4 m (by omega)
      simp only at ea r3 r4
      simp only [f17_eq]
      simp only [Option.bind_some, decide_eq_true_eq, decide_eq_false_iff_not, Bool.not_eq_true', Bool.not_true, Bool.not_false, Bool.false_eq_true, Bool.true_eq_false, Bool.not_eq_eq_eq_not, beq_self_eq_true, beqFT, beqTF, decide_true, decide_false, not_false_eq_true, not_true_eq_false, ne_eq, true_and, and_true, false_and, and_false, and_self, if_true, if_false, ite_true, ite_false, Bool.and_true, Bool.and_false, Bool.true_and, Bool.false_and, Bool.or_true, Bool.true_or, Bool.or_false, Bool.false_or, or_true, true_or, or_false, false_or, or_self, AV.asInt, AV.asBool, AV.asSl, AV.asPtr, AV.asFn, AV.asStr, AV.asMap, AV.asIfc, AV.item, List.length_cons, List.length_nil, List.getElem?_cons_zero, List.getElem?_cons_succ, Nat.zero_add, ll, ea]
      rw [f17_X11010_1]
      simp only [Option.bind_some, decide_eq_true_eq, decide_eq_false_iff_not, Bool.not_eq_true', Bool.not_true, Bool.not_false, Bool.false_eq_true, Bool.true_eq_false, Bool.not_eq_eq_eq_not, beq_self_eq_true, beqFT, beqTF, decide_true, decide_false, not_false_eq_true, not_true_eq_false, ne_eq, true_and, and_true, false_and, and_false, and_self, if_true, if_false, ite_true, ite_false, Bool.and_true, Bool.and_false, Bool.true_and, Bool.false_and, Bool.or_true, Bool.true_or, Bool.or_false, Bool.false_or, or_true, true_or, or_false, false_or, or_self, AV.asInt, AV.asBool, AV.asSl, AV.asPtr, AV.asFn, AV.asStr, AV.asMap, AV.asIfc, AV.item, List.length_cons, List.length_nil, List.getElem?_cons_zero, List.getElem?_cons_succ, Nat.zero_add, wv, read1, e2, r3, w1, j0, j1, e3, r4]
    · rcases List.mem_append.1 hx with hx | hx
      · have := hwu x hx; omega
      · rw [List.mem_singleton] at hx; omega
end Go.Ab


/- The laws FindMakes, FindNone, FindSteps. -/
namespace Go.Ab
open Go Go.Proofs Go.Ab.Wd Go.Ab.Bs Go.Ab.Sai
set_option linter.unusedVariables false
set_option linter.unusedSimpArgs false
/-! ### nil finders -/
section
variable {σ : Store}
end
theorem okF_of {t : List Int} {al s : Nat} (hE : Bs.Ends t) (hr : ∀ x ∈ t, 0 ≤ x ∧ x < 21) (hl : t.length ≤ 121) (h1 : 21 ≤ al) (h2 : al ≤ 1000) (h3 : 1 ≤ s) (h4 : s ≤ 1000) : okF t (saOf t) al s :=
  ⟨okT_iff.2 ⟨by omega, by omega, by omega, fun x hx => by have := hr x hx; omega⟩, hE.1, by omega, rfl, hE, by omega, by omega⟩
theorem Rg.uniq {t p : List Int} {r r' : Int × Int} (h : Rg t p r) (h' : Rg t p r') : r = r' := by
  rcases h with ⟨a, z, R, haz, rfl⟩ | ⟨rfl, no⟩
  · rcases h' with ⟨a', z', R', haz', rfl⟩ | ⟨rfl, no⟩
    · have l1 := R.lz
      have l2 := R'.lz
      have i1 := (R'.iff a (by omega)).2 ((R.iff a (by omega)).1 ⟨by omega, by omega⟩)
      have i2 := (R.iff a' (by omega)).2 ((R'.iff a' (by omega)).1 ⟨by omega, by omega⟩)
      have i3 := (R'.iff (z - 1) (by omega)).2 ((R.iff (z - 1) (by omega)).1 ⟨by omega, by omega⟩)
      have i4 := (R.iff (z' - 1) (by omega)).2 ((R'.iff (z' - 1) (by omega)).1 ⟨by omega, by omega⟩)
      rw [show a = a' by omega, show z = z' by omega]
    · have l1 := R.lz
      exact absurd ((R.iff a (by omega)).1 ⟨by omega, by omega⟩) (no a (by omega))
  · rcases h' with ⟨a, z, R, haz, rfl⟩ | ⟨rfl, _⟩
    · have l1 := R.lz
      exact absurd ((R.iff a (by omega)).1 ⟨by omega, by omega⟩) (no a (by omega))
    · rfl
end Go.Ab


/- The laws FindRanges, FindPlaces. -/
namespace Go.Ab
open Go Go.Proofs Go.Ab.Wd Go.Ab.Bs Go.Ab.Sai
set_option linter.unusedVariables false
set_option linter.unusedSimpArgs false
end Go.Ab


/- The laws FindNarrows, FindParts. -/
namespace Go.Ab
open Go Go.Proofs Go.Ab.Wd Go.Ab.Bs Go.Ab.Sai
set_option linter.unusedVariables false
set_option linter.unusedSimpArgs false
end Go.Ab


/- The law FindParts. -/
namespace Go.Ab
open Go Go.Proofs Go.Ab.Wd Go.Ab.Bs Go.Ab.Sai
set_option linter.unusedVariables false
set_option linter.unusedSimpArgs false
theorem strict_places (n : Nat) : (places n).Pairwise (· < ·) := by
  unfold places
  rw [List.pairwise_map]
  refine (List.pairwise_lt_range (n := n)).imp fun h => ?_
  simp only [Int.ofNat_eq_natCast]; omega
theorem rd_pair {l : List Int} (h : l.Pairwise (· < ·)) {i : Nat} (h0 : 0 < i) (hi : i < l.length) : rd l ((i : Int) - 1) < rd l i := by
  rw [show (i : Int) - 1 = ((i - 1 : Nat) : Int) by omega, rd_getElem (by omega), rd_getElem hi]
  exact (List.pairwise_iff_getElem.1 h) (i - 1) i (by omega) hi (by omega)
theorem umod_val (x : Int) {n : Nat} (h0 : 0 < n) (h1 : n ≤ 1000) : ∃ v : Nat, IntKind.wrap .i64 (Int.tmod (IntKind.wrap .u64 x) (n : Int)) = v ∧ v < n := by
  rw [wrapu', Int.tmod_eq_emod_of_nonneg (by omega)]
  have h2 := Int.emod_nonneg (x % 18446744073709551616) (show (n : Int) ≠ 0 by omega)
  have h3 := Int.emod_lt_of_pos (x % 18446744073709551616) (show (0 : Int) < n by omega)
  generalize x % 18446744073709551616 % (n : Int) = v at *
  exact ⟨v.toNat, by rw [wrap64 (by omega) (by omega)]; omega, by omega⟩
theorem law_FindParts {σ : Store} {h : Hdl} {few : List Int} {a b : Int} (hT : Store.Nums .u8 σ h few) (hH : σ.Has h) (hn : few.length < 2 ^ 47) (hw : ∀ n ∈ few, IntKind.min .u8 ≤ n ∧ n ≤ IntKind.max .u8)
    (ha : IntKind.min .i64 ≤ a ∧ a ≤ IntKind.max .i64) (hb : IntKind.min .i64 ≤ b ∧ b ≤ IntKind.max .i64) (hp : σ.prot ≤ σ.objs.length) :
    ∃ σ', Runs Try.prog 8 [.slice h, .agg [.int .i64 a, .int .i64 b]] σ (.bool true) σ' := by
  obtain ⟨σ0, h0⟩ : ∃ s, s = σ.push [.int .i64 a, .int .i64 b] 2 := ⟨_, rfl⟩
  have K0 : Kp σ.objs.length σ σ0 := by rw [h0]; exact Kp.push _ _ (Nat.le_refl _)
  have R0 : σ0.Row σ.objs.length 2 [.int .i64 a, .int .i64 b] := by rw [h0]; exact Store.Row.new
  have l0 : σ0.objs.length = σ.objs.length + 1 := by rw [h0]; simp
  obtain ⟨k0, r0⟩ := first15_told σ0
  have hp0 : σ0.prot ≤ σ0.objs.length := by rw [K0.prot, l0]; omega
  obtain ⟨ht, hs, σ1, t, ⟨k1, r1⟩, K1, T1, H1, S1, Hs1, hE, hr, hl⟩ := ended_run (Store.Sl.kp hT K0) hn hw hp0
  have hp1 : σ1.prot ≤ σ1.objs.length := by rw [K1.prot]; have := K1.len; omega
  obtain ⟨p, σ2, ⟨k2, r2⟩, K2, F⟩ := fnew_run (al := 21) (s := 3) T1 H1 S1 hp1 (okF_of hE hr hl (by omega) (by omega) (by omega) (by omega))
  have hp2 : σ2.prot ≤ σ2.objs.length := by rw [K2.prot]; have := K2.len; omega
  have R2 := (R0.kp K1 (by omega)).kp K2 (by have := K1.len; omega)
  have e0 := row_int R2 (o := 0) rfl
  have e1 := row_int R2 (o := 1) rfl
  have T2 : σ2.Ints ht t := Store.Sl.kp T1 K2
  have H2 := H1.kp K2
  have lT := T2.ilen
  have hpos := hE.1
  obtain ⟨A, eA, hA⟩ := umod_val a (n := t.length) hpos (by omega)
  obtain ⟨D, eD, hD⟩ := umod_val b (n := t.length - A) (by omega) (by omega)
  obtain ⟨Z, hZ⟩ : ∃ Z, Z = A + 1 + D := ⟨_, rfl⟩
  have u1 : IntKind.wrap .u64 (t.length : Int) = t.length := wrapu64 (by omega) (by omega)
  have u2 : IntKind.wrap .i64 ((t.length : Int) - A) = ((t.length - A : Nat) : Int) := by rw [wrap64 (by omega) (by omega)]; omega
  have u3 : IntKind.wrap .u64 ((t.length - A : Nat) : Int) = ((t.length - A : Nat) : Int) := wrapu64 (by omega) (by omega)
  have u4 : IntKind.wrap .i64 ((A : Int) + 1) = ((A + 1 : Nat) : Int) := by rw [wrap64 (by omega) (by omega)]; omega
  have u5 : IntKind.wrap .i64 (((A + 1 : Nat) : Int) + D) = (Z : Int) := by rw [wrap64 (by omega) (by omega)]; omega
  have z1 : ¬ (t.length : Int) = 0 := by omega
  have z2 : ¬ ((t.length - A : Nat) : Int) = 0 := by omega
  obtain ⟨part, hpart⟩ : ∃ q, q = (t.take Z).drop A := ⟨_, rfl⟩
  have lpart : part.length = Z - A := by rw [hpart]; simp; omega
  have subAt : ∀ {s : Store}, s.Ints ht t → s.Has ht → ∃ h', s.sub ht 1 (some (A : Int)) (some (Z : Int)) none = some h' ∧ s.Ints h' part ∧ s.Has h' := fun {s} T H => by
    obtain ⟨h', q1, q2, q3, _⟩ := sub_spec T H (lo := some (A : Int)) (hi := some (Z : Int)) (by simp) (by simp; omega) (by simp; omega)
    refine ⟨h', q1, ?_, q3⟩
    simp only [Option.getD_some, Int.toNat_natCast] at q2
    rw [intsL_take, intsL_drop, ← hpart] at q2
    exact q2
  obtain ⟨ha1, s1, I1, G1⟩ := subAt T2 H2
  obtain ⟨h6, σ3, ⟨k3, r3⟩, K3, G3⟩ := places_run F hp2 I1 G1 (by omega)
  have hpe := pls_eq F.ends F.rng part
  have lsuf : (plsOf t 21 part).length = ((ran t 21 part).2 - (ran t 21 part).1).toNat := by
    unfold plsOf
    rw [if_neg (fun e => by rw [e] at lpart; simp at lpart; omega), sortL_length, suf_length]
  obtain ⟨l, hlp⟩ : ∃ l, l = refPls t part := ⟨_, rfl⟩
  rw [hpe, ← hlp] at G3 lsuf
  have hp3 : σ3.prot ≤ σ3.objs.length := by rw [K3.prot]; have := K3.len; omega
  have T3 : σ3.Ints ht t := Store.Sl.kp T2 K3
  obtain ⟨ha2, s2, I2, G2⟩ := subAt T3 (H2.kp K3)
  obtain ⟨σ4, ⟨k4, r4⟩, K4⟩ := frange_run (F.kp K3) hp3 I2 G2 (by omega)
  have T4 : σ4.Ints ht t := Store.Sl.kp T3 K4
  obtain ⟨ha3, s3, I3, _⟩ := subAt T4 ((H2.kp K3).kp K4)
  have L4 : σ4.Ints h6 l := Store.Sl.kp G3.ints K4
  have l6 := L4.ilen
  have lx : l = (places t.length).filter fun q => pfB t q part := by
    rw [hlp]; unfold refPls; rw [if_neg (fun e => by rw [e] at lpart; simp at lpart; omega)]
  have srt : l.Pairwise (· < ·) := by rw [lx]; exact (strict_places _).sublist List.filter_sublist
  have memA : (A : Int) ∈ l := by
    rw [lx, List.mem_filter, mem_places]
    refine ⟨by omega, pfB_iff.2 ⟨by omega, by omega, fun k hk => ?_⟩⟩
    rw [hpart, show (A : Int) + k = ((A + k : Nat) : Int) by omega, rd_getElem (by omega), rd_getElem (by simp; omega)]
    simp
  have ll : l.length ≤ t.length := by rw [lx]; exact Nat.le_trans (List.length_filter_le _ _) (by rw [places_length]; exact Nat.le_refl _)
  obtain ⟨x, y, hxy⟩ : ∃ x y, ran t 21 part = (x, y) := ⟨_, _, rfl⟩
  rw [hxy] at r4 lsuf
  simp only at lsuf r4
  have hxyr : 0 ≤ x ∧ x ≤ y ∧ y ≤ t.length := by
    rcases ran_spec F.ends F.rng part with ⟨a', z', R, haz, er⟩ | ⟨er, _⟩
    · rw [hxy] at er; injection er with h1 h2; have := R.lz; omega
    · rw [hxy] at er; injection er with h1 h2; omega
  obtain ⟨r, e, rfl⟩ := EvI.up (f := fun k st => stepF Try.prog (gm Try.prog k) drawn k Try.f8 [1, 1, 1, 1, 1, 1, 1, 1, 1, 0, 1, 0] [68, 67, 66, 14, 13, 12, 11, 10, 9, 5] st) l.length
    (fun i st => st = ([.int .i64 i, .int .i64 l.length, .slice h6, .bool (decide ((A : Int) ∈ l.take i)), .int .i64 y, .int .i64 x, .slice h6, .int .i64 Z, .int .i64 A, .slice ht], σ4))
    (fun r => r = (AX.exit 0, [(14, .bool true), (13, .int .i64 y), (12, .int .i64 x), (11, .slice h6)], σ4))
    (by
      rintro i st hi rfl
      have i0 : (0 : Int) ≤ i := by omega
      have i1 : (i : Int) < l.length := by omega
      have i2 : (i : Int) < h6.len := by omega
      have w := wsucc hi (by omega)
      have rx := L4.rd i0 i1
      have hm : rd l i ∈ l := rd_mem i0 i1
      have hm2 := hm
      rw [lx, List.mem_filter, mem_places] at hm2
      rw [← lx] at hm2
      obtain ⟨n1, q1⟩ := stands_run T4 I3 (by omega) (by omega) hm2.1.1 (Int.le_of_lt hm2.1.2)
      rw [hm2.2] at q1
      have em : decide ((A : Int) ∈ l.take (i + 1)) = (decide ((A : Int) ∈ l.take i) || decide (rd l i = (A : Int))) := by
        rw [take_rd hi]
        by_cases f : (A : Int) ∈ l.take i
        · simp [f]
        · simp [f, eq_comm]
      have w1 : IntKind.wrap .i64 ((i : Int) - 1) = i - 1 := wrap64 (by omega) (by omega)
      refine ⟨([.int .i64 (i + 1 : Nat), .int .i64 l.length, .slice h6, .bool (decide ((A : Int) ∈ l.take i) || decide (rd l i = (A : Int))), .int .i64 y, .int .i64 x, .slice h6, .int .i64 Z, .int .i64 A, .slice ht], σ4), ⟨n1, fun k hk => ?_⟩, by rw [em]⟩
      have q1 := q1 k hk
      simp only at q1
      simp only [f8_L111111111010]
      by_cases f : (A : Int) ∈ l.take i
      · by_cases g : 0 < (i : Int)
        · have j0 : (0 : Int) ≤ (i : Int) - 1 := by omega
          have j1 : (i : Int) - 1 < h6.len := by omega
          have ry := L4.rd j0 (by omega)
          have lt := rd_pair srt (by omega) hi
          have lt' : ¬ rd l i ≤ rd l ((i : Int) - 1) := by omega
          simp only [Option.bind_some, decide_eq_true_eq, decide_eq_false_iff_not, Bool.not_eq_true', Bool.not_true, Bool.not_false, Bool.false_eq_true, Bool.true_eq_false, Bool.not_eq_eq_eq_not, beq_self_eq_true, beqFT, beqTF, decide_true, decide_false, not_false_eq_true, not_true_eq_false, ne_eq, true_and, and_true, false_and, and_false, and_self, if_true, if_false, ite_true, ite_false, Bool.and_true, Bool.and_false, Bool.true_and, Bool.false_and, Bool.or_true, Bool.true_or, Bool.or_false, Bool.false_or, or_true, true_or, or_false, false_or, or_self, AV.asInt, AV.asBool, AV.asSl, AV.asPtr, AV.asFn, AV.asStr, AV.asMap, AV.asIfc, AV.item, List.length_cons, List.length_nil, List.getElem?_cons_zero, List.getElem?_cons_succ, Nat.zero_add, i0, i1, i2, rx, f, g, w1, j0, j1, ry, lt', s3, q1, w]
        · simp only [Option.bind_some, decide_eq_true_eq, decide_eq_false_iff_not, Bool.not_eq_true', Bool.not_true, Bool.not_false, Bool.false_eq_true, Bool.true_eq_false, Bool.not_eq_eq_eq_not, beq_self_eq_true, beqFT, beqTF, decide_true, decide_false, not_false_eq_true, not_true_eq_false, ne_eq, true_and, and_true, false_and, and_false, and_self, if_true, if_false, ite_true, ite_false, Bool.and_true, Bool.and_false, Bool.true_and, Bool.false_and, Bool.or_true, Bool.true_or, Bool.or_false, Bool.false_or, or_true, true_or, or_false, false_or, or_self, AV.asInt, AV.asBool, AV.asSl, AV.asPtr, AV.asFn, AV.asStr, AV.asMap, AV.asIfc, AV.item, List.length_cons, List.length_nil, List.getElem?_cons_zero, List.getElem?_cons_succ, Nat.zero_add, i0, i1, i2, rx, f, g, s3, q1, w]
      · by_cases g : 0 < (i : Int)
        · have j0 : (0 : Int) ≤ (i : Int) - 1 := by omega
          have j1 : (i : Int) - 1 < h6.len := by omega
          have ry := L4.rd j0 (by omega)
          have lt := rd_pair srt (by omega) hi
          have lt' : ¬ rd l i ≤ rd l ((i : Int) - 1) := by omega
          simp only [Option.bind_some, decide_eq_true_eq, decide_eq_false_iff_not, Bool.not_eq_true', Bool.not_true, Bool.not_false, Bool.false_eq_true, Bool.true_eq_false, Bool.not_eq_eq_eq_not, beq_self_eq_true, beqFT, beqTF, decide_true, decide_false, not_false_eq_true, not_true_eq_false, ne_eq, true_and, and_true, false_and, and_false, and_self, if_true, if_false, ite_true, ite_false, Bool.and_true, Bool.and_false, Bool.true_and, Bool.false_and, Bool.or_true, Bool.true_or, Bool.or_false, Bool.false_or, or_true, true_or, or_false, false_or, or_self, AV.asInt, AV.asBool, AV.asSl, AV.asPtr, AV.asFn, AV.asStr, AV.asMap, AV.asIfc, AV.item, List.length_cons, List.length_nil, List.getElem?_cons_zero, List.getElem?_cons_succ, Nat.zero_add, i0, i1, i2, rx, f, g, w1, j0, j1, ry, lt', s3, q1, w]
        · simp only [Option.bind_some, decide_eq_true_eq, decide_eq_false_iff_not, Bool.not_eq_true', Bool.not_true, Bool.not_false, Bool.false_eq_true, Bool.true_eq_false, Bool.not_eq_eq_eq_not, beq_self_eq_true, beqFT, beqTF, decide_true, decide_false, not_false_eq_true, not_true_eq_false, ne_eq, true_and, and_true, false_and, and_false, and_self, if_true, if_false, ite_true, ite_false, Bool.and_true, Bool.and_false, Bool.true_and, Bool.false_and, Bool.or_true, Bool.true_or, Bool.or_false, Bool.false_or, or_true, true_or, or_false, false_or, or_self, AV.asInt, AV.asBool, AV.asSl, AV.asPtr, AV.asFn, AV.asStr, AV.asMap, AV.asIfc, AV.item, List.length_cons, List.length_nil, List.getElem?_cons_zero, List.getElem?_cons_succ, Nat.zero_add, i0, i1, i2, rx, f, g, s3, q1, w])
    (by
      rintro st rfl
      rw [List.take_of_length_le (Nat.le_refl _), decide_eq_true memA]
      exact ⟨_, Ev.of fun k => by simp only [f8_L111111111010]; simp only [Option.bind_some, decide_eq_true_eq, decide_eq_false_iff_not, Bool.not_eq_true', Bool.not_true, Bool.not_false, Bool.false_eq_true, Bool.true_eq_false, Bool.not_eq_eq_eq_not, beq_self_eq_true, beqFT, beqTF, decide_true, decide_false, not_false_eq_true, not_true_eq_false, ne_eq, true_and, and_true, false_and, and_false, and_self, if_true, if_false, ite_true, ite_false, Bool.and_true, Bool.and_false, Bool.true_and, Bool.false_and, Bool.or_true, Bool.true_or, Bool.or_false, Bool.false_or, or_true, true_or, or_false, false_or, or_self, AV.asInt, AV.asBool, AV.asSl, AV.asPtr, AV.asFn, AV.asStr, AV.asMap, AV.asIfc, AV.item, List.length_cons, List.length_nil, List.getElem?_cons_zero, List.getElem?_cons_succ, Nat.zero_add, Int.lt_irrefl], rfl⟩)
    (s := ([.int .i64 0, .int .i64 l.length, .slice h6, .bool false, .int .i64 y, .int .i64 x, .slice h6, .int .i64 Z, .int .i64 A, .slice ht], σ4)) (by simp)
  obtain ⟨k5, e⟩ := loopF_ev e
  refine ⟨σ4, Runs.intro (fn := Try.f8) (by kernel_rfl) (by kernel_rfl) ⟨k0 + k1 + k2 + k3 + k4 + k5, fun m hm => ?_⟩⟩
  have r0 := r0 m (by omega)
  have r1 := r1 m (by omega)
  have r2 := r2 m (by omega)
  have r3 := r3 m (by omega)
  have r4 := r4 m (by omega)
  have e := e m (by omega)
  simp only [show ((21 : Nat) : Int) = 21 from rfl, show ((3 : Nat) : Int) = 3 from rfl] at r0 r1 r2 r3 r4 e
  have lT' : (ht.len : Int) = t.length := by omega
  have l6' : (h6.len : Int) = l.length := by omega
  have wf : IntKind.wrap .i64 (y - x) = y - x := wrap64 (by omega) (by omega)
  have fin : (l.length : Int) = y - x := by omega
  simp only [f8_eq]
  simp only [Option.bind_some, decide_eq_true_eq, decide_eq_false_iff_not, Bool.not_eq_true', Bool.not_true, Bool.not_false, Bool.false_eq_true, Bool.true_eq_false, Bool.not_eq_eq_eq_not, beq_self_eq_true, beqFT, beqTF, decide_true, decide_false, not_false_eq_true, not_true_eq_false, ne_eq, true_and, and_true, false_and, and_false, and_self, if_true, if_false, ite_true, ite_false, Bool.and_true, Bool.and_false, Bool.true_and, Bool.false_and, Bool.or_true, Bool.true_or, Bool.or_false, Bool.false_or, or_true, true_or, or_false, false_or, or_self, AV.asInt, AV.asBool, AV.asSl, AV.asPtr, AV.asFn, AV.asStr, AV.asMap, AV.asIfc, AV.item, List.length_cons, List.length_nil, List.getElem?_cons_zero, List.getElem?_cons_succ, Nat.zero_add, ← h0, r0, r1, r2, e0, e1, lT', u1, z1, eA, u2, u3, z2, eD, u4, u5, s1, r3, s2, r4, l6', e]
  simp only [f8_X111111111010_2]
  simp only [Option.bind_some, decide_eq_true_eq, decide_eq_false_iff_not, Bool.not_eq_true', Bool.not_true, Bool.not_false, Bool.false_eq_true, Bool.true_eq_false, Bool.not_eq_eq_eq_not, beq_self_eq_true, beqFT, beqTF, decide_true, decide_false, not_false_eq_true, not_true_eq_false, ne_eq, true_and, and_true, false_and, and_false, and_self, if_true, if_false, ite_true, ite_false, Bool.and_true, Bool.and_false, Bool.true_and, Bool.false_and, Bool.or_true, Bool.true_or, Bool.or_false, Bool.false_or, or_true, true_or, or_false, false_or, or_self, AV.asInt, AV.asBool, AV.asSl, AV.asPtr, AV.asFn, AV.asStr, AV.asMap, AV.asIfc, AV.item, List.length_cons, List.length_nil, List.getElem?_cons_zero, List.getElem?_cons_succ, Nat.zero_add, l6', wf, fin]
end Go.Ab


/- What is told of sorting holds: the library's contract. -/
namespace Go.Ab
open Go Go.Proofs Go.Sort
set_option linter.unusedVariables false
theorem sort_sound {P : Program} {s : Nat} {fn : Func} (hf : P.funcs[s]? = some fn) (hn : (fn.name == "runtime.NumGoroutine") = false) (hb : fn.body.isNone = false)
    (h1 : ∀ (blk off cap : Nat) (zs : List Int) (w : World), Holds (Value.int .i64) w blk off zs.toArray → blk < w.heap.size → zs.length < 4611686018427387904 →
      Calls P s #[.slice (some ⟨blk, off, none⟩) zs.length cap] w fun e w' => e = .returned (.tuple #[]) ∧ ∃ n os, w' = grow (putRow (Value.int .i64) (Sort.ahead w n) blk off (zs.mergeSort fun x y => decide (x ≤ y)).toArray) os)
    (h0 : ∀ (p : Option Addr) (cap : Nat) (w : World), Calls P s #[.slice p 0 cap] w fun e w' => e = .returned (.tuple #[]) ∧ w' = w) : SpS P (sortSp s) ∧ SpK (sortSp s) := by
  constructor
  · intro g f e args σ v σ' h
    obtain ⟨rfl, rfl⟩ := sortSp_inv e
    refine ⟨fun cargs w => callFunc_enter hf hn hb cargs w, fun μ w cargs hR hv => ?_⟩
    obtain ⟨hd, rfl, rfl, hc⟩ := sortT_inv h
    obtain ⟨c, hc1⟩ : ∃ c, cargs = #[c] := by
      have := hv.1
      simp at this
      obtain ⟨l⟩ := cargs
      match l, this with
      | [c], _ => exact ⟨c, rfl⟩
    subst hc1
    have hv1 : VR μ (.slice hd) c := hv.2 0 _ _ rfl rfl
    rcases hc with ⟨e0, rfl⟩ | ⟨b, o, cs, zs, ha, ho, hz, hp, hl, h62, hpos, rfl⟩
    · have : ∃ p cap, c = .slice p 0 cap := by
        cases hv1 with
        | slN h => exact ⟨_, _, rfl⟩
        | sl h hc hl hN => simp at e0; subst e0; exact ⟨_, _, rfl⟩
        | sl0 h => exact ⟨_, _, rfl⟩
      obtain ⟨p, cap, rfl⟩ := this
      refine (h0 p cap w).mono ?_
      rintro e w' ⟨rfl, rfl⟩
      exact ⟨μ, _, rfl, .tuple (by simp) (by simp), Ste.refl hR⟩
    · have : ∃ L cap, μ b = some L ∧ c = .slice (some ⟨L.blk, L.off + o, none⟩) hd.len cap := by
        cases hv1 with
        | slN h => cases ha
        | sl hm hc hl hN => simp at ha; obtain ⟨rfl, rfl⟩ := ha; exact ⟨_, _, hm, rfl⟩
        | sl0 h => simp at hpos
      obtain ⟨L, cap, hL, rfl⟩ := this
      have hzl : zs.length = hd.len := by
        have := congrArg List.length hz
        simp at this; omega
      obtain ⟨ce, ty, hblk, hsz⟩ := hR.rw b cs 1 L ho hL
      obtain ⟨_, hlN, hj⟩ := hR.cells b cs true 1 L ho hL
      have cellz : ∀ j, j < zs.length → w.cell? ⟨L.blk, L.off + o + j, none⟩ = some (.int .i64 (zs.getD j 0)) := fun j hj' => by
        have e1 : cs[o + j]? = some (.int .i64 (zs.getD j 0)) := by
          have := congrArg (fun l : List AV => l[j]?) hz
          simp only [List.getElem?_take, List.getElem?_drop, intsL, List.getElem?_map] at this
          rw [if_pos (by omega)] at this
          rw [this, List.getElem?_eq_getElem hj']; simp [hj']
        obtain ⟨x, hx, hvx⟩ := hj _ _ e1
        cases hvx
        rw [Nat.add_assoc]; exact hx
      have hH : Holds (Value.int .i64) w L.blk (L.off + o) zs.toArray := fun j hj' => by
        have hj' : j < zs.length := by simpa using hj'
        refine ⟨?_, by simp [World.frozen?, hblk]⟩
        rw [cellz j hj']; simp [hj']
      have hbl : L.blk < w.heap.size := hR.lt b L hL
      have := h1 L.blk (L.off + o) cap zs w hH hbl (by omega)
      rw [hzl] at this
      refine this.mono ?_
      rintro e w' ⟨rfl, n, os, rfl⟩
      rw [mergeSort_sortL]
      obtain ⟨d, hd'⟩ : ∃ d, d = sortL zs := ⟨_, rfl⟩
      rw [← hd']
      have hdl : d.length = hd.len := by rw [hd', sortL_length, hzl]
      obtain ⟨w1, hw1⟩ : ∃ w1, w1 = putRow (Value.int .i64) (Sort.ahead w n) L.blk (L.off + o) d.toArray := ⟨_, rfl⟩
      rw [← hw1]
      have s1 : w1.heap.size = w.heap.size := by rw [hw1]; simp [putRow, mapBlock, Sort.ahead]
      have far : ∀ c, c ≠ L.blk → w1.heap[c]? = w.heap[c]? := fun c hc => by
        rw [hw1]; simp [putRow, mapBlock, Sort.ahead, Array.getElem?_modify, Ne.symm hc]
      have near : w1.heap[L.blk]? = some (.cells (putCells (Value.int .i64) (L.off + o) d.toArray ce) ty (0, 0)) := by
        rw [hw1]; simp [putRow, mapBlock, Sort.ahead, Array.getElem?_modify, hblk, onCells]
      have hW : Ste μ σ w μ (σ.setO b (.cells (cs.take o ++ (intsL d ++ cs.drop (o + hd.len))) true 1)) w1 := by
        refine Ste.write hR ho hp hL s1 (by rw [hw1]; rfl) (by rw [hw1]; rfl) (by rw [hw1]; rfl) far ⟨_, _, near, by simp [putCells, hsz]⟩ ?_ ?_
        · simp only [List.length_append, List.length_take, intsL_length, List.length_drop]; omega
        · intro j v hjv
          have tk : (cs.take o).length = o := by simp; omega
          by_cases c1 : j < o
          · rw [List.getElem?_append_left (by omega), List.getElem?_take, if_pos c1] at hjv
            obtain ⟨x, hx, hvx⟩ := hj j v hjv
            refine ⟨x, ?_, hvx⟩
            simp only [World.cell?, hblk] at hx
            simp only [World.cell?, near]
            simp only [Option.isSome_none, Bool.false_eq_true, if_false] at hx ⊢
            rw [← hx]
            simp only [putCells, Array.getElem?_mapIdx]
            cases hce : ce[L.off + j]? with
            | none => rfl
            | some y => simp; omega
          · rw [List.getElem?_append_right (by omega), tk] at hjv
            by_cases c2 : j - o < hd.len
            · rw [List.getElem?_append_left (by simp; omega)] at hjv
              simp only [intsL, List.getElem?_map, Option.map_eq_some_iff] at hjv
              obtain ⟨z, hz1, rfl⟩ := hjv
              refine ⟨.int .i64 z, ?_, .int ..⟩
              simp only [World.cell?, near]
              simp only [Option.isSome_none, Bool.false_eq_true, if_false]
              simp only [putCells, Array.getElem?_mapIdx]
              have hlt : L.off + j < ce.size := by omega
              rw [Array.getElem?_eq_getElem hlt]
              simp only [Option.map_some, Option.some.injEq]
              rw [if_pos ⟨by omega, by simp; omega⟩]
              congr 1
              have e5 : L.off + j - (L.off + o) = j - o := by omega
              rw [e5]
              obtain ⟨hq, hq2⟩ := List.getElem?_eq_some_iff.1 hz1
              rw [getElem!_pos _ (j - o) (by simpa using hq)]
              simpa using hq2
            · rw [List.getElem?_append_right (by simp; omega), List.getElem?_drop] at hjv
              have e5 : o + hd.len + (j - o - (intsL d).length) = j := by simp; omega
              rw [e5] at hjv
              obtain ⟨x, hx, hvx⟩ := hj j v hjv
              refine ⟨x, ?_, hvx⟩
              simp only [World.cell?, hblk] at hx
              simp only [World.cell?, near]
              simp only [Option.isSome_none, Bool.false_eq_true, if_false] at hx ⊢
              rw [← hx]
              simp only [putCells, Array.getElem?_mapIdx]
              cases hce : ce[L.off + j]? with
              | none => rfl
              | some y => simp; omega
      have hG := Ste.same (w' := grow w1 os) hW.rel rfl rfl rfl (by simp [grow]) (fun c hc => by simp only [grow]; rw [Array.getElem?_append_left hc])
      exact ⟨μ, _, rfl, .tuple (by simp) (by simp), hW.trans hG⟩
  · intro g f e args σ v σ' h
    obtain ⟨rfl, rfl⟩ := sortSp_inv e
    obtain ⟨hd, rfl, rfl, hc⟩ := sortT_inv h
    rcases hc with ⟨e0, rfl⟩ | ⟨b, o, cs, zs, ha, ho, hz, hp, hl, h62, hpos, rfl⟩
    · exact Pre.refl _
    · exact Pre.set σ hp _
def FirstOkX (P : Program) (sp : FuncId → Option (List AV → Store → Option (AV × Store))) (g : FuncId) : Prop := ∃ fn k, P.funcs[g]? = some fn ∧ (fn.name == "runtime.NumGoroutine") = false ∧ fn.body.isNone = false ∧ okTrue (gam P drawn sp k (.fn g) [] ⟨[], 0⟩) = true
theorem tellX_sound {P : Program} (hm : P.follows .mixedOrders = true) {sp : FuncId → Option (List AV → Store → Option (AV × Store))} (h0 : SpS P sp ∧ SpK sp) {fs : List Nat} (h : ∀ g ∈ fs, FirstOkX P sp g) : SpS P (orTell sp fs) ∧ SpK (orTell sp fs) := by
  have shape : ∀ g f, tell fs g = some f → g ∈ fs ∧ ∀ args σ v σ', f args σ = some (v, σ') → args = [] ∧ v = .bool true ∧ σ' = σ := by
    intro g f e
    unfold tell at e
    split at e
    · rename_i ha
      injection e with e; subst e
      obtain ⟨x, hx, hb⟩ := List.any_eq_true.1 ha
      have : x = g := Nat.eq_of_beq_eq_true hb
      subst this
      refine ⟨hx, fun args σ v σ' h => ?_⟩
      cases args with
      | nil => simp at h; exact ⟨rfl, h.1.symm, h.2.symm⟩
      | cons => simp at h
    · cases e
  have parts : ∀ g f, orTell sp fs g = some f → sp g = some f ∨ tell fs g = some f := fun g f e => by
    unfold orTell at e
    split at e
    · rename_i f' e'
      injection e with e; subst e; exact .inl e'
    · exact .inr e
  constructor
  · intro g f e args σ v σ' hf
    rcases parts g f e with e | e
    · exact h0.1 g f e args σ v σ' hf
    obtain ⟨hg, hs⟩ := shape g f e
    obtain ⟨rfl, rfl, rfl⟩ := hs args σ v σ' hf
    obtain ⟨fn, k, k1, k2, k3, k4⟩ := h g hg
    refine ⟨fun cargs w => callFunc_enter k1 k2 k3 cargs w, fun μ w cargs hR hv => ?_⟩
    have hc : cargs.toList = [] := hv.inv_nil
    obtain ⟨σ1, hr⟩ : ∃ σ1, gam P drawn sp k (.fn g) [] ⟨[], 0⟩ = some (.bool true, σ1) := by
      cases hx : gam P drawn sp k (.fn g) [] ⟨[], 0⟩ with
      | none => rw [hx] at k4; cases k4
      | some r =>
        obtain ⟨v, s⟩ := r
        rw [hx] at k4
        cases v with
        | bool b => cases b with
          | true => exact ⟨s, rfl⟩
          | false => cases k4
        | _ => cases k4
    have hs := read_sound (P := P) hm h0.1 h0.2 k _ _ _ _ _ hr (fun _ => none) w cargs (Rel.empty w) (by rw [hc]; exact VL.nil _)
    refine hs.2.mono fun e w' ⟨μ', c, e1, e2, e3⟩ => ?_
    subst e1
    cases e2
    refine ⟨μ, _, rfl, .bool _, Ste.same hR e3.os e3.tape e3.output e3.size fun c hc => e3.pres c hc ?_⟩
    rintro ⟨b, o, L, h1, _⟩
    simp at h1
  · intro g f e args σ v σ' hf
    rcases parts g f e with e | e
    · exact h0.2 g f e args σ v σ' hf
    obtain ⟨_, hs⟩ := shape g f e
    obtain ⟨_, _, rfl⟩ := hs args σ v σ' hf
    exact Pre.refl _
end Go.Ab


/- What is told of sorting and of first holds. -/
namespace Go.Ab
open Go Go.Proofs Go.Shelf
def Try.sortA_ren : Go.Shelf.Ren := ⟨fun | 5 => 40 | 8 => 62 | 7 => 61 | 19 => 81 | 20 => 54 | 10 => 72 | 11 => 73 | 12 => 74 | 13 => 75 | 14 => 76 | 15 => 77 | 16 => 78 | 17 => 79 | 18 => 80 | 30 => 86 | 31 => 87 | 32 => 88 | 33 => 89 | 34 => 90 | 35 => 91 | 40 => 92 | n => n, fun | 23 => 22 | 25 => 3 | 3 => 3 | 32 => 38 | 22 => 22 | 0 => 0 | 44 => 113 | 46 => 70 | 4 => 4 | 36 => 107 | 35 => 106 | 41 => 110 | 5 => 5 | 9 => 9 | 53 => 116 | 57 => 120 | 63 => 122 | 64 => 39 | n => n, fun | n => n⟩
theorem Try.sortA : Go.Proofs.SlLaysM.n5 Try.prog Try.sortA_ren := {
  mixed := by kernel_rfl,
  f5 := ⟨Try.f40.name, by decide, Try.func40.trans (congrArg some (by kernel_rfl))⟩,
  f7 := ⟨Try.f61.name, by decide, Try.func61.trans (congrArg some (by kernel_rfl))⟩,
  f8 := Try.func62.trans (congrArg some (by kernel_rfl)),
  f10 := ⟨Try.f72.name, by decide, Try.func72.trans (congrArg some (by kernel_rfl))⟩,
  f11 := ⟨Try.f73.name, by decide, Try.func73.trans (congrArg some (by kernel_rfl))⟩,
  f12 := ⟨Try.f74.name, by decide, Try.func74.trans (congrArg some (by kernel_rfl))⟩,
  f13 := ⟨Try.f75.name, by decide, Try.func75.trans (congrArg some (by kernel_rfl))⟩,
  f14 := ⟨Try.f76.name, by decide, Try.func76.trans (congrArg some (by kernel_rfl))⟩,
  f15 := ⟨Try.f77.name, by decide, Try.func77.trans (congrArg some (by kernel_rfl))⟩,
  f16 := ⟨Try.f78.name, by decide, Try.func78.trans (congrArg some (by kernel_rfl))⟩,
  f17 := ⟨Try.f79.name, by decide, Try.func79.trans (congrArg some (by kernel_rfl))⟩,
  f18 := ⟨Try.f80.name, by decide, Try.func80.trans (congrArg some (by kernel_rfl))⟩,
  f19 := Try.func81.trans (congrArg some (by kernel_rfl)),
  f20 := Try.func54.trans (congrArg some (by kernel_rfl)),
  f30 := ⟨Try.f86.name, by decide, Try.func86.trans (congrArg some (by kernel_rfl))⟩,
  f31 := Try.func87.trans (congrArg some (by kernel_rfl)),
  f32 := Try.func88.trans (congrArg some (by kernel_rfl)),
  f33 := ⟨Try.f89.name, by decide, Try.func89.trans (congrArg some (by kernel_rfl))⟩,
  f34 := ⟨Try.f90.name, by decide, Try.func90.trans (congrArg some (by kernel_rfl))⟩,
  f35 := ⟨Try.f91.name, by decide, Try.func91.trans (congrArg some (by kernel_rfl))⟩,
  f40 := ⟨Try.f92.name, by decide, Try.func92.trans (congrArg some (by kernel_rfl))⟩,
  t0 := Try.underlying0,
  a0 := Try.isAgg0,
  z0 := Try.sizeOf0,
  v0 := Try.zeroValue0,
  t3 := Try.underlying3,
  a3 := Try.isAgg3,
  z3 := Try.sizeOf3,
  v3 := Try.zeroValue3,
  t4 := Try.underlying4,
  a4 := Try.isAgg4,
  z4 := Try.sizeOf4,
  v4 := Try.zeroValue4,
  t5 := Try.underlying5,
  a5 := Try.isAgg5,
  z5 := Try.sizeOf5,
  v5 := Try.zeroValue5,
  t9 := Try.underlying9,
  a9 := Try.isAgg9,
  z9 := Try.sizeOf9,
  v9 := Try.zeroValue9,
  t22 := Try.underlying22,
  a22 := Try.isAgg22,
  z22 := Try.sizeOf22,
  v22 := Try.zeroValue22,
  t23 := Try.underlying22,
  a23 := Try.isAgg22,
  z23 := Try.sizeOf22,
  v23 := Try.zeroValue22,
  t25 := Try.underlying3,
  a25 := Try.isAgg3,
  z25 := Try.sizeOf3,
  v25 := Try.zeroValue3,
  t32 := Try.underlying38,
  a32 := Try.isAgg38,
  z32 := Try.sizeOf38,
  v32 := Try.zeroValue38,
  t35 := Try.underlying106,
  a35 := Try.isAgg106,
  z35 := Try.sizeOf106,
  v35 := Try.zeroValue106,
  t36 := Try.underlying107,
  a36 := Try.isAgg107,
  z36 := Try.sizeOf107,
  v36 := Try.zeroValue107,
  t41 := Try.underlying110,
  a41 := Try.isAgg110,
  z41 := Try.sizeOf110,
  v41 := Try.zeroValue110,
  t44 := Try.underlying113,
  a44 := Try.isAgg113,
  z44 := Try.sizeOf113,
  v44 := Try.zeroValue113,
  t46 := Try.underlying70,
  a46 := Try.isAgg70,
  z46 := Try.sizeOf70,
  v46 := Try.zeroValue70,
  t53 := Try.underlying116,
  a53 := Try.isAgg116,
  z53 := Try.sizeOf116,
  v53 := Try.zeroValue116,
  t57 := Try.underlying120,
  a57 := Try.isAgg120,
  z57 := Try.sizeOf120,
  v57 := Try.zeroValue120,
  t63 := Try.underlying122,
  a63 := Try.isAgg122,
  z63 := Try.sizeOf122,
  v63 := Try.zeroValue122,
  t64 := Try.underlying39,
  a64 := Try.isAgg39,
  z64 := Try.sizeOf39,
  v64 := Try.zeroValue39
}
theorem sortOk : SpS Try.prog (sortSp 40) ∧ SpK (sortSp 40) :=
  sort_sound (fn := Try.f40) (by kernel_rfl) (by kernel_rfl) (by kernel_rfl)
    (fun blk off cap zs w hH hb hl => AnyM.slices_Sort_int Try.sortA blk off cap zs w hH hb hl)
    (fun p cap w => AnyM.slices_Sort_int_none Try.sortA p cap w)
theorem toldOk (hm : Try.prog.follows .mixedOrders = true) : SpS Try.prog (Told.sp Try.prog) ∧ SpK (Told.sp Try.prog) :=
  tellX_sound hm sortOk fun g hg => by
    rw [List.mem_singleton] at hg; subst hg
    exact ⟨Try.f10, 60, by kernel_rfl, by kernel_rfl, by kernel_rfl, by kernel_rfl⟩
end Go.Ab


/- An array of whole numbers that came in by value. -/
namespace Go.Ab
open Go
theorem vr_ints {μ : Mu} {k : IntKind} (zs : List Int) : VR μ (.agg (zs.map (AV.int k))) (.agg (zs.map (Value.int k)).toArray) := by
  refine .agg (by simp) fun i x y hx hy => ?_
  simp only [List.getElem?_map, List.getElem?_toArray] at hx hy
  cases h : zs[i]? with
  | none => rw [h] at hx; cases hx
  | some z => rw [h] at hx hy; injection hx with hx; injection hy with hy; subst hx hy; exact .int ..
section
variable {H : Type} {enc : TypeId × Value → H} {P : Program} {w : World} {base : Nat} {spare : Nat → Bool} {held : Bool}
theorem ints_of {k : IntKind} : ∀ {l : List Value}, (∀ i (h : i < l.length), ∃ z : Int, l[i] = .int k z ∧ (Lit.int k z).wf = true) → ∃ zs : List Int, l = zs.map (Value.int k) ∧ ∀ z ∈ zs, (Lit.int k z).wf = true
  | [], _ => ⟨[], rfl, by simp⟩
  | v :: l, h => by
    obtain ⟨z, hz, hw⟩ := h 0 (by simp)
    obtain ⟨zs, hzs, hws⟩ := ints_of (l := l) fun i hi => h (i + 1) (by simp; omega)
    refine ⟨z :: zs, ?_, ?_⟩
    · rw [List.map_cons, ← hzs]
      simp at hz
      rw [hz]
    · intro y hy
      rcases List.mem_cons.1 hy with rfl | hy
      · exact hw
      · exact hws y hy
theorem open_arr {n : Nat} {t e : TypeId} {k : IntKind} {r : Reach} {b0 : Nat} {v : Value} {d : DataW H} {p : List MemPlace} (ht : P.underlying t = some (.array n e)) (he : P.underlying e = some (.int k)) (hC : P.cellsOf e = 1 ∧ P.cellsOf t = n)
    (hv : Value.okWide P w r b0 t v) (h : DataW.Trod enc P w base spare held t v d p) :
    ∃ zs : List Int, zs.length = n ∧ v = .agg (zs.map (Value.int k)).toArray ∧ ∀ z ∈ zs, (Lit.int k z).wf = true := by
  simp only [Value.okWide, ht] at hv
  obtain ⟨cs, rfl, hsz, _⟩ := hv
  obtain ⟨fuel, hf⟩ := h
  obtain ⟨xs, m, rfl, _, hl, hn, hg⟩ := DataW.trod_array ht hf
  simp only [Value.cells] at hl hg
  have hlen : cs.toList.length = n := by simpa [hC.2] using hsz
  obtain ⟨zs, hzs, hws⟩ := ints_of (k := k) (l := cs.toList) fun i hi => by
    have := hg i (by omega)
    rw [hC.1, Nat.mul_one, List.getElem?_eq_getElem (by omega)] at this
    obtain ⟨z, hz, _, hw⟩ := DataW.trod_int he this
    refine ⟨z, ?_, hw⟩
    rw [List.drop_eq_getElem_cons hi] at hz
    simp at hz
    simpa using hz
  refine ⟨zs, by rw [← hlen, hzs]; simp, ?_, hws⟩
  rw [← hzs]
theorem list2 {l : List Int} (h : l.length = 2) : ∃ a b, l = [a, b] := by match l, h with | [a, b], _ => exact ⟨a, b, rfl⟩
end
end Go.Ab

