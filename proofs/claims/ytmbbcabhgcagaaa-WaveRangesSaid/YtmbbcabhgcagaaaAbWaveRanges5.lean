/- A part of the proof of the law WaveRanges: lemmas alone; what each says stands at it. No conditions. -/
import Derived.Test.YtmbbcabhgcagaaaAbWaveRanges4
import Derived.Test.YtmbbcabhgcagaaaAbWaveRanges3
/- What a wavelet matrix answers: span, rank, quantile, below. -/
namespace Go.Ab
open Go Go.Proofs Go.Ab.Wd Go.Ab.Bs Go.Ab.Sai
set_option linter.unusedVariables false
set_option linter.unusedSimpArgs false
theorem shr_i64 {a s : Nat} (hs : s ≤ 64) : shrI .i64 (a : Int) (s : Int) = ((a / 2 ^ s : Nat) : Int) := by
  have e : IntKind.i64.bits = 64 := by decide
  unfold shrI
  rw [e, Int.toNat_natCast, Nat.min_eq_left hs, Int.fdiv_eq_ediv_of_nonneg _ (Int.le_of_lt (Int.pow_pos (by omega)))]
  simp
/-- Where the numbers like c begin, level by level. -/
def apath (w : Nat) (l : List Int) (c : Int) : Nat → Nat
  | 0 => 0
  | j + 1 => goto (lev w l j) (apath w l c j) (bitb (w - j - 1) c)
theorem div_bit (c : Int) (k : Nat) : c.toNat / 2 ^ k = 2 * (c.toNat / 2 ^ (k + 1)) + bn (bitb k c) := by
  rw [div_succ]
  unfold bitb bn
  generalize c.toNat / 2 ^ k = u
  by_cases h : u % 2 = 1
  · simp [h]; omega
  · simp [h]; omega
section
variable {σ : Store} {p : Ptr} {l : List Int} {w : Nat}
theorem has_run (m : Mat σ p l w) (c : Int) : Runs Try.prog 59 [.ptr p, .int .i64 c] σ (.bool (decide (0 ≤ c ∧ c.toNat < 2 ^ w))) σ := by
  obtain ⟨b, hl, rfl, e0, e1, e2, ln, V⟩ := m.facts
  have hw := m.wid
  refine Runs.intro (fn := Try.f59) (by kernel_rfl) (by kernel_rfl) (Ev.of fun k => ?_)
  simp only [f59_eq]
  by_cases c0 : 0 ≤ c
  · have q : shrI .i64 c (w : Int) = ((c.toNat / 2 ^ w : Nat) : Int) := by
      have := shr_i64 (a := c.toNat) (s := w) (by omega)
      rwa [show ((c.toNat : Nat) : Int) = c by omega] at this
    have w0 : (0 : Int) ≤ w := by omega
    simp only [Option.bind_some, decide_eq_true_eq, decide_eq_false_iff_not, Bool.not_eq_true', Bool.not_true, Bool.not_false, Bool.false_eq_true, Bool.true_eq_false, Bool.not_eq_eq_eq_not, beq_self_eq_true, beqFT, beqTF, decide_true, decide_false, not_false_eq_true, not_true_eq_false, ne_eq, true_and, and_true, false_and, and_false, and_self, if_true, if_false, ite_true, ite_false, Bool.and_true, Bool.and_false, Bool.true_and, Bool.false_and, Bool.or_true, Bool.true_or, Bool.or_false, Bool.false_or, or_true, true_or, or_false, false_or, or_self, AV.asInt, AV.asBool, AV.asSl, AV.asPtr, AV.asFn, AV.asStr, AV.asMap, AV.asIfc, AV.item, List.length_cons, List.length_nil, List.getElem?_cons_zero, List.getElem?_cons_succ, Nat.zero_add, Option.isNone_some, c0, e1, w0, q]
    have e : (((c.toNat / 2 ^ w : Nat) : Int) = 0) = (c.toNat < 2 ^ w) := by
      have hd := Nat.div_eq_zero_iff (a := c.toNat) (b := 2 ^ w)
      have p2 : 2 ^ w ≠ 0 := Nat.pos_iff_ne_zero.1 (Nat.two_pow_pos w)
      apply propext
      constructor
      · intro h
        have h' : c.toNat / 2 ^ w = 0 := Int.ofNat_inj.1 h
        rcases hd.1 h' with h2 | h2
        · exact absurd h2 p2
        · exact h2
      · intro h; rw [Nat.div_eq_of_lt h]; rfl
    simp only [e]
  · simp only [Option.bind_some, decide_eq_true_eq, decide_eq_false_iff_not, Bool.not_eq_true', Bool.not_true, Bool.not_false, Bool.false_eq_true, Bool.true_eq_false, Bool.not_eq_eq_eq_not, beq_self_eq_true, beqFT, beqTF, decide_true, decide_false, not_false_eq_true, not_true_eq_false, ne_eq, true_and, and_true, false_and, and_false, and_self, if_true, if_false, ite_true, ite_false, Bool.and_true, Bool.and_false, Bool.true_and, Bool.false_and, Bool.or_true, Bool.true_or, Bool.or_false, Bool.false_or, or_true, true_or, or_false, false_or, or_self, AV.asInt, AV.asBool, AV.asSl, AV.asPtr, AV.asFn, AV.asStr, AV.asMap, AV.asIfc, AV.item, List.length_cons, List.length_nil, List.getElem?_cons_zero, List.getElem?_cons_succ, Nat.zero_add, Option.isNone_some, c0]
theorem filt_nat {s : List Int} (h : ∀ x ∈ s, 0 ≤ x) {c : Int} (hc : 0 ≤ c) : (s.filter (pre 0 c.toNat)).length = Bs.cnt (fun x => decide (x = c)) s := by
  unfold Bs.cnt
  congr 1
  apply List.filter_congr
  intro x hx
  rw [pre_zero (h x hx)]; congr 1; exact propext (by omega)
theorem span_run (m : Mat σ p l w) {c : Int} (c0 : 0 ≤ c) (cw : c.toNat < 2 ^ w) {i : Nat} (hi : i ≤ l.length) :
    Runs Try.prog 60 [.ptr p, .int .i64 c, .int .i64 i] σ (.tuple [.int .i64 (apath w l c w), .int .i64 (apath w l c w + Bs.cnt (fun x => decide (x = c)) (l.take i) : Nat)]) σ ∧
      Part (Bs.rowAt w l 0) (apath w l c w) ((l.take i).filter (pre 0 c.toNat)) := by
  obtain ⟨b, hl, rfl, e0, e1, e2, ln, V⟩ := m.facts
  have hw := m.wid
  have sm := m.small
  have p24 : 2 ^ w ≤ 2 ^ 24 := Nat.pow_le_pow_right (by omega) hw.2
  obtain ⟨r, e, rfl, PP⟩ := EvI.up (f := fun k s => stepF Try.prog (gm Try.prog k) drawn k Try.f60 [1, 1, 0, 1, 0] [17, 16, 15, 8, 2, 1, 0] s) w
    (fun j s => s = ([.int .i64 j, .int .i64 w, .slice hl, .int .i64 (apath w l c j : Nat), .int .i64 (apath w l c j + ((l.take i).filter (pre (w - j) (c.toNat / 2 ^ (w - j)))).length : Nat), .int .i64 c, .ptr (some (b, 0))], σ) ∧
      Part (Bs.rowAt w l (w - j)) (apath w l c j) ((l.take i).filter (pre (w - j) (c.toNat / 2 ^ (w - j)))))
    (fun r => r = (AX.exit 0, [(8, .int .i64 (apath w l c w : Nat)), (2, .int .i64 (apath w l c w + ((l.take i).filter (pre 0 c.toNat)).length : Nat))], σ) ∧ Part (Bs.rowAt w l 0) (apath w l c w) ((l.take i).filter (pre 0 c.toNat)))
    (by
      rintro j s hj ⟨rfl, P⟩
      obtain ⟨k, hk⟩ : ∃ k, w = j + (k + 1) := ⟨w - j - 1, by omega⟩
      rw [show w - j = k + 1 by omega] at P ⊢
      rw [show w - (j + 1) = k by omega]
      obtain ⟨q, lq, vq⟩ := V j hj
      have j0 : (0 : Int) ≤ j := by omega
      have j1 : (j : Int) < w := by omega
      have j2 : (j : Int) < hl.len := by omega
      have w1 := wsucc hj (by omega)
      have st := P.step (by omega) (bitb k c)
      rw [← lev_eq l hk, ← div_bit c k] at st
      have ea : apath w l c (j + 1) = goto (lev w l j) (apath w l c j) (bitb k c) := by rw [apath, show w - j - 1 = k by omega]
      rw [← ea] at st
      obtain ⟨n1, r1⟩ := down_run vq (apath w l c j : Nat) (bitb k c)
      obtain ⟨n2, r2⟩ := down_run vq (apath w l c j + ((l.take i).filter (pre (k + 1) (c.toNat / 2 ^ (k + 1)))).length : Nat) (bitb k c)
      rw [Int.toNat_natCast] at r1 r2
      rw [← ea] at r1
      rw [st.2] at r2
      have wk : IntKind.wrap .i64 (IntKind.wrap .i64 ((w : Int) - 1) - j) = (k : Nat) := by rw [wrap64 (x := (w : Int) - 1) (by omega) (by omega), wrap64 (by omega) (by omega)]; omega
      have k0 : (0 : Int) ≤ (k : Nat) := by omega
      have bt : decide (bitOp .and .i64 (shrI .i64 c (k : Nat)) 1 = 1) = bitb k c := by
        cases h : bitb k c with
        | true => rw [decide_eq_true (bit_on c0 (by omega) (by omega) h)]
        | false => rw [decide_eq_false (bit_off c0 (by omega) (by omega) h)]
      refine ⟨_, ⟨n1 + n2, fun m' hm => ?_⟩, rfl, st.1⟩
      have r1 := r1 m' (by omega)
      have r2 := r2 m' (by omega)
      simp only at r1 r2
      simp only [f60_L11010]
      simp only [Option.bind_some, decide_eq_true_eq, decide_eq_false_iff_not, Bool.not_eq_true', Bool.not_true, Bool.not_false, Bool.false_eq_true, Bool.true_eq_false, Bool.not_eq_eq_eq_not, beq_self_eq_true, beqFT, beqTF, decide_true, decide_false, not_false_eq_true, not_true_eq_false, ne_eq, true_and, and_true, false_and, and_false, and_self, if_true, if_false, ite_true, ite_false, Bool.and_true, Bool.and_false, Bool.true_and, Bool.false_and, Bool.or_true, Bool.true_or, Bool.or_false, Bool.false_or, or_true, true_or, or_false, false_or, or_self, AV.asInt, AV.asBool, AV.asSl, AV.asPtr, AV.asFn, AV.asStr, AV.asMap, AV.asIfc, AV.item, List.length_cons, List.length_nil, List.getElem?_cons_zero, List.getElem?_cons_succ, Nat.zero_add, j0, j1, j2, lq, e1, wk, k0, bt, r1, r2, w1])
    (by
      rintro s ⟨rfl, P⟩
      rw [Nat.sub_self, Nat.pow_zero, Nat.div_one] at P ⊢
      exact ⟨_, Ev.of fun k => by simp only [f60_L11010]; simp only [Option.bind_some, decide_eq_true_eq, decide_eq_false_iff_not, Bool.not_eq_true', Bool.not_true, Bool.not_false, Bool.false_eq_true, Bool.true_eq_false, Bool.not_eq_eq_eq_not, beq_self_eq_true, beqFT, beqTF, decide_true, decide_false, not_false_eq_true, not_true_eq_false, ne_eq, true_and, and_true, false_and, and_false, and_self, if_true, if_false, ite_true, ite_false, Bool.and_true, Bool.and_false, Bool.true_and, Bool.false_and, Bool.or_true, Bool.true_or, Bool.or_false, Bool.false_or, or_true, true_or, or_false, false_or, or_self, AV.asInt, AV.asBool, AV.asSl, AV.asPtr, AV.asFn, AV.asStr, AV.asMap, AV.asIfc, AV.item, List.length_cons, List.length_nil, List.getElem?_cons_zero, List.getElem?_cons_succ, Nat.zero_add, Int.lt_irrefl], rfl, P⟩)
    (s := ([.int .i64 0, .int .i64 w, .slice hl, .int .i64 0, .int .i64 i, .int .i64 c, .ptr (some (b, 0))], σ))
    (by
      have P := Part.top (w := w) (l := l) m.nat (a := 0) (b := i) (by omega) hi
      have ef : (l.take i).filter (pre w 0) = l.take i := List.filter_eq_self.2 fun x hx => pre_top (m.nat x (List.mem_of_mem_take hx))
      rw [Nat.sub_zero, Nat.div_eq_of_lt cw]
      refine ⟨?_, by simpa [apath] using P⟩
      rw [ef, List.length_take, Nat.min_eq_left hi, apath, Nat.zero_add]; rfl)
  rw [filt_nat (fun x hx => (m.rng x (List.mem_of_mem_take hx)).1) c0] at e
  obtain ⟨n2, e⟩ := loopF_ev e
  refine ⟨Runs.intro (fn := Try.f60) (by kernel_rfl) (by kernel_rfl) ⟨n2, fun k hk => ?_⟩, PP⟩
  have e := e k hk
  simp only at e
  simp only [f60_eq]
  simp only [Option.bind_some, decide_eq_true_eq, decide_eq_false_iff_not, Bool.not_eq_true', Bool.not_true, Bool.not_false, Bool.false_eq_true, Bool.true_eq_false, Bool.not_eq_eq_eq_not, beq_self_eq_true, beqFT, beqTF, decide_true, decide_false, not_false_eq_true, not_true_eq_false, ne_eq, true_and, and_true, false_and, and_false, and_self, if_true, if_false, ite_true, ite_false, Bool.and_true, Bool.and_false, Bool.true_and, Bool.false_and, Bool.or_true, Bool.true_or, Bool.or_false, Bool.false_or, or_true, true_or, or_false, false_or, or_self, AV.asInt, AV.asBool, AV.asSl, AV.asPtr, AV.asFn, AV.asStr, AV.asMap, AV.asIfc, AV.item, List.length_cons, List.length_nil, List.getElem?_cons_zero, List.getElem?_cons_succ, Nat.zero_add, e2, ln, e]
  rw [f60_X11010_1]
theorem matRank_run (m : Mat σ p l w) (c i : Int) : Runs Try.prog 35 [.ptr p, .int .i64 c, .int .i64 i] σ (.int .i64 (Bs.cnt (fun x => decide (x = c)) (l.take i.toNat) : Nat)) σ := by
  obtain ⟨k1, r1⟩ := has_run m c
  have sm := m.small
  by_cases h : 0 ≤ c ∧ c.toNat < 2 ^ w
  · obtain ⟨b, hl, rfl, e0, e1, e2, ln, V⟩ := m.facts
    obtain ⟨⟨k2, r2⟩, _⟩ := span_run m h.1 h.2 (i := min i.toNat l.length) (by omega)
    have P := (span_run m h.1 h.2 (i := l.length) (Nat.le_refl _)).2.le
    rw [rowAt_length] at P
    have et : l.take (min i.toNat l.length) = l.take i.toNat := by
      by_cases c : i.toNat ≤ l.length
      · rw [Nat.min_eq_left c]
      · rw [Nat.min_eq_right (by omega), List.take_length, List.take_of_length_le (by omega)]
    rw [et] at r2
    have em : mx2 (Int.ofNat 0) (mn2 i l.length) = ((min i.toNat l.length : Nat) : Int) := by rw [mn2_eq, mx2_eq]; simp only [Int.ofNat_eq_natCast]; omega
    have cl := cnt_le (fun x => decide (x = c)) (l.take i.toNat)
    rw [List.length_take] at cl
    have w1 : IntKind.wrap .i64 (((apath w l c w + Bs.cnt (fun x => decide (x = c)) (l.take i.toNat) : Nat) : Int) - (apath w l c w : Nat)) = (Bs.cnt (fun x => decide (x = c)) (l.take i.toNat) : Nat) := by rw [wrap64 (by omega) (by omega)]; omega
    rw [decide_eq_true h] at r1
    refine Runs.intro (fn := Try.f35) (by kernel_rfl) (by kernel_rfl) ⟨k1 + k2, fun k hk => ?_⟩
    have r1 := r1 k (by omega)
    have r2 := r2 k (by omega)
    simp only at r1 r2
    simp only [f35_eq]
    simp only [Option.bind_some, decide_eq_true_eq, decide_eq_false_iff_not, Bool.not_eq_true', Bool.not_true, Bool.not_false, Bool.false_eq_true, Bool.true_eq_false, Bool.not_eq_eq_eq_not, beq_self_eq_true, beqFT, beqTF, decide_true, decide_false, not_false_eq_true, not_true_eq_false, ne_eq, true_and, and_true, false_and, and_false, and_self, if_true, if_false, ite_true, ite_false, Bool.and_true, Bool.and_false, Bool.true_and, Bool.false_and, Bool.or_true, Bool.true_or, Bool.or_false, Bool.false_or, or_true, true_or, or_false, false_or, or_self, AV.asInt, AV.asBool, AV.asSl, AV.asPtr, AV.asFn, AV.asStr, AV.asMap, AV.asIfc, AV.item, List.length_cons, List.length_nil, List.getElem?_cons_zero, List.getElem?_cons_succ, Nat.zero_add, r1, e0, em, r2, w1]
  · have e : Bs.cnt (fun x => decide (x = c)) (l.take i.toNat) = 0 := by
      unfold Bs.cnt
      rw [List.filter_eq_nil_iff.2]
      · rfl
      · intro x hx
        have hxl := List.mem_of_mem_take hx
        have h1 := m.nat x hxl
        have h2 := m.rng x hxl
        simp only [decide_eq_true_eq]
        rintro rfl
        exact h ⟨h2.1, h1⟩
    rw [e]
    rw [decide_eq_false h] at r1
    refine Runs.intro (fn := Try.f35) (by kernel_rfl) (by kernel_rfl) ⟨k1, fun k hk => ?_⟩
    have r1 := r1 k (by omega)
    simp only at r1
    simp only [f35_eq]
    simp only [Option.bind_some, decide_eq_true_eq, decide_eq_false_iff_not, Bool.not_eq_true', Bool.not_true, Bool.not_false, Bool.false_eq_true, Bool.true_eq_false, Bool.not_eq_eq_eq_not, beq_self_eq_true, beqFT, beqTF, decide_true, decide_false, not_false_eq_true, not_true_eq_false, ne_eq, true_and, and_true, false_and, and_false, and_self, if_true, if_false, ite_true, ite_false, Bool.and_true, Bool.and_false, Bool.true_and, Bool.false_and, Bool.or_true, Bool.true_or, Bool.or_false, Bool.false_or, or_true, true_or, or_false, false_or, or_self, AV.asInt, AV.asBool, AV.asSl, AV.asPtr, AV.asFn, AV.asStr, AV.asMap, AV.asIfc, AV.item, List.length_cons, List.length_nil, List.getElem?_cons_zero, List.getElem?_cons_succ, Nat.zero_add, r1]
    rfl
end
end Go.Ab

/- What a wavelet matrix answers: quantile, below. -/
namespace Go.Ab
open Go Go.Proofs Go.Ab.Wd Go.Ab.Bs Go.Ab.Sai
set_option linter.unusedVariables false
set_option linter.unusedSimpArgs false
def segLo (a : Int) : Nat := (max a 0).toNat
def segHi (l : List Int) (a b : Int) : Nat := (max (max a 0) (min b l.length)).toNat
/-- What of a row is in a range. -/
def seg (l : List Int) (a b : Int) : List Int := (l.take (segHi l a b)).drop (segLo a)
theorem seg_length {l : List Int} {a b : Int} (h : segLo a < l.length) : (seg l a b).length = segHi l a b - segLo a ∧ segLo a ≤ segHi l a b ∧ segHi l a b ≤ l.length := by
  unfold seg segLo segHi at *; simp; omega
theorem seg_empty {l : List Int} {a b : Int} (h : l.length ≤ segLo a) : seg l a b = [] := by
  unfold seg; apply List.drop_eq_nil_iff.2; simp; omega
theorem seg_mem {l : List Int} {a b x : Int} (h : x ∈ seg l a b) : x ∈ l := List.mem_of_mem_take (List.mem_of_mem_drop h)
theorem pre_split (k c : Nat) (s : List Int) : (s.filter (pre (k + 1) c)).length = (s.filter (pre k (2 * c))).length + (s.filter (pre k (2 * c + 1))).length := by
  have := cnt_or (p := pre k (2 * c)) (q := pre k (2 * c + 1)) s (fun x _ => by unfold pre; simp; omega)
  unfold Bs.cnt at this
  rw [← this]
  congr 2; funext x
  have h0 := pre_step k c false x
  have h1 := pre_step k c true x
  simp only [bn, Bool.false_eq_true, if_false, if_true, Nat.add_zero] at h0 h1
  rw [h0, h1]
  cases pre (k + 1) c x <;> cases bitb k x <;> rfl
section
variable {σ : Store} {p : Ptr} {l : List Int} {w : Nat}
theorem within_run (m : Mat σ p l w) (a b : Int) : Runs Try.prog 65 [.ptr p, .int .i64 a, .int .i64 b] σ (.tuple [.int .i64 (segLo a), .int .i64 (segHi l a b)]) σ := by
  obtain ⟨k1, r1⟩ := matLen_run m
  have e1 : mx2 a 0 = (segLo a : Int) := by unfold segLo; rw [mx2_eq]; omega
  have e2 : mx2 (mx2 a 0) (mn2 b l.length) = (segHi l a b : Int) := by unfold segHi; rw [mx2_eq, mx2_eq, mn2_eq]; omega
  refine Runs.intro (fn := Try.f65) (by kernel_rfl) (by kernel_rfl) ⟨k1, fun k hk => ?_⟩
  have r1 := r1 k (by omega)
  simp only at r1
  simp only [f65_eq]
  rw [e1] at e2
  simp only [Option.bind_some, decide_eq_true_eq, decide_eq_false_iff_not, Bool.not_eq_true', Bool.not_true, Bool.not_false, Bool.false_eq_true, Bool.true_eq_false, Bool.not_eq_eq_eq_not, beq_self_eq_true, beqFT, beqTF, decide_true, decide_false, not_false_eq_true, not_true_eq_false, ne_eq, true_and, and_true, false_and, and_false, and_self, if_true, if_false, ite_true, ite_false, Bool.and_true, Bool.and_false, Bool.true_and, Bool.false_and, Bool.or_true, Bool.true_or, Bool.or_false, Bool.false_or, or_true, true_or, or_false, false_or, or_self, AV.asInt, AV.asBool, AV.asSl, AV.asPtr, AV.asFn, AV.asStr, AV.asMap, AV.asIfc, AV.item, List.length_cons, List.length_nil, List.getElem?_cons_zero, List.getElem?_cons_succ, Nat.zero_add, r1, e1, e2]
theorem quantile_run (m : Mat σ p l w) (a b kk : Int) : ∃ v : Int, Runs Try.prog 40 [.ptr p, .int .i64 a, .int .i64 b, .int .i64 kk] σ (.int .i64 v) σ ∧
    ((0 ≤ kk ∧ kk < (seg l a b).length) → 0 ≤ v ∧ (Bs.cnt (fun x => decide (x < v)) (seg l a b) : Int) ≤ kk ∧ kk < (Bs.cnt (fun x => decide (x < v)) (seg l a b) : Int) + (Bs.cnt (fun x => decide (x = v)) (seg l a b) : Int)) ∧ (¬ (0 ≤ kk ∧ kk < (seg l a b).length) → v = -1) := by
  obtain ⟨k1, r1⟩ := within_run m a b
  obtain ⟨k2, r2⟩ := matLen_run m
  have sm := m.small
  by_cases c1 : (l.length : Int) ≤ segLo a
  · refine ⟨-1, Runs.intro (fn := Try.f40) (by kernel_rfl) (by kernel_rfl) ⟨k1 + k2, fun k hk => ?_⟩, fun h => ?_, fun _ => rfl⟩
    · have r1 := r1 k (by omega)
      have r2 := r2 k (by omega)
      simp only at r1 r2
      simp only [f40_eq]
      simp only [Option.bind_some, decide_eq_true_eq, decide_eq_false_iff_not, Bool.not_eq_true', Bool.not_true, Bool.not_false, Bool.false_eq_true, Bool.true_eq_false, Bool.not_eq_eq_eq_not, beq_self_eq_true, beqFT, beqTF, decide_true, decide_false, not_false_eq_true, not_true_eq_false, ne_eq, true_and, and_true, false_and, and_false, and_self, if_true, if_false, ite_true, ite_false, Bool.and_true, Bool.and_false, Bool.true_and, Bool.false_and, Bool.or_true, Bool.true_or, Bool.or_false, Bool.false_or, or_true, true_or, or_false, false_or, or_self, AV.asInt, AV.asBool, AV.asSl, AV.asPtr, AV.asFn, AV.asStr, AV.asMap, AV.asIfc, AV.item, List.length_cons, List.length_nil, List.getElem?_cons_zero, List.getElem?_cons_succ, Nat.zero_add, r1, r2, c1]
    · rw [seg_empty (by omega)] at h; simp at h; omega
  obtain ⟨s1, s2, s3⟩ := seg_length (l := l) (a := a) (b := b) (by omega)
  have wk : IntKind.wrap .i64 ((segHi l a b : Int) - segLo a) = ((seg l a b).length : Int) := by rw [wrap64 (by omega) (by omega)]; omega
  by_cases c2 : 0 ≤ kk ∧ kk < (seg l a b).length
  case neg =>
    refine ⟨-1, Runs.intro (fn := Try.f40) (by kernel_rfl) (by kernel_rfl) ⟨k1 + k2, fun k hk => ?_⟩, fun h => absurd h c2, fun _ => rfl⟩
    have r1 := r1 k (by omega)
    have r2 := r2 k (by omega)
    simp only at r1 r2
    simp only [f40_eq]
    by_cases c3 : kk < 0
    · simp only [Option.bind_some, decide_eq_true_eq, decide_eq_false_iff_not, Bool.not_eq_true', Bool.not_true, Bool.not_false, Bool.false_eq_true, Bool.true_eq_false, Bool.not_eq_eq_eq_not, beq_self_eq_true, beqFT, beqTF, decide_true, decide_false, not_false_eq_true, not_true_eq_false, ne_eq, true_and, and_true, false_and, and_false, and_self, if_true, if_false, ite_true, ite_false, Bool.and_true, Bool.and_false, Bool.true_and, Bool.false_and, Bool.or_true, Bool.true_or, Bool.or_false, Bool.false_or, or_true, true_or, or_false, false_or, or_self, AV.asInt, AV.asBool, AV.asSl, AV.asPtr, AV.asFn, AV.asStr, AV.asMap, AV.asIfc, AV.item, List.length_cons, List.length_nil, List.getElem?_cons_zero, List.getElem?_cons_succ, Nat.zero_add, r1, r2, c1, c3]
    · have c4 : ((seg l a b).length : Int) ≤ kk := by omega
      simp only [Option.bind_some, decide_eq_true_eq, decide_eq_false_iff_not, Bool.not_eq_true', Bool.not_true, Bool.not_false, Bool.false_eq_true, Bool.true_eq_false, Bool.not_eq_eq_eq_not, beq_self_eq_true, beqFT, beqTF, decide_true, decide_false, not_false_eq_true, not_true_eq_false, ne_eq, true_and, and_true, false_and, and_false, and_self, if_true, if_false, ite_true, ite_false, Bool.and_true, Bool.and_false, Bool.true_and, Bool.false_and, Bool.or_true, Bool.true_or, Bool.or_false, Bool.false_or, or_true, true_or, or_false, false_or, or_self, AV.asInt, AV.asBool, AV.asSl, AV.asPtr, AV.asFn, AV.asStr, AV.asMap, AV.asIfc, AV.item, List.length_cons, List.length_nil, List.getElem?_cons_zero, List.getElem?_cons_succ, Nat.zero_add, r1, r2, c1, c3, wk, c4]
  obtain ⟨s, hs⟩ : ∃ s, s = seg l a b := ⟨_, rfl⟩
  rw [← hs] at c2 s1 wk ⊢
  obtain ⟨bb, hl, rfl, e0, e1, e2, ln, V⟩ := m.facts
  have hw := m.wid
  have p24 : 2 ^ w ≤ 2 ^ 24 := Nat.pow_le_pow_right (by omega) hw.2
  have sw : ∀ x ∈ s, x.toNat < 2 ^ w := fun x hx => m.nat x (seg_mem (hs ▸ hx))
  have s0 : ∀ x ∈ s, 0 ≤ x := fun x hx => (m.rng x (seg_mem (hs ▸ hx))).1
  have sl : s.length ≤ 4194304 := by omega
  obtain ⟨r, e, c, q, rfl, Q1, Q2⟩ := EvI.up (f := fun k s => stepF Try.prog (gm Try.prog k) drawn k Try.f40 [1, 1, 1, 1, 0, 1, 0] [41, 40, 39, 9, 3, 2, 1] s) w
    (fun j st => ∃ c q x : Nat, st = ([.int .i64 j, .int .i64 w, .slice hl, .int .i64 (c : Nat), .int .i64 (q : Nat), .int .i64 (x + (s.filter (pre (w - j) c)).length : Nat), .int .i64 (x : Nat)], σ) ∧ j ≤ w ∧
      Part (Bs.rowAt w l (w - j)) x (s.filter (pre (w - j) c)) ∧ q < (s.filter (pre (w - j) c)).length ∧ kk = (q : Int) + (Bs.cnt (fun x => decide (x.toNat / 2 ^ (w - j) < c)) s : Nat))
    (fun r => ∃ c q : Nat, r = (AX.exit 0, [(9, .int .i64 (c : Nat))], σ) ∧ q < (s.filter (pre 0 c)).length ∧ kk = (q : Int) + (Bs.cnt (fun x => decide (x.toNat / 2 ^ 0 < c)) s : Nat))
    (by
      rintro j st hj ⟨c, q, x, rfl, _, P, hq, hkk⟩
      obtain ⟨k, hk⟩ : ∃ k, w = j + (k + 1) := ⟨w - j - 1, by omega⟩
      rw [show w - j = k + 1 by omega] at P hq hkk ⊢
      rw [show w - (j + 1) = k by omega]
      obtain ⟨lv, llv, vq⟩ := V j hj
      have j0 : (0 : Int) ≤ j := by omega
      have j1 : (j : Int) < w := by omega
      have j2 : (j : Int) < hl.len := by omega
      have w1 := wsucc hj (by omega)
      have sp := pre_split k c s
      have fl := List.length_filter_le (pre (k + 1) c) s
      have hcl : c < 2 ^ w := by
        obtain ⟨y, hy⟩ := List.exists_mem_of_length_pos (Nat.lt_of_le_of_lt (Nat.zero_le _) hq)
        obtain ⟨h1, h2⟩ := List.mem_filter.1 hy
        have h3 := sw y h1
        simp only [pre, decide_eq_true_eq] at h2
        have := Nat.div_le_self y.toNat (2 ^ (k + 1))
        omega
      have st0 := P.step (by omega) false
      have st1 := P.step (by omega) true
      rw [← lev_eq l hk] at st0 st1
      simp only [bn, Bool.false_eq_true, if_false, if_true, Nat.add_zero] at st0 st1
      have P0 := P.le
      rw [rowAt_length] at P0
      have gl0 := goto_le (lev w l j) x false
      have gl1 := goto_le (lev w l j) x true
      rw [lev_length] at gl0 gl1
      obtain ⟨n1, r1⟩ := vec_zeros vq (x + (s.filter (pre (k + 1) c)).length : Nat)
      obtain ⟨n2, r2⟩ := vec_zeros vq (x : Nat)
      rw [Int.toNat_natCast, zeros_goto] at r1 r2
      rw [st0.2] at r1
      obtain ⟨z, hz⟩ : ∃ z, z = (s.filter (pre k (2 * c))).length := ⟨_, rfl⟩
      have wz : IntKind.wrap .i64 (((goto (lev w l j) x false + (s.filter (pre k (2 * c))).length : Nat) : Int) - (goto (lev w l j) x false : Nat)) = (z : Int) := by rw [← hz, wrap64 (by omega) (by omega)]; omega
      have w2 : IntKind.wrap .i64 (2 * (c : Int)) = ((2 * c : Nat) : Int) := by rw [wrap64 (by omega) (by omega)]; omega
      by_cases cz : z ≤ q
      · have cz' : (z : Int) ≤ q := by omega
        obtain ⟨n3, r3⟩ := down_run vq (x : Nat) true
        obtain ⟨n4, r4⟩ := down_run vq (x + (s.filter (pre (k + 1) c)).length : Nat) true
        rw [Int.toNat_natCast] at r3 r4
        rw [st1.2] at r4
        have w3 : IntKind.wrap .i64 (((2 * c : Nat) : Int) + 1) = ((2 * c + 1 : Nat) : Int) := by rw [wrap64 (by omega) (by omega)]; omega
        have w4 : IntKind.wrap .i64 ((q : Int) - z) = ((q - z : Nat) : Int) := by rw [wrap64 (by omega) (by omega)]; omega
        refine .intro _ ⟨⟨n1 + n2 + n3 + n4, fun m' hm => ?_⟩, 2 * c + 1, q - z, goto (lev w l j) x true, rfl, by omega, st1.1, by omega, ?_⟩
        · have r1 := r1 m' (by omega)
          have r2 := r2 m' (by omega)
          have r3 := r3 m' (by omega)
          have r4 := r4 m' (by omega)
          simp only at r1 r2 r3 r4
          simp only [f40_L1111010]
          simp only [Option.bind_some, decide_eq_true_eq, decide_eq_false_iff_not, Bool.not_eq_true', Bool.not_true, Bool.not_false, Bool.false_eq_true, Bool.true_eq_false, Bool.not_eq_eq_eq_not, beq_self_eq_true, beqFT, beqTF, decide_true, decide_false, not_false_eq_true, not_true_eq_false, ne_eq, true_and, and_true, false_and, and_false, and_self, if_true, if_false, ite_true, ite_false, Bool.and_true, Bool.and_false, Bool.true_and, Bool.false_and, Bool.or_true, Bool.true_or, Bool.or_false, Bool.false_or, or_true, true_or, or_false, false_or, or_self, AV.asInt, AV.asBool, AV.asSl, AV.asPtr, AV.asFn, AV.asStr, AV.asMap, AV.asIfc, AV.item, List.length_cons, List.length_nil, List.getElem?_cons_zero, List.getElem?_cons_succ, Nat.zero_add, j0, j1, j2, llv, r1, r2, wz, cz', r3, r4, w2, w3, w4, w1]
        · rw [below_one_bit, ← hz]; omega
      · have cz' : ¬ (z : Int) ≤ q := by omega
        obtain ⟨n3, r3⟩ := down_run vq (x : Nat) false
        obtain ⟨n4, r4⟩ := down_run vq (x + (s.filter (pre (k + 1) c)).length : Nat) false
        rw [Int.toNat_natCast] at r3 r4
        rw [st0.2] at r4
        refine .intro _ ⟨⟨n1 + n2 + n3 + n4, fun m' hm => ?_⟩, 2 * c, q, goto (lev w l j) x false, rfl, by omega, st0.1, by omega, ?_⟩
        · have r1 := r1 m' (by omega)
          have r2 := r2 m' (by omega)
          have r3 := r3 m' (by omega)
          have r4 := r4 m' (by omega)
          simp only at r1 r2 r3 r4
          simp only [f40_L1111010]
          simp only [Option.bind_some, decide_eq_true_eq, decide_eq_false_iff_not, Bool.not_eq_true', Bool.not_true, Bool.not_false, Bool.false_eq_true, Bool.true_eq_false, Bool.not_eq_eq_eq_not, beq_self_eq_true, beqFT, beqTF, decide_true, decide_false, not_false_eq_true, not_true_eq_false, ne_eq, true_and, and_true, false_and, and_false, and_self, if_true, if_false, ite_true, ite_false, Bool.and_true, Bool.and_false, Bool.true_and, Bool.false_and, Bool.or_true, Bool.true_or, Bool.or_false, Bool.false_or, or_true, true_or, or_false, false_or, or_self, AV.asInt, AV.asBool, AV.asSl, AV.asPtr, AV.asFn, AV.asStr, AV.asMap, AV.asIfc, AV.item, List.length_cons, List.length_nil, List.getElem?_cons_zero, List.getElem?_cons_succ, Nat.zero_add, j0, j1, j2, llv, r1, r2, wz, cz', r3, r4, w2, w1]
        · rw [below_zero_bit]; exact hkk)
    (by
      rintro st ⟨c, q, x, rfl, _, P, hq, hkk⟩
      rw [Nat.sub_self] at hq hkk
      exact ⟨(AX.exit 0, [(9, .int .i64 (c : Nat))], σ), Ev.of fun k => by simp only [f40_L1111010]; simp only [Option.bind_some, decide_eq_true_eq, decide_eq_false_iff_not, Bool.not_eq_true', Bool.not_true, Bool.not_false, Bool.false_eq_true, Bool.true_eq_false, Bool.not_eq_eq_eq_not, beq_self_eq_true, beqFT, beqTF, decide_true, decide_false, not_false_eq_true, not_true_eq_false, ne_eq, true_and, and_true, false_and, and_false, and_self, if_true, if_false, ite_true, ite_false, Bool.and_true, Bool.and_false, Bool.true_and, Bool.false_and, Bool.or_true, Bool.true_or, Bool.or_false, Bool.false_or, or_true, true_or, or_false, false_or, or_self, AV.asInt, AV.asBool, AV.asSl, AV.asPtr, AV.asFn, AV.asStr, AV.asMap, AV.asIfc, AV.item, List.length_cons, List.length_nil, List.getElem?_cons_zero, List.getElem?_cons_succ, Nat.zero_add, Int.lt_irrefl], c, q, rfl, hq, hkk⟩)
    (s := ([.int .i64 0, .int .i64 w, .slice hl, .int .i64 0, .int .i64 kk, .int .i64 (segHi l a b), .int .i64 (segLo a)], σ))
    ⟨0, kk.toNat, segLo a, by
      rw [Nat.sub_zero, List.filter_eq_self.2 fun x hx => pre_top (sw x hx), s1, show segLo a + (segHi l a b - segLo a) = segHi l a b by omega, show ((kk.toNat : Nat) : Int) = kk by omega]; rfl, by omega, by
      rw [Nat.sub_zero, hs]; exact Part.top m.nat s2 s3, by
      rw [Nat.sub_zero, List.filter_eq_self.2 fun x hx => pre_top (sw x hx)]; omega, by
      rw [Nat.sub_zero, below_all sw, if_neg (by omega)]; omega⟩
  obtain ⟨n2, e⟩ := loopF_ev e
  have hf := filt_nat s0 (c := (c : Int)) (by omega)
  rw [Int.toNat_natCast] at hf
  have hb : Bs.cnt (fun x => decide (x.toNat / 2 ^ 0 < c)) s = Bs.cnt (fun x => decide (x < (c : Int))) s := cnt_congr fun x hx => by
    have := s0 x hx
    rw [Nat.pow_zero, Nat.div_one]; congr 1; exact propext (by omega)
  rw [hb] at Q2
  refine ⟨c, Runs.intro (fn := Try.f40) (by kernel_rfl) (by kernel_rfl) ⟨k1 + k2 + n2, fun k hk => ?_⟩, fun _ => ⟨by omega, by omega, by omega⟩, fun h => absurd c2 h⟩
  have r1 := r1 k (by omega)
  have r2 := r2 k (by omega)
  have e := e k (by omega)
  simp only at r1 r2 e
  have c3 : ¬ kk < 0 := by omega
  have c4 : ¬ (s.length : Int) ≤ kk := by omega
  simp only [f40_eq]
  simp only [Option.bind_some, decide_eq_true_eq, decide_eq_false_iff_not, Bool.not_eq_true', Bool.not_true, Bool.not_false, Bool.false_eq_true, Bool.true_eq_false, Bool.not_eq_eq_eq_not, beq_self_eq_true, beqFT, beqTF, decide_true, decide_false, not_false_eq_true, not_true_eq_false, ne_eq, true_and, and_true, false_and, and_false, and_self, if_true, if_false, ite_true, ite_false, Bool.and_true, Bool.and_false, Bool.true_and, Bool.false_and, Bool.or_true, Bool.true_or, Bool.or_false, Bool.false_or, or_true, true_or, or_false, false_or, or_self, AV.asInt, AV.asBool, AV.asSl, AV.asPtr, AV.asFn, AV.asStr, AV.asMap, AV.asIfc, AV.item, List.length_cons, List.length_nil, List.getElem?_cons_zero, List.getElem?_cons_succ, Nat.zero_add, r1, r2, c1, c3, wk, c4, e2, ln, e]
  rw [f40_X1111010_1]
end
end Go.Ab

/- What a wavelet matrix answers: below. -/
namespace Go.Ab
open Go Go.Proofs Go.Ab.Wd Go.Ab.Bs Go.Ab.Sai
set_option linter.unusedVariables false
set_option linter.unusedSimpArgs false
section
variable {σ : Store} {p : Ptr} {l : List Int} {w : Nat}
theorem below_run (m : Mat σ p l w) (a b c : Int) : Runs Try.prog 41 [.ptr p, .int .i64 a, .int .i64 b, .int .i64 c] σ (.int .i64 (Bs.cnt (fun x => decide (x < c)) (seg l a b) : Nat)) σ := by
  obtain ⟨k1, r1⟩ := within_run m a b
  obtain ⟨k2, r2⟩ := matLen_run m
  have sm := m.small
  by_cases c1 : (l.length : Int) ≤ segLo a
  · rw [seg_empty (by omega)]
    refine Runs.intro (fn := Try.f41) (by kernel_rfl) (by kernel_rfl) ⟨k1 + k2, fun k hk => ?_⟩
    have r1 := r1 k (by omega)
    have r2 := r2 k (by omega)
    simp only at r1 r2
    simp only [f41_eq]
    simp only [Option.bind_some, decide_eq_true_eq, decide_eq_false_iff_not, Bool.not_eq_true', Bool.not_true, Bool.not_false, Bool.false_eq_true, Bool.true_eq_false, Bool.not_eq_eq_eq_not, beq_self_eq_true, beqFT, beqTF, decide_true, decide_false, not_false_eq_true, not_true_eq_false, ne_eq, true_and, and_true, false_and, and_false, and_self, if_true, if_false, ite_true, ite_false, Bool.and_true, Bool.and_false, Bool.true_and, Bool.false_and, Bool.or_true, Bool.true_or, Bool.or_false, Bool.false_or, or_true, true_or, or_false, false_or, or_self, AV.asInt, AV.asBool, AV.asSl, AV.asPtr, AV.asFn, AV.asStr, AV.asMap, AV.asIfc, AV.item, List.length_cons, List.length_nil, List.getElem?_cons_zero, List.getElem?_cons_succ, Nat.zero_add, r1, r2, c1]
    rfl
  obtain ⟨s1, s2, s3⟩ := seg_length (l := l) (a := a) (b := b) (by omega)
  have wk : IntKind.wrap .i64 ((segHi l a b : Int) - segLo a) = ((seg l a b).length : Int) := by rw [wrap64 (by omega) (by omega)]; omega
  obtain ⟨s, hs⟩ : ∃ s, s = seg l a b := ⟨_, rfl⟩
  rw [← hs] at s1 wk ⊢
  have sw : ∀ x ∈ s, x.toNat < 2 ^ w := fun x hx => m.nat x (seg_mem (hs ▸ hx))
  have s0 : ∀ x ∈ s, 0 ≤ x := fun x hx => (m.rng x (seg_mem (hs ▸ hx))).1
  by_cases c2 : c ≤ 0
  · have : Bs.cnt (fun x => decide (x < c)) s = 0 := by
      unfold Bs.cnt; rw [List.filter_eq_nil_iff.2]
      · rfl
      · intro x hx; have := s0 x hx; simp; omega
    rw [this]
    refine Runs.intro (fn := Try.f41) (by kernel_rfl) (by kernel_rfl) ⟨k1 + k2, fun k hk => ?_⟩
    have r1 := r1 k (by omega)
    have r2 := r2 k (by omega)
    simp only at r1 r2
    simp only [f41_eq]
    simp only [Option.bind_some, decide_eq_true_eq, decide_eq_false_iff_not, Bool.not_eq_true', Bool.not_true, Bool.not_false, Bool.false_eq_true, Bool.true_eq_false, Bool.not_eq_eq_eq_not, beq_self_eq_true, beqFT, beqTF, decide_true, decide_false, not_false_eq_true, not_true_eq_false, ne_eq, true_and, and_true, false_and, and_false, and_self, if_true, if_false, ite_true, ite_false, Bool.and_true, Bool.and_false, Bool.true_and, Bool.false_and, Bool.or_true, Bool.true_or, Bool.or_false, Bool.false_or, or_true, true_or, or_false, false_or, or_self, AV.asInt, AV.asBool, AV.asSl, AV.asPtr, AV.asFn, AV.asStr, AV.asMap, AV.asIfc, AV.item, List.length_cons, List.length_nil, List.getElem?_cons_zero, List.getElem?_cons_succ, Nat.zero_add, r1, r2, c1, c2]
    rfl
  obtain ⟨k3, r3⟩ := has_run m c
  by_cases c3 : 0 ≤ c ∧ c.toNat < 2 ^ w
  case neg =>
    have : Bs.cnt (fun x => decide (x < c)) s = s.length := by
      unfold Bs.cnt; rw [List.filter_eq_self.2]
      intro x hx
      have h1 := sw x hx
      have h2 : ¬ c.toNat < 2 ^ w := fun h => c3 ⟨by omega, h⟩
      simp; omega
    rw [this]
    rw [decide_eq_false c3] at r3
    refine Runs.intro (fn := Try.f41) (by kernel_rfl) (by kernel_rfl) ⟨k1 + k2 + k3, fun k hk => ?_⟩
    have r1 := r1 k (by omega)
    have r2 := r2 k (by omega)
    have r3 := r3 k (by omega)
    simp only at r1 r2 r3
    simp only [f41_eq]
    simp only [Option.bind_some, decide_eq_true_eq, decide_eq_false_iff_not, Bool.not_eq_true', Bool.not_true, Bool.not_false, Bool.false_eq_true, Bool.true_eq_false, Bool.not_eq_eq_eq_not, beq_self_eq_true, beqFT, beqTF, decide_true, decide_false, not_false_eq_true, not_true_eq_false, ne_eq, true_and, and_true, false_and, and_false, and_self, if_true, if_false, ite_true, ite_false, Bool.and_true, Bool.and_false, Bool.true_and, Bool.false_and, Bool.or_true, Bool.true_or, Bool.or_false, Bool.false_or, or_true, true_or, or_false, false_or, or_self, AV.asInt, AV.asBool, AV.asSl, AV.asPtr, AV.asFn, AV.asStr, AV.asMap, AV.asIfc, AV.item, List.length_cons, List.length_nil, List.getElem?_cons_zero, List.getElem?_cons_succ, Nat.zero_add, r1, r2, c1, c2, r3, wk]
  rw [decide_eq_true c3] at r3
  obtain ⟨c0, cw⟩ := c3
  obtain ⟨bb, hl, rfl, e0, e1, e2, ln, V⟩ := m.facts
  have hw := m.wid
  have p24 : 2 ^ w ≤ 2 ^ 24 := Nat.pow_le_pow_right (by omega) hw.2
  have sl : s.length ≤ 4194304 := by omega
  obtain ⟨r, e, rfl⟩ := EvI.up (f := fun k s => stepF Try.prog (gm Try.prog k) drawn k Try.f41 [1, 1, 1, 1, 0, 1, 0] [42, 41, 40, 9, 3, 2, 1, 0] s) w
    (fun j st => ∃ x : Nat, st = ([.int .i64 j, .int .i64 w, .slice hl, .int .i64 (Bs.cnt (fun y => decide (y.toNat / 2 ^ (w - j) < c.toNat / 2 ^ (w - j))) s : Nat), .int .i64 c, .int .i64 (x + (s.filter (pre (w - j) (c.toNat / 2 ^ (w - j)))).length : Nat), .int .i64 (x : Nat), .ptr (some (bb, 0))], σ) ∧ j ≤ w ∧
      Part (Bs.rowAt w l (w - j)) x (s.filter (pre (w - j) (c.toNat / 2 ^ (w - j)))))
    (fun r => r = (AX.exit 1, [(9, .int .i64 (Bs.cnt (fun x => decide (x < c)) s : Nat))], σ))
    (by
      rintro j st hj ⟨x, rfl, _, P⟩
      obtain ⟨k, hk⟩ : ∃ k, w = j + (k + 1) := ⟨w - j - 1, by omega⟩
      rw [show w - j = k + 1 by omega] at P ⊢
      rw [show w - (j + 1) = k by omega]
      obtain ⟨lv, llv, vq⟩ := V j hj
      have j0 : (0 : Int) ≤ j := by omega
      have j1 : (j : Int) < w := by omega
      have j2 : (j : Int) < hl.len := by omega
      have w1 := wsucc hj (by omega)
      have st0 := P.step (by omega) false
      have st1 := P.step (by omega) (bitb k c)
      rw [← lev_eq l hk] at st0 st1
      rw [← div_bit c k] at st1
      have hbit := div_bit c k
      simp only [bn, Bool.false_eq_true, if_false, Nat.add_zero] at st0
      have P0 := P.le
      rw [rowAt_length] at P0
      have gl0 := goto_le (lev w l j) x false
      rw [lev_length] at gl0
      obtain ⟨n1, r1⟩ := vec_zeros vq (x + (s.filter (pre (k + 1) (c.toNat / 2 ^ (k + 1)))).length : Nat)
      obtain ⟨n2, r2⟩ := vec_zeros vq (x : Nat)
      obtain ⟨n3, r3⟩ := down_run vq (x : Nat) (bitb k c)
      obtain ⟨n4, r4⟩ := down_run vq (x + (s.filter (pre (k + 1) (c.toNat / 2 ^ (k + 1)))).length : Nat) (bitb k c)
      rw [Int.toNat_natCast] at r1 r2 r3 r4
      rw [zeros_goto] at r1 r2
      rw [st0.2] at r1
      rw [st1.2] at r4
      have wk : IntKind.wrap .i64 (IntKind.wrap .i64 ((w : Int) - 1) - j) = (k : Nat) := by rw [wrap64 (x := (w : Int) - 1) (by omega) (by omega), wrap64 (by omega) (by omega)]; omega
      have k0 : (0 : Int) ≤ (k : Nat) := by omega
      refine .intro ([.int .i64 (j + 1 : Nat), .int .i64 w, .slice hl, .int .i64 (Bs.cnt (fun y => decide (y.toNat / 2 ^ k < c.toNat / 2 ^ k)) s : Nat), .int .i64 c, .int .i64 (goto (lev w l j) x (bitb k c) + (s.filter (pre k (c.toNat / 2 ^ k))).length : Nat), .int .i64 (goto (lev w l j) x (bitb k c) : Nat), .ptr (some (bb, 0))], σ) ⟨⟨n1 + n2 + n3 + n4, fun m' hm => ?_⟩, goto (lev w l j) x (bitb k c), rfl, by omega, st1.1⟩
      have r1 := r1 m' (by omega)
      have r2 := r2 m' (by omega)
      have r3 := r3 m' (by omega)
      have r4 := r4 m' (by omega)
      simp only at r1 r2 r3 r4
      simp only [f41_L1111010]
      cases hb : bitb k c with
      | true =>
        have bt' := bit_on c0 (by omega) (by omega) hb
        have bt := decide_eq_true bt'
        rw [hb] at r3 r4
        simp only [hb, bn, if_true] at hbit
        obtain ⟨z, hz⟩ : ∃ z, z = (s.filter (pre k (2 * (c.toNat / 2 ^ (k + 1))))).length := ⟨_, rfl⟩
        have zl := List.length_filter_le (pre k (2 * (c.toNat / 2 ^ (k + 1)))) s
        have wz : IntKind.wrap .i64 (((goto (lev w l j) x false + (s.filter (pre k (2 * (c.toNat / 2 ^ (k + 1))))).length : Nat) : Int) - (goto (lev w l j) x false : Nat)) = (z : Int) := by rw [← hz, wrap64 (by omega) (by omega)]; omega
        have ob := below_one_bit k (c.toNat / 2 ^ (k + 1)) s
        rw [← hbit, ← hz] at ob
        have cl := cnt_le (fun y => decide (y.toNat / 2 ^ (k + 1) < c.toNat / 2 ^ (k + 1))) s
        have wn : IntKind.wrap .i64 ((Bs.cnt (fun y => decide (y.toNat / 2 ^ (k + 1) < c.toNat / 2 ^ (k + 1))) s : Nat) + (z : Int)) = (Bs.cnt (fun y => decide (y.toNat / 2 ^ k < c.toNat / 2 ^ k)) s : Nat) := by rw [wrap64 (by omega) (by omega), ob]; omega
        simp only [Option.bind_some, decide_eq_true_eq, decide_eq_false_iff_not, Bool.not_eq_true', Bool.not_true, Bool.not_false, Bool.false_eq_true, Bool.true_eq_false, Bool.not_eq_eq_eq_not, beq_self_eq_true, beqFT, beqTF, decide_true, decide_false, not_false_eq_true, not_true_eq_false, ne_eq, true_and, and_true, false_and, and_false, and_self, if_true, if_false, ite_true, ite_false, Bool.and_true, Bool.and_false, Bool.true_and, Bool.false_and, Bool.or_true, Bool.true_or, Bool.or_false, Bool.false_or, or_true, true_or, or_false, false_or, or_self, AV.asInt, AV.asBool, AV.asSl, AV.asPtr, AV.asFn, AV.asStr, AV.asMap, AV.asIfc, AV.item, List.length_cons, List.length_nil, List.getElem?_cons_zero, List.getElem?_cons_succ, Nat.zero_add, j0, j1, j2, llv, e1, wk, k0, bt, bt', r1, r2, wz, wn, r3, r4, w1]
      | false =>
        have bt' := bit_off c0 (by omega) (by omega) hb
        have bt := decide_eq_false bt'
        rw [hb] at r3 r4
        simp only [hb, bn, Bool.false_eq_true, if_false, Nat.add_zero] at hbit
        have ob := below_zero_bit k (c.toNat / 2 ^ (k + 1)) s
        rw [← hbit] at ob
        simp only [Option.bind_some, decide_eq_true_eq, decide_eq_false_iff_not, Bool.not_eq_true', Bool.not_true, Bool.not_false, Bool.false_eq_true, Bool.true_eq_false, Bool.not_eq_eq_eq_not, beq_self_eq_true, beqFT, beqTF, decide_true, decide_false, not_false_eq_true, not_true_eq_false, ne_eq, true_and, and_true, false_and, and_false, and_self, if_true, if_false, ite_true, ite_false, Bool.and_true, Bool.and_false, Bool.true_and, Bool.false_and, Bool.or_true, Bool.true_or, Bool.or_false, Bool.false_or, or_true, true_or, or_false, false_or, or_self, AV.asInt, AV.asBool, AV.asSl, AV.asPtr, AV.asFn, AV.asStr, AV.asMap, AV.asIfc, AV.item, List.length_cons, List.length_nil, List.getElem?_cons_zero, List.getElem?_cons_succ, Nat.zero_add, j0, j1, j2, llv, e1, wk, k0, bt, bt', r3, r4, ob, w1])
    (by
      rintro st ⟨x, rfl, _, P⟩
      have hb : Bs.cnt (fun y => decide (y.toNat / 2 ^ (w - w) < c.toNat / 2 ^ (w - w))) s = Bs.cnt (fun x => decide (x < c)) s := cnt_congr fun x hx => by
        have := s0 x hx
        rw [Nat.sub_self, Nat.pow_zero, Nat.div_one, Nat.div_one]; congr 1; exact propext (by omega)
      exact ⟨(AX.exit 1, [(9, .int .i64 (Bs.cnt (fun x => decide (x < c)) s : Nat))], σ), Ev.of fun k => by simp only [f41_L1111010]; simp only [Option.bind_some, decide_eq_true_eq, decide_eq_false_iff_not, Bool.not_eq_true', Bool.not_true, Bool.not_false, Bool.false_eq_true, Bool.true_eq_false, Bool.not_eq_eq_eq_not, beq_self_eq_true, beqFT, beqTF, decide_true, decide_false, not_false_eq_true, not_true_eq_false, ne_eq, true_and, and_true, false_and, and_false, and_self, if_true, if_false, ite_true, ite_false, Bool.and_true, Bool.and_false, Bool.true_and, Bool.false_and, Bool.or_true, Bool.true_or, Bool.or_false, Bool.false_or, or_true, true_or, or_false, false_or, or_self, AV.asInt, AV.asBool, AV.asSl, AV.asPtr, AV.asFn, AV.asStr, AV.asMap, AV.asIfc, AV.item, List.length_cons, List.length_nil, List.getElem?_cons_zero, List.getElem?_cons_succ, Nat.zero_add, Int.lt_irrefl, hb], rfl⟩)
    (s := ([.int .i64 0, .int .i64 w, .slice hl, .int .i64 0, .int .i64 c, .int .i64 (segHi l a b), .int .i64 (segLo a), .ptr (some (bb, 0))], σ))
    ⟨segLo a, by
      rw [Nat.sub_zero, Nat.div_eq_of_lt cw, below_all sw, List.filter_eq_self.2 fun x hx => pre_top (sw x hx), s1, show segLo a + (segHi l a b - segLo a) = segHi l a b by omega]; rfl, by omega, by
      rw [Nat.sub_zero, Nat.div_eq_of_lt cw, hs]; exact Part.top m.nat s2 s3⟩
  obtain ⟨n2, e⟩ := loopF_ev e
  refine Runs.intro (fn := Try.f41) (by kernel_rfl) (by kernel_rfl) ⟨k1 + k2 + k3 + n2, fun k hk => ?_⟩
  have r1 := r1 k (by omega)
  have r2 := r2 k (by omega)
  have r3 := r3 k (by omega)
  have e := e k (by omega)
  simp only at r1 r2 r3 e
  simp only [f41_eq]
  simp only [Option.bind_some, decide_eq_true_eq, decide_eq_false_iff_not, Bool.not_eq_true', Bool.not_true, Bool.not_false, Bool.false_eq_true, Bool.true_eq_false, Bool.not_eq_eq_eq_not, beq_self_eq_true, beqFT, beqTF, decide_true, decide_false, not_false_eq_true, not_true_eq_false, ne_eq, true_and, and_true, false_and, and_false, and_self, if_true, if_false, ite_true, ite_false, Bool.and_true, Bool.and_false, Bool.true_and, Bool.false_and, Bool.or_true, Bool.true_or, Bool.or_false, Bool.false_or, or_true, true_or, or_false, false_or, or_self, AV.asInt, AV.asBool, AV.asSl, AV.asPtr, AV.asFn, AV.asStr, AV.asMap, AV.asIfc, AV.item, List.length_cons, List.length_nil, List.getElem?_cons_zero, List.getElem?_cons_succ, Nat.zero_add, r1, r2, c1, c2, r3, e2, ln, e]
  rw [f41_X1111010_1]
end
end Go.Ab

/- A matrix of a row, by the laws. -/
namespace Go.Ab
open Go Go.Proofs Go.Ab.Wd Go.Ab.Bs Go.Ab.Sai
set_option linter.unusedVariables false
set_option linter.unusedSimpArgs false
theorem Grow.stX {σ : Store} {n : Nat} {h : Hdl} {l : List AV} (g : Grow σ n h 1 l) (hp : σ.prot ≤ n) {i : Int} (h0 : 0 ≤ i) (h1 : i < l.length) {v : AV} (hv : v.one = true) :
    ∃ σ', σ.stL (h.idx i 1) [v] 0 = some σ' ∧ Kp n σ σ' ∧ Grow σ' n h 1 (l.set i.toNat v) ∧ σ'.objs.length = σ.objs.length ∧ ∀ x, h.row ≠ some x → σ'.objs[x]? = σ.objs[x]? := by
  have hl := g.len
  cases ha : h.a with
  | none => have := g.own.nil ha; omega
  | some bo =>
    obtain ⟨b, o⟩ := bo
    obtain ⟨hb, cs, k1, k2, k3⟩ := g.own.own b o ha
    have hbl : b < σ.objs.length := (List.getElem?_eq_some_iff.1 k1).1
    obtain ⟨σ', e, off, s', w'⟩ := st_spec g.sl ⟨b, o, cs, ha, k1, by omega⟩ h0 h1 hv (b := b) (by simp [Hdl.row, ha])
    have e2 : σ.stL (h.idx i 1) [v] 0 = some (σ.setO b (.cells (cs.set (o + i.toNat) v) true 1)) := by
      rw [stL_one]
      simp only [Hdl.idx, Ptr.add, ha, Option.map_some, Nat.mul_one, Store.st, k1]
      rw [if_pos ⟨⟨by omega, by omega⟩, hv⟩]
      rfl
    rw [e2] at e
    injection e with e
    refine ⟨_, e2, (Kp.refl n σ).setO hb, ⟨by rw [e]; exact s', ⟨fun b' o' e' => ?_, g.own.nil⟩⟩, by simp, fun x hx => by show (σ.objs.set b _)[x]? = _; rw [List.getElem?_set, if_neg (fun e => hx (by simp [Hdl.row, ha, e]))]⟩
    rw [ha] at e'; injection e' with e'; injection e' with e1 e2; subst e1 e2
    exact ⟨hb, _, Store.Row.setO_eq hbl, by simpa using k2, fun c hc => by simpa using k3 c hc⟩
theorem first13_told (σ : Store) : Runs Try.prog 26 [] σ (.bool true) σ := Runs.told (f := fun args σ => match args with | [] => some (.bool true, σ) | _ => none) (by kernel_rfl) rfl
theorem right13_run {σ : Store} {h : Hdl} {t : List Int} {al : Int} (hT : σ.Ints h t) (hn : t.length ≤ 4194304) : Runs Try.prog 28 [.slice h, .int .i64 al] σ (.bool (okW t al)) σ := by
  obtain ⟨k1, r1⟩ := right_run (al := al + 1) hT (by omega)
  by_cases c0 : 0 ≤ al
  · by_cases c1 : al < 4194304
    · have w1 : IntKind.wrap .i64 (al + 1) = al + 1 := wrap64 (by omega) (by omega)
      have e : okT t (al + 1) = okW t al := by
        rw [Bool.eq_iff_iff, okT_iff, okW_iff]
        exact ⟨fun ⟨a, b, c, d⟩ => ⟨c0, c1, hn, fun x hx => by have := d x hx; omega⟩, fun ⟨a, b, c, d⟩ => ⟨by omega, by omega, hn, fun x hx => by have := d x hx; omega⟩⟩
      rw [e] at r1
      refine Runs.intro (fn := Try.f28) (by kernel_rfl) (by kernel_rfl) ⟨k1, fun k hk => ?_⟩
      have r1 := r1 k hk
      simp only at r1
      simp only [f28_eq]
      simp only [Option.bind_some, decide_eq_true_eq, decide_eq_false_iff_not, Bool.not_eq_true', Bool.not_true, Bool.not_false, Bool.false_eq_true, Bool.true_eq_false, Bool.not_eq_eq_eq_not, beq_self_eq_true, beqFT, beqTF, decide_true, decide_false, not_false_eq_true, not_true_eq_false, ne_eq, true_and, and_true, false_and, and_false, and_self, if_true, if_false, ite_true, ite_false, Bool.and_true, Bool.and_false, Bool.true_and, Bool.false_and, Bool.or_true, Bool.true_or, Bool.or_false, Bool.false_or, or_true, true_or, or_false, false_or, or_self, AV.asInt, AV.asBool, AV.asSl, AV.asPtr, AV.asFn, AV.asStr, AV.asMap, AV.asIfc, AV.item, List.length_cons, List.length_nil, List.getElem?_cons_zero, List.getElem?_cons_succ, Nat.zero_add, c0, c1, w1, r1]
    · have : okW t al = false := by simp only [okW, c1]; simp
      rw [this]
      exact Runs.intro (fn := Try.f28) (by kernel_rfl) (by kernel_rfl) (Ev.of fun k => by simp only [f28_eq]; simp only [Option.bind_some, decide_eq_true_eq, decide_eq_false_iff_not, Bool.not_eq_true', Bool.not_true, Bool.not_false, Bool.false_eq_true, Bool.true_eq_false, Bool.not_eq_eq_eq_not, beq_self_eq_true, beqFT, beqTF, decide_true, decide_false, not_false_eq_true, not_true_eq_false, ne_eq, true_and, and_true, false_and, and_false, and_self, if_true, if_false, ite_true, ite_false, Bool.and_true, Bool.and_false, Bool.true_and, Bool.false_and, Bool.or_true, Bool.true_or, Bool.or_false, Bool.false_or, or_true, true_or, or_false, false_or, or_self, AV.asInt, AV.asBool, AV.asSl, AV.asPtr, AV.asFn, AV.asStr, AV.asMap, AV.asIfc, AV.item, List.length_cons, List.length_nil, List.getElem?_cons_zero, List.getElem?_cons_succ, Nat.zero_add, c0, c1])
  · have : okW t al = false := by simp only [okW, c0]; simp
    rw [this]
    exact Runs.intro (fn := Try.f28) (by kernel_rfl) (by kernel_rfl) (Ev.of fun k => by simp only [f28_eq]; simp only [Option.bind_some, decide_eq_true_eq, decide_eq_false_iff_not, Bool.not_eq_true', Bool.not_true, Bool.not_false, Bool.false_eq_true, Bool.true_eq_false, Bool.not_eq_eq_eq_not, beq_self_eq_true, beqFT, beqTF, decide_true, decide_false, not_false_eq_true, not_true_eq_false, ne_eq, true_and, and_true, false_and, and_false, and_self, if_true, if_false, ite_true, ite_false, Bool.and_true, Bool.and_false, Bool.true_and, Bool.false_and, Bool.or_true, Bool.true_or, Bool.or_false, Bool.false_or, or_true, true_or, or_false, false_or, or_self, AV.asInt, AV.asBool, AV.asSl, AV.asPtr, AV.asFn, AV.asStr, AV.asMap, AV.asIfc, AV.item, List.length_cons, List.length_nil, List.getElem?_cons_zero, List.getElem?_cons_succ, Nat.zero_add, c0])
/-- A row is filled with noughts. -/
theorem made_loop {σ : Store} {n0 : Nat} {h : Hdl} {l : List Int} {e : Int} {p : Ptr} (g : GrowI σ n0 h l) (hp : σ.prot ≤ n0) (hn : l.length < 2 ^ 40) :
    ∃ σ', EvI (fun k s => stepF Try.prog (gm Try.prog k) drawn k Try.f27 [1, 1, 1, 0, 1, 0] [21, 20, 8, 7, 6] s) ([.int .i64 0, .int .i64 l.length, .int .i64 e, .ptr p, .slice h], σ) (AX.exit 0, [(8, .int .i64 e), (7, .ptr p)], σ') ∧
      Kp n0 σ σ' ∧ σ'.objs.length = σ.objs.length ∧ ∀ x, h.row ≠ some x → σ'.objs[x]? = σ.objs[x]? := by
  have lh := g.ints.ilen
  obtain ⟨r, ev, σ', rfl, K, L, F⟩ := EvI.up (f := fun k s => stepF Try.prog (gm Try.prog k) drawn k Try.f27 [1, 1, 1, 0, 1, 0] [21, 20, 8, 7, 6] s) l.length
    (fun i s => ∃ l' s1, s = ([.int .i64 i, .int .i64 l.length, .int .i64 e, .ptr p, .slice h], s1) ∧ Kp n0 σ s1 ∧ GrowI s1 n0 h l' ∧ l'.length = l.length ∧ s1.objs.length = σ.objs.length ∧ ∀ x, h.row ≠ some x → s1.objs[x]? = σ.objs[x]?)
    (fun r => ∃ s1, r = (AX.exit 0, [(8, .int .i64 e), (7, .ptr p)], s1) ∧ Kp n0 σ s1 ∧ s1.objs.length = σ.objs.length ∧ ∀ x, h.row ≠ some x → s1.objs[x]? = σ.objs[x]?)
    (by
      rintro i s hi ⟨l', s1, rfl, kk, g1, ll, L1, F1⟩
      have i0 : (0 : Int) ≤ i := by omega
      have i1 : (i : Int) < l.length := by omega
      have w := wsucc hi (by omega)
      obtain ⟨s2, e2, k2, g2, L2, F2⟩ := Grow.stX g1 (by rw [kk.prot]; exact hp) i0 (by simp; omega) (v := .int .i64 0) rfl
      rw [show (intsL l').set (i : Int).toNat (.int .i64 0) = intsL (l'.set i 0) by simp [intsL, List.map_set]] at g2
      refine ⟨_, Ev.of fun k => by simp only [f27_L111010]; simp only [Option.bind_some, decide_eq_true_eq, decide_eq_false_iff_not, Bool.not_eq_true', Bool.not_true, Bool.not_false, Bool.false_eq_true, Bool.true_eq_false, Bool.not_eq_eq_eq_not, beq_self_eq_true, beqFT, beqTF, decide_true, decide_false, not_false_eq_true, not_true_eq_false, ne_eq, true_and, and_true, false_and, and_false, and_self, if_true, if_false, ite_true, ite_false, Bool.and_true, Bool.and_false, Bool.true_and, Bool.false_and, Bool.or_true, Bool.true_or, Bool.or_false, Bool.false_or, or_true, true_or, or_false, false_or, or_self, AV.asInt, AV.asBool, AV.asSl, AV.asPtr, AV.asFn, AV.asStr, AV.asMap, AV.asIfc, AV.item, List.length_cons, List.length_nil, List.getElem?_cons_zero, List.getElem?_cons_succ, Nat.zero_add, lh, i0, i1, e2, w], l'.set i 0, s2, rfl, kk.trans k2, g2, by simpa using ll, by rw [L2, L1], fun x hx => ?_⟩
      rw [F2 x hx, F1 x hx])
    (by
      rintro s ⟨l', s1, rfl, kk, g1, ll, L1, F1⟩
      exact ⟨(AX.exit 0, [(8, .int .i64 e), (7, .ptr p)], s1), Ev.of fun k => by simp only [f27_L111010]; simp only [Option.bind_some, decide_eq_true_eq, decide_eq_false_iff_not, Bool.not_eq_true', Bool.not_true, Bool.not_false, Bool.false_eq_true, Bool.true_eq_false, Bool.not_eq_eq_eq_not, beq_self_eq_true, beqFT, beqTF, decide_true, decide_false, not_false_eq_true, not_true_eq_false, ne_eq, true_and, and_true, false_and, and_false, and_self, if_true, if_false, ite_true, ite_false, Bool.and_true, Bool.and_false, Bool.true_and, Bool.false_and, Bool.or_true, Bool.true_or, Bool.or_false, Bool.false_or, or_true, true_or, or_false, false_or, or_self, AV.asInt, AV.asBool, AV.asSl, AV.asPtr, AV.asFn, AV.asStr, AV.asMap, AV.asIfc, AV.item, List.length_cons, List.length_nil, List.getElem?_cons_zero, List.getElem?_cons_succ, Nat.zero_add, Int.lt_irrefl], s1, rfl, kk, L1, F1⟩)
    (s := ([.int .i64 0, .int .i64 l.length, .int .i64 e, .ptr p, .slice h], σ)) ⟨l, σ, rfl, Kp.refl _ _, g, rfl, rfl, fun _ _ => rfl⟩
  exact ⟨σ', ev, K, L, F⟩
theorem made_bad {σ : Store} {h : Hdl} {l : List Int} {most : Int} (hT : σ.Ints h l) (hp : σ.prot ≤ σ.objs.length) (hn : l.length < 2 ^ 40) (hb : okW l most = false) :
    ∃ σ', Runs Try.prog 27 [.slice h, .int .i64 most] σ (.tuple [.ptr none, .bool false]) σ' ∧ Kp σ.objs.length σ σ' := by
  obtain ⟨h1, σ1, e1, e2, K1, G1⟩ := copy_app (bs := 8) hT hp (intsL_one _) (by omega) (by simp; omega)
  obtain ⟨σ2, ⟨k2, r2⟩, K2⟩ := waveNew_bad (most := most) G1.ints (by rw [K1.prot]; have := K1.len; omega) (by omega) hb
  have l1 := G1.ints.ilen
  obtain ⟨σ3, ev, K3, _, _⟩ := made_loop (e := 2) (p := none) (G1.kp K2) (by rw [K2.prot, K1.prot]; exact hp) hn
  obtain ⟨n3, ev⟩ := loopF_ev ev
  refine ⟨σ3, Runs.intro (fn := Try.f27) (by kernel_rfl) (by kernel_rfl) ⟨k2 + n3, fun k hk => ?_⟩, (K1.all K2).trans K3⟩
  have r2 := r2 k (by omega)
  have ev := ev k (by omega)
  simp only at r2 ev
  simp only [f27_eq]
  simp only [Option.bind_some, decide_eq_true_eq, decide_eq_false_iff_not, Bool.not_eq_true', Bool.not_true, Bool.not_false, Bool.false_eq_true, Bool.true_eq_false, Bool.not_eq_eq_eq_not, beq_self_eq_true, beqFT, beqTF, decide_true, decide_false, not_false_eq_true, not_true_eq_false, ne_eq, true_and, and_true, false_and, and_false, and_self, if_true, if_false, ite_true, ite_false, Bool.and_true, Bool.and_false, Bool.true_and, Bool.false_and, Bool.or_true, Bool.true_or, Bool.or_false, Bool.false_or, or_true, true_or, or_false, false_or, or_self, AV.asInt, AV.asBool, AV.asSl, AV.asPtr, AV.asFn, AV.asStr, AV.asMap, AV.asIfc, AV.item, List.length_cons, List.length_nil, List.getElem?_cons_zero, List.getElem?_cons_succ, Nat.zero_add, e1, e2, r2, l1, ev]
  rw [f27_X111010_1]
  have : ¬ (2 : Int) = 0 := by omega
  simp only [this, decide_false]
theorem made_run {σ : Store} {h : Hdl} {l : List Int} {most : Int} (hT : σ.Ints h l) (hp : σ.prot ≤ σ.objs.length) (hok : okW l most = true) :
    ∃ p w σ', Runs Try.prog 27 [.slice h, .int .i64 most] σ (.tuple [.ptr p, .bool true]) σ' ∧ Kp σ.objs.length σ σ' ∧ Mat σ' p l w ∧ IsWid most.toNat w ∧ p.isNone = false := by
  obtain ⟨m0, m1, ln, hx⟩ := okW_iff.1 hok
  obtain ⟨h1, σ1, e1, e2, K1, G1⟩ := copy_app (bs := 8) hT hp (intsL_one _) (by omega) (by simp; omega)
  have hl1 := K1.len
  obtain ⟨p, w, σ2, ⟨k2, r2⟩, K2, M2, W, pn, fr⟩ := waveNew_run (most := most) G1.ints (by rw [K1.prot]; omega) hok
  have l1 := G1.ints.ilen
  have g1 : GrowI σ1 σ.objs.length h1 l := G1
  obtain ⟨σ3, ev, K3, L3, F3⟩ := made_loop (e := 0) (p := p) (g1.kp K2) (by rw [K2.prot, K1.prot]; exact hp) (by omega)
  obtain ⟨n3, ev⟩ := loopF_ev ev
  refine ⟨p, w, σ3, Runs.intro (fn := Try.f27) (by kernel_rfl) (by kernel_rfl) ⟨k2 + n3, fun k hk => ?_⟩, (K1.all K2).trans K3, fr σ3 fun x hx => F3 x fun e => ?_, W, pn⟩
  · have r2 := r2 k (by omega)
    have ev := ev k (by omega)
    simp only at r2 ev
    simp only [f27_eq]
    simp only [Option.bind_some, decide_eq_true_eq, decide_eq_false_iff_not, Bool.not_eq_true', Bool.not_true, Bool.not_false, Bool.false_eq_true, Bool.true_eq_false, Bool.not_eq_eq_eq_not, beq_self_eq_true, beqFT, beqTF, decide_true, decide_false, not_false_eq_true, not_true_eq_false, ne_eq, true_and, and_true, false_and, and_false, and_self, if_true, if_false, ite_true, ite_false, Bool.and_true, Bool.and_false, Bool.true_and, Bool.false_and, Bool.or_true, Bool.true_or, Bool.or_false, Bool.false_or, or_true, true_or, or_false, false_or, or_self, AV.asInt, AV.asBool, AV.asSl, AV.asPtr, AV.asFn, AV.asStr, AV.asMap, AV.asIfc, AV.item, List.length_cons, List.length_nil, List.getElem?_cons_zero, List.getElem?_cons_succ, Nat.zero_add, e1, e2, r2, l1, ev]
    rw [f27_X111010_1]
    simp only [decide_true]
  · have := g1.has x e; omega
end Go.Ab

/- What a wavelet matrix answers: the numbers there are. -/
namespace Go.Ab
open Go Go.Proofs Go.Ab.Wd Go.Ab.Bs Go.Ab.Sai
set_option linter.unusedVariables false
set_option linter.unusedSimpArgs false
/-- The numbers from one on, n of them, that are there, and how often. -/
def dis (s : List Int) (lo n : Nat) : List (Int × Int) := ((List.range' lo n).filter fun v : Nat => decide (0 < Bs.cnt (fun x => decide (x = (v : Int))) s)).map fun v : Nat => ((v : Int), ((Bs.cnt (fun x => decide (x = (v : Int))) s : Nat) : Int))
theorem dis_split (s : List Int) (lo a b : Nat) : dis s lo (a + b) = dis s lo a ++ dis s (lo + a) b := by
  unfold dis
  rw [← List.map_append, ← List.filter_append]
  rw [List.range'_append_1]
theorem dis_none {s : List Int} {lo n : Nat} (h : ∀ x ∈ s, ¬ (lo ≤ x.toNat ∧ x.toNat < lo + n)) : dis s lo n = [] := by
  unfold dis
  rw [List.filter_eq_nil_iff.2]
  · rfl
  · intro v hv
    simp only [List.mem_range'_1] at hv
    have : Bs.cnt (fun x => decide (x = (v : Int))) s = 0 := by
      unfold Bs.cnt; rw [List.filter_eq_nil_iff.2]
      · rfl
      · intro x hx; have := h x hx; simp; rintro rfl; simp at this; omega
    rw [this]; simp
def pairsL (l : List (Int × Int)) : List AV := l.flatMap fun p => [.int .i64 p.1, .int .i64 p.2]
theorem pairsL_append (a b : List (Int × Int)) : pairsL (a ++ b) = pairsL a ++ pairsL b := by simp [pairsL]
theorem pairsL_length (a : List (Int × Int)) : (pairsL a).length = a.length * 2 := by
  induction a with
  | nil => rfl
  | cons x a ih => rw [show pairsL (x :: a) = [.int .i64 x.1, .int .i64 x.2] ++ pairsL a by simp [pairsL], List.length_append, ih]; simp; omega
theorem read2 (σ : Store) (v u : AV) (cp : Option Nat) : Store.readSl (σ.push [v, u] 2) ⟨some (σ.objs.length, 0), 1, cp⟩ 2 = some [v, u] := by
  simp [Store.readSl, Store.push]
theorem dis_length (s : List Int) (lo n : Nat) : (dis s lo n).length ≤ n := by
  unfold dis; rw [List.length_map]; have := List.length_filter_le (fun v : Nat => decide (0 < Bs.cnt (fun x => decide (x = (v : Int))) s)) (List.range' lo n); rw [List.length_range'] at this; exact this
section
variable {σ0 : Store} {p : Ptr} {l s : List Int} {w : Nat}
theorem distinct_run (M : Mat σ0 p l w) (hp : σ0.prot ≤ σ0.objs.length) (hsl : s.length ≤ 4194304) (s0 : ∀ x ∈ s, 0 ≤ x) : ∀ (k : Nat) (σ : Store) (h : Hdl) (L : List (Int × Int)) (c a : Nat), k ≤ w → c < 2 ^ (w - k) → L.length ≤ c * 2 ^ k → Kp σ0.objs.length σ0 σ → Grow σ σ0.objs.length h 2 (pairsL L) → Part (Bs.rowAt w l k) a (s.filter (pre k c)) →
    ∃ h' σ', Runs Try.prog 66 [.ptr p, .slice h, .int .i64 (w - k : Nat), .int .i64 c, .int .i64 a, .int .i64 (a + (s.filter (pre k c)).length : Nat)] σ (.slice h') σ' ∧ Kp σ0.objs.length σ0 σ' ∧ Grow σ' σ0.objs.length h' 2 (pairsL (L ++ dis s (c * 2 ^ k) (2 ^ k))) := by
  intro k
  induction k with
  | zero =>
      intro σ h L c a hk hc hL K G P
      by_cases he : s.filter (pre 0 c) = []
      · have hd : dis s (c * 2 ^ 0) (2 ^ 0) = [] := dis_none fun x hx => by
          have h1 := List.filter_eq_nil_iff.1 he x hx
          simp only [pre, decide_eq_true_eq] at h1
          rintro ⟨h2, h3⟩
          apply h1
          exact Nat.div_eq_of_lt_le (by omega) (by rw [Nat.add_mul]; omega)
        rw [hd, List.append_nil, he]
        refine ⟨h, σ, Runs.intro (fn := Try.f66) (by kernel_rfl) (by kernel_rfl) (Ev.of fun m => ?_), K, G⟩
        simp only [f66_eq]
        simp only [Option.bind_some, decide_eq_true_eq, decide_eq_false_iff_not, Bool.not_eq_true', Bool.not_true, Bool.not_false, Bool.false_eq_true, Bool.true_eq_false, Bool.not_eq_eq_eq_not, beq_self_eq_true, beqFT, beqTF, decide_true, decide_false, not_false_eq_true, not_true_eq_false, ne_eq, true_and, and_true, false_and, and_false, and_self, if_true, if_false, ite_true, ite_false, Bool.and_true, Bool.and_false, Bool.true_and, Bool.false_and, Bool.or_true, Bool.true_or, Bool.or_false, Bool.false_or, or_true, true_or, or_false, false_or, or_self, AV.asInt, AV.asBool, AV.asSl, AV.asPtr, AV.asFn, AV.asStr, AV.asMap, AV.asIfc, AV.item, List.length_cons, List.length_nil, List.getElem?_cons_zero, List.getElem?_cons_succ, Nat.zero_add, Nat.add_zero]
      have hpos : 0 < (s.filter (pre 0 c)).length := List.length_pos_iff.2 he
      have M1 : Mat σ p l w := M.kp K
      have hlen := K.len
      have hpr : σ.prot ≤ σ0.objs.length := by rw [K.prot]; exact hp
      obtain ⟨b, hl, rfl, e0, e1, e2, ln, V⟩ := M1.facts
      have hw := M.wid
      have sm := M.small
      have P0 := P.le
      rw [rowAt_length] at P0
      have fl := List.length_filter_le (pre 0 c) s
      have ne : ¬ ((a : Nat) : Int) = (a + (s.filter (pre 0 c)).length : Nat) := by omega
      have pw : 2 ^ (w - 0) ≤ 2 ^ 24 := Nat.pow_le_pow_right (by omega) (by omega)
      have wd : IntKind.wrap .i64 (((a + (s.filter (pre 0 c)).length : Nat) : Int) - a) = ((s.filter (pre 0 c)).length : Nat) := by rw [wrap64 (by omega) (by omega)]; omega
      have hf := filt_nat s0 (c := (c : Int)) (by omega)
      rw [Int.toNat_natCast] at hf
      have hd : dis s (c * 2 ^ 0) (2 ^ 0) = [((c : Int), (((s.filter (pre 0 c)).length : Nat) : Int))] := by
        rw [hf] at hpos ⊢
        simp only [dis, Nat.pow_zero, Nat.mul_one, List.range'_one]
        rw [List.filter_cons_of_pos (by simpa using hpos)]; rfl
      rw [hd]
      have G1 := G.kp (Kp.push [.int .i64 c, .int .i64 ((s.filter (pre 0 c)).length : Nat)] 2 (Nat.le_refl _))
      have hh := G1.sl.len
      rw [pairsL_length] at hh
      obtain ⟨h', σ', ea, Ka, Sa, Oa, _, _⟩ := app_spec (xs := [.int .i64 c, .int .i64 ((s.filter (pre 0 c)).length : Nat)]) (by_ := 16) (m := 1) G1.sl G1.own (by simpa using hpr) (by simp; omega) (by omega) (by simp) rfl (by omega) (by simp at hL; omega)
      refine ⟨h', σ', Runs.intro (fn := Try.f66) (by kernel_rfl) (by kernel_rfl) (Ev.of fun m => ?_), ((K.then (Kp.push _ _ (Nat.le_refl _)) hlen).trans Ka), ⟨?_, Oa⟩⟩
      · simp only [f66_eq]
        simp only [Option.bind_some, decide_eq_true_eq, decide_eq_false_iff_not, Bool.not_eq_true', Bool.not_true, Bool.not_false, Bool.false_eq_true, Bool.true_eq_false, Bool.not_eq_eq_eq_not, beq_self_eq_true, beqFT, beqTF, decide_true, decide_false, not_false_eq_true, not_true_eq_false, ne_eq, true_and, and_true, false_and, and_false, and_self, if_true, if_false, ite_true, ite_false, Bool.and_true, Bool.and_false, Bool.true_and, Bool.false_and, Bool.or_true, Bool.true_or, Bool.or_false, Bool.false_or, or_true, true_or, or_false, false_or, or_self, AV.asInt, AV.asBool, AV.asSl, AV.asPtr, AV.asFn, AV.asStr, AV.asMap, AV.asIfc, AV.item, List.length_cons, List.length_nil, List.getElem?_cons_zero, List.getElem?_cons_succ, Nat.zero_add, ne, e1, Nat.sub_zero, wd, read2, ea]
      · rw [pairsL_append]; exact Sa
  | succ k ih =>
      intro σ h L c a hk hc hL K G P
      by_cases he : s.filter (pre (k + 1) c) = []
      · have hd : dis s (c * 2 ^ (k + 1)) (2 ^ (k + 1)) = [] := dis_none fun x hx => by
          have h1 := List.filter_eq_nil_iff.1 he x hx
          simp only [pre, decide_eq_true_eq] at h1
          rintro ⟨h2, h3⟩
          apply h1
          exact Nat.div_eq_of_lt_le (by omega) (by rw [Nat.add_mul]; omega)
        rw [hd, List.append_nil, he]
        refine ⟨h, σ, Runs.intro (fn := Try.f66) (by kernel_rfl) (by kernel_rfl) (Ev.of fun m => ?_), K, G⟩
        simp only [f66_eq]
        simp only [Option.bind_some, decide_eq_true_eq, decide_eq_false_iff_not, Bool.not_eq_true', Bool.not_true, Bool.not_false, Bool.false_eq_true, Bool.true_eq_false, Bool.not_eq_eq_eq_not, beq_self_eq_true, beqFT, beqTF, decide_true, decide_false, not_false_eq_true, not_true_eq_false, ne_eq, true_and, and_true, false_and, and_false, and_self, if_true, if_false, ite_true, ite_false, Bool.and_true, Bool.and_false, Bool.true_and, Bool.false_and, Bool.or_true, Bool.true_or, Bool.or_false, Bool.false_or, or_true, true_or, or_false, false_or, or_self, AV.asInt, AV.asBool, AV.asSl, AV.asPtr, AV.asFn, AV.asStr, AV.asMap, AV.asIfc, AV.item, List.length_cons, List.length_nil, List.getElem?_cons_zero, List.getElem?_cons_succ, Nat.zero_add, Nat.add_zero]
      have hpos : 0 < (s.filter (pre (k + 1) c)).length := List.length_pos_iff.2 he
      have M1 : Mat σ p l w := M.kp K
      have hlen := K.len
      have hpr : σ.prot ≤ σ0.objs.length := by rw [K.prot]; exact hp
      obtain ⟨b, hl, rfl, e0, e1, e2, ln, V⟩ := M1.facts
      have hw := M.wid
      have sm := M.small
      have P0 := P.le
      rw [rowAt_length] at P0
      have fl := List.length_filter_le (pre (k + 1) c) s
      have ne : ¬ ((a : Nat) : Int) = (a + (s.filter (pre (k + 1) c)).length : Nat) := by omega
      have pw : 2 ^ (w - (k + 1)) ≤ 2 ^ 24 := Nat.pow_le_pow_right (by omega) (by omega)
      have st0 := P.step (by omega) false
      have st1 := P.step (by omega) true
      obtain ⟨j, hj⟩ : ∃ j, w = j + (k + 1) := ⟨w - k - 1, by omega⟩
      rw [← lev_eq l hj] at st0 st1
      simp only [bn, Bool.false_eq_true, if_false, if_true, Nat.add_zero] at st0 st1
      rw [show w - (k + 1) = j by omega] at hc pw ⊢
      obtain ⟨lv, llv, vq⟩ := V j (by omega)
      obtain ⟨n1, r1⟩ := down_run vq (a : Nat) false
      obtain ⟨n2, r2⟩ := down_run vq (a + (s.filter (pre (k + 1) c)).length : Nat) false
      rw [Int.toNat_natCast] at r1 r2
      rw [st0.2] at r2
      have hwk : w - k = j + 1 := by omega
      have pe : 2 ^ (k + 1) = 2 ^ k + 2 ^ k := by rw [Nat.pow_succ]; omega
      have m1 : 2 * c * 2 ^ k = c * 2 ^ (k + 1) := by rw [Nat.pow_succ, Nat.mul_comm 2 c, Nat.mul_assoc, Nat.mul_comm 2 (2 ^ k)]
      have m2 : (2 * c + 1) * 2 ^ k = c * 2 ^ (k + 1) + 2 ^ k := by rw [Nat.add_mul, m1, Nat.one_mul]
      obtain ⟨h1, σ1, ⟨n3, r3⟩, K3, G3⟩ := ih σ h L (2 * c) (goto (lev w l j) a false) (by omega) (by rw [hwk, Nat.pow_succ]; omega) (by rw [m1]; exact hL) K G st0.1
      have M3 : Mat σ1 (some (b, 0)) l w := M.kp K3
      obtain ⟨b', hl', eb, e0', e1', e2', ln', V'⟩ := M3.facts
      injection eb with eb; injection eb with eb _; subst eb
      have K13 : σ1.ldSl (Ptr.add (some (b, 0)) 2) = some hl := by
        obtain ⟨bb, hb, ps, e, R, _⟩ := M.ex
        injection e with e; injection e with e _; subst e
        have u1 := row_sl (R.kp K R.lt) (o := 2) rfl
        have u2 := row_sl (R.kp K3 R.lt) (o := 2) rfl
        rw [u1] at e2; rw [u2, e2]
      have V3 : Vec σ1 lv (lev w l j) := by
        obtain ⟨bb, hb, ps, e, R, S, _, VV⟩ := M.ex
        injection e with e; injection e with e _; subst e
        have u1 := row_sl (R.kp K R.lt) (o := 2) rfl
        rw [u1] at e2; injection e2 with e2; subst e2
        obtain ⟨q, hq, vq0⟩ := VV j (by omega)
        have u3 := ptrs_rd (Store.Sl.kp S K) hq
        rw [u3] at llv; injection llv with llv; subst llv
        exact vq0.kp K3
      obtain ⟨n4, r4⟩ := down_run V3 (a : Nat) true
      obtain ⟨n5, r5⟩ := down_run V3 (a + (s.filter (pre (k + 1) c)).length : Nat) true
      rw [Int.toNat_natCast] at r4 r5
      rw [st1.2] at r5
      have dl := dis_length s (c * 2 ^ (k + 1)) (2 ^ k)
      rw [m1] at G3
      obtain ⟨h2, σ2, ⟨n6, r6⟩, K6, G6⟩ := ih σ1 h1 (L ++ dis s (c * 2 ^ (k + 1)) (2 ^ k)) (2 * c + 1) (goto (lev w l j) a true) (by omega) (by rw [hwk, Nat.pow_succ]; omega) (by rw [m2, List.length_append]; omega) K3 G3 st1.1
      rw [m2, List.append_assoc, ← dis_split, ← pe] at G6
      rw [hwk] at r3 r6
      refine ⟨h2, σ2, Runs.intro (fn := Try.f66) (by kernel_rfl) (by kernel_rfl) ⟨n1 + n2 + n3 + n4 + n5 + n6, fun m hm => ?_⟩, K6, G6⟩
      have r1 := r1 m (by omega)
      have r2 := r2 m (by omega)
      have r3 := r3 m (by omega)
      have r4 := r4 m (by omega)
      have r5 := r5 m (by omega)
      have r6 := r6 m (by omega)
      simp only at r1 r2 r3 r4 r5 r6
      have j0 : (0 : Int) ≤ j := by omega
      have j1 : (j : Int) < hl.len := by omega
      have jw : ¬ (j : Int) = w := by omega
      have w1 : IntKind.wrap .i64 ((j : Int) + 1) = ((j + 1 : Nat) : Int) := by rw [wrap64 (by omega) (by omega)]; omega
      have w2 : IntKind.wrap .i64 (2 * (c : Int)) = ((2 * c : Nat) : Int) := by rw [wrap64 (by omega) (by omega)]; omega
      have w3 : IntKind.wrap .i64 (((2 * c : Nat) : Int) + 1) = ((2 * c + 1 : Nat) : Int) := by rw [wrap64 (by omega) (by omega)]; omega
      simp only [f66_eq]
      simp only [Option.bind_some, decide_eq_true_eq, decide_eq_false_iff_not, Bool.not_eq_true', Bool.not_true, Bool.not_false, Bool.false_eq_true, Bool.true_eq_false, Bool.not_eq_eq_eq_not, beq_self_eq_true, beqFT, beqTF, decide_true, decide_false, not_false_eq_true, not_true_eq_false, ne_eq, true_and, and_true, false_and, and_false, and_self, if_true, if_false, ite_true, ite_false, Bool.and_true, Bool.and_false, Bool.true_and, Bool.false_and, Bool.or_true, Bool.true_or, Bool.or_false, Bool.false_or, or_true, true_or, or_false, false_or, or_self, AV.asInt, AV.asBool, AV.asSl, AV.asPtr, AV.asFn, AV.asStr, AV.asMap, AV.asIfc, AV.item, List.length_cons, List.length_nil, List.getElem?_cons_zero, List.getElem?_cons_succ, Nat.zero_add, ne, e1, jw, e2, j0, j1, llv, r1, r2, w1, w2, r3, r4, r5, w3, r6]
theorem matDistinct_run (M : Mat σ0 p l w) (hp : σ0.prot ≤ σ0.objs.length) (a b : Int) :
    ∃ h' σ', Runs Try.prog 43 [.ptr p, .int .i64 a, .int .i64 b] σ0 (.slice h') σ' ∧ Kp σ0.objs.length σ0 σ' ∧ Grow σ' σ0.objs.length h' 2 (pairsL (dis (seg l a b) 0 (2 ^ w))) := by
  obtain ⟨k1, r1⟩ := within_run M a b
  obtain ⟨k2, r2⟩ := matLen_run M
  have sm := M.small
  by_cases c1 : (l.length : Int) ≤ segLo a
  · rw [seg_empty (by omega), dis_none (by simp)]
    refine ⟨Hdl.nil, σ0, Runs.intro (fn := Try.f43) (by kernel_rfl) (by kernel_rfl) ⟨k1 + k2, fun k hk => ?_⟩, Kp.refl _ _, Grow.nil _ _ _⟩
    have r1 := r1 k (by omega)
    have r2 := r2 k (by omega)
    simp only at r1 r2
    simp only [f43_eq]
    simp only [Option.bind_some, decide_eq_true_eq, decide_eq_false_iff_not, Bool.not_eq_true', Bool.not_true, Bool.not_false, Bool.false_eq_true, Bool.true_eq_false, Bool.not_eq_eq_eq_not, beq_self_eq_true, beqFT, beqTF, decide_true, decide_false, not_false_eq_true, not_true_eq_false, ne_eq, true_and, and_true, false_and, and_false, and_self, if_true, if_false, ite_true, ite_false, Bool.and_true, Bool.and_false, Bool.true_and, Bool.false_and, Bool.or_true, Bool.true_or, Bool.or_false, Bool.false_or, or_true, true_or, or_false, false_or, or_self, AV.asInt, AV.asBool, AV.asSl, AV.asPtr, AV.asFn, AV.asStr, AV.asMap, AV.asIfc, AV.item, List.length_cons, List.length_nil, List.getElem?_cons_zero, List.getElem?_cons_succ, Nat.zero_add, r1, r2, c1]
  obtain ⟨s1, s2, s3⟩ := seg_length (l := l) (a := a) (b := b) (by omega)
  obtain ⟨s, hs⟩ : ∃ s, s = seg l a b := ⟨_, rfl⟩
  have sw : ∀ x ∈ s, x.toNat < 2 ^ w := fun x hx => M.nat x (seg_mem (hs ▸ hx))
  have s0 : ∀ x ∈ s, 0 ≤ x := fun x hx => (M.rng x (seg_mem (hs ▸ hx))).1
  have PT := Part.top (w := w) M.nat s2 s3
  rw [← hs] at s1 ⊢
  have hs' : s = (l.take (segHi l a b)).drop (segLo a) := hs
  rw [← hs'] at PT
  obtain ⟨h', σ', ⟨k3, r3⟩, K3, G3⟩ := distinct_run (s := s) M hp (by omega) s0 w σ0 Hdl.nil [] 0 (segLo a) (Nat.le_refl _) (by simp) (by simp) (Kp.refl _ _) (Grow.nil _ _ _) PT
  rw [Nat.zero_mul, List.nil_append] at G3
  rw [List.filter_eq_self.2 fun x hx => pre_top (sw x hx), s1, show segLo a + (segHi l a b - segLo a) = segHi l a b by omega, Nat.sub_self] at r3
  refine ⟨h', σ', Runs.intro (fn := Try.f43) (by kernel_rfl) (by kernel_rfl) ⟨k1 + k2 + k3, fun k hk => ?_⟩, K3, G3⟩
  have r1 := r1 k (by omega)
  have r2 := r2 k (by omega)
  have r3 := r3 k (by omega)
  simp only at r1 r2 r3
  simp only [f43_eq]
  simp only [Option.bind_some, decide_eq_true_eq, decide_eq_false_iff_not, Bool.not_eq_true', Bool.not_true, Bool.not_false, Bool.false_eq_true, Bool.true_eq_false, Bool.not_eq_eq_eq_not, beq_self_eq_true, beqFT, beqTF, decide_true, decide_false, not_false_eq_true, not_true_eq_false, ne_eq, true_and, and_true, false_and, and_false, and_self, if_true, if_false, ite_true, ite_false, Bool.and_true, Bool.and_false, Bool.true_and, Bool.false_and, Bool.or_true, Bool.true_or, Bool.or_false, Bool.false_or, or_true, true_or, or_false, false_or, or_self, AV.asInt, AV.asBool, AV.asSl, AV.asPtr, AV.asFn, AV.asStr, AV.asMap, AV.asIfc, AV.item, List.length_cons, List.length_nil, List.getElem?_cons_zero, List.getElem?_cons_succ, Nat.zero_add, r1, r2, c1]
  erw [r3]
  rfl
end
end Go.Ab

/- The law WaveSorts. -/
namespace Go.Ab
open Go Go.Proofs Go.Ab.Wd Go.Ab.Bs Go.Ab.Sai
set_option linter.unusedVariables false
set_option linter.unusedSimpArgs false
theorem cnt_lt_le {v u : Int} (h : v < u) (s : List Int) : Bs.cnt (fun x => decide (x < v)) s + Bs.cnt (fun x => decide (x = v)) s ≤ Bs.cnt (fun x => decide (x < u)) s := by
  induction s with
  | nil => simp [Bs.cnt]
  | cons x s ih =>
    simp only [Bs.cnt_cons, decide_eq_true_eq]
    split <;> split <;> split <;> omega
theorem seg_self {l : List Int} {a b : Nat} (hab : a ≤ b) (hb : b ≤ l.length) : seg l a b = (l.take b).drop a ∧ segLo (a : Int) = a ∧ segHi l a b = b := by
  have e1 : segLo (a : Int) = a := by unfold segLo; omega
  have e2 : segHi l a b = b := by unfold segHi; omega
  exact ⟨by unfold seg; rw [e1, e2], e1, e2⟩
theorem take_seg {l : List Int} {a b : Nat} (hab : a ≤ b) (hb : b ≤ l.length) : l.take b = l.take a ++ seg l a b := by
  rw [(seg_self hab hb).1]
  conv => lhs; rw [← List.take_append_drop a (l.take b)]
  rw [List.take_take, Nat.min_eq_left hab]
theorem law_WaveSorts {σ : Store} {h : Hdl} {l : List Int} {a0 a1 : Int} (hT : σ.Ints h l) (hH : σ.Has h) (hn : l.length < 2 ^ 44) (hw : ∀ n ∈ l, IntKind.min .i64 ≤ n ∧ n ≤ IntKind.max .i64)
    (ha0 : IntKind.min .i64 ≤ a0 ∧ a0 ≤ IntKind.max .i64) (ha1 : IntKind.min .i64 ≤ a1 ∧ a1 ≤ IntKind.max .i64) (hp : σ.prot ≤ σ.objs.length) :
    ∃ σ', Runs Try.prog 12 [.slice h, .agg [.int .i64 a0, .int .i64 a1]] σ (.bool true) σ' := by
  have ll := hT.ilen
  obtain ⟨σ1, h1⟩ : ∃ s, s = σ.push [.int .i64 a0, .int .i64 a1] 2 := ⟨_, rfl⟩
  have K1 : Kp σ.objs.length σ σ1 := by rw [h1]; exact Kp.push _ _ (Nat.le_refl _)
  have R1 : σ1.Row σ.objs.length 2 [.int .i64 a0, .int .i64 a1] := by rw [h1]; exact Store.Row.new
  have hp1 : σ1.prot ≤ σ1.objs.length := by rw [K1.prot]; have := K1.len; omega
  have hT1 := Store.Sl.kp hT K1
  obtain ⟨k0, r0⟩ := first13_told σ1
  by_cases c0 : (200 : Int) < h.len
  · refine ⟨σ1, Runs.intro (fn := Try.f12) (by kernel_rfl) (by kernel_rfl) ⟨k0, fun k hk => ?_⟩⟩
    have r0 := r0 k hk
    simp only at r0
    simp only [f12_eq]
    simp only [Option.bind_some, decide_eq_true_eq, decide_eq_false_iff_not, Bool.not_eq_true', Bool.not_true, Bool.not_false, Bool.false_eq_true, Bool.true_eq_false, Bool.not_eq_eq_eq_not, beq_self_eq_true, beqFT, beqTF, decide_true, decide_false, not_false_eq_true, not_true_eq_false, ne_eq, true_and, and_true, false_and, and_false, and_self, if_true, if_false, ite_true, ite_false, Bool.and_true, Bool.and_false, Bool.true_and, Bool.false_and, Bool.or_true, Bool.true_or, Bool.or_false, Bool.false_or, or_true, true_or, or_false, false_or, or_self, AV.asInt, AV.asBool, AV.asSl, AV.asPtr, AV.asFn, AV.asStr, AV.asMap, AV.asIfc, AV.item, List.length_cons, List.length_nil, List.getElem?_cons_zero, List.getElem?_cons_succ, Nat.zero_add, ← h1, r0, c0]
  have ln : l.length ≤ 200 := by omega
  obtain ⟨k1, r1⟩ := right13_run (al := 300) hT1 (by omega)
  cases hok : okW l 300 with
  | false =>
    rw [hok] at r1
    refine ⟨σ1, Runs.intro (fn := Try.f12) (by kernel_rfl) (by kernel_rfl) ⟨k0 + k1, fun k hk => ?_⟩⟩
    have r0 := r0 k (by omega)
    have r1 := r1 k (by omega)
    simp only at r0 r1
    simp only [f12_eq]
    simp only [Option.bind_some, decide_eq_true_eq, decide_eq_false_iff_not, Bool.not_eq_true', Bool.not_true, Bool.not_false, Bool.false_eq_true, Bool.true_eq_false, Bool.not_eq_eq_eq_not, beq_self_eq_true, beqFT, beqTF, decide_true, decide_false, not_false_eq_true, not_true_eq_false, ne_eq, true_and, and_true, false_and, and_false, and_self, if_true, if_false, ite_true, ite_false, Bool.and_true, Bool.and_false, Bool.true_and, Bool.false_and, Bool.or_true, Bool.true_or, Bool.or_false, Bool.false_or, or_true, true_or, or_false, false_or, or_self, AV.asInt, AV.asBool, AV.asSl, AV.asPtr, AV.asFn, AV.asStr, AV.asMap, AV.asIfc, AV.item, List.length_cons, List.length_nil, List.getElem?_cons_zero, List.getElem?_cons_succ, Nat.zero_add, ← h1, r0, c0, r1]
  | true =>
  rw [hok] at r1
  obtain ⟨p, w, σ2, ⟨k2, r2⟩, K2, M, W, pn⟩ := made_run (most := 300) hT1 hp1 hok
  have R2 := R1.kp K2 R1.lt
  have e0 := row_int R2 (o := 0) rfl
  have e1 := row_int R2 (o := 1) rfl
  obtain ⟨a, ea⟩ : ∃ a : Nat, a = (max 0 (min a0 l.length)).toNat := ⟨_, rfl⟩
  obtain ⟨b, eb⟩ : ∃ b : Nat, b = (max (a : Int) (min a1 l.length)).toNat := ⟨_, rfl⟩
  have ma : mx2 (Int.ofNat 0) (mn2 a0 l.length) = (a : Int) := by rw [mx2_eq, mn2_eq]; simp only [Int.ofNat_eq_natCast]; omega
  have mb : mx2 (a : Int) (mn2 a1 l.length) = (b : Int) := by rw [mx2_eq, mn2_eq]; omega
  have hab : a ≤ b := by omega
  have hbl : b ≤ l.length := by omega
  have wd : IntKind.wrap .i64 ((b : Int) - a) = ((b - a : Nat) : Int) := by rw [wrap64 (by omega) (by omega)]; omega
  obtain ⟨s, hs⟩ : ∃ s, s = seg l a b := ⟨_, rfl⟩
  have sl : s.length = b - a := by rw [hs, (seg_self hab hbl).1]; simp; omega
  have tk : l.take b = l.take a ++ s := by rw [hs]; exact take_seg hab hbl
  have s0 : ∀ x ∈ s, 0 ≤ x ∧ x ≤ 300 := fun x hx => (okW_iff.1 hok).2.2.2 x (seg_mem (hs ▸ hx))
  obtain ⟨r, e, rfl⟩ := EvI.up (f := fun k s => stepF Try.prog (gm Try.prog k) drawn k Try.f12 [1, 1, 1, 1, 1, 1, 1, 0, 1, 0] [44, 43, 10, 9, 8, 7, 5] s) (b - a)
    (fun i st => ∃ ahead last : Int, st = ([.int .i64 i, .int .i64 (b - a : Nat), .int .i64 ahead, .int .i64 last, .int .i64 b, .int .i64 a, .ptr p], σ2) ∧
      ((i = 0 ∧ last = -1) ∨ (0 < i ∧ 0 ≤ last ∧ ahead = (Bs.cnt (fun x => decide (x < last)) s : Nat) ∧ Bs.cnt (fun x => decide (x < last)) s < i ∧ i ≤ Bs.cnt (fun x => decide (x < last)) s + Bs.cnt (fun x => decide (x = last)) s)))
    (fun r => r = (AX.exit 0, [(8, .int .i64 b), (7, .int .i64 a), (5, .ptr p)], σ2))
    (by
      rintro i st hi ⟨ahead, last, rfl, hI⟩
      have i1 : (i : Int) < (b - a : Nat) := by omega
      have w1 := wsucc hi (by omega)
      obtain ⟨v, ⟨n1, q1⟩, hv, _⟩ := quantile_run M a b i
      rw [← hs] at hv
      obtain ⟨v0, v1, v2⟩ := hv ⟨by omega, by omega⟩
      obtain ⟨n2, q2⟩ := below_run M a b v
      obtain ⟨n3, q3⟩ := matRank_run M v b
      obtain ⟨n4, q4⟩ := matRank_run M v a
      rw [← hs] at q2
      rw [Int.toNat_natCast] at q3 q4
      have ec : Bs.cnt (fun x => decide (x = v)) (l.take b) = Bs.cnt (fun x => decide (x = v)) (l.take a) + Bs.cnt (fun x => decide (x = v)) s := by rw [tk, cnt_append]
      have d1 : ¬ ((Bs.cnt (fun x => decide (x = v)) (l.take b) : Nat) : Int) = (Bs.cnt (fun x => decide (x = v)) (l.take a) : Nat) := by omega
      have d2 : ¬ v < last := by
        intro hlt
        rcases hI with ⟨h1, h2⟩ | ⟨h1, h2, h3, h4, h5⟩
        · omega
        · have := cnt_lt_le hlt s; omega
      by_cases d3 : last < v
      · have d4 : ((Bs.cnt (fun x => decide (x < v)) s : Nat) : Int) = i := by
          rcases hI with ⟨h1, h2⟩ | ⟨h1, h2, h3, h4, h5⟩
          · omega
          · have := cnt_lt_le d3 s; omega
        refine ⟨([.int .i64 (i + 1 : Nat), .int .i64 (b - a : Nat), .int .i64 i, .int .i64 v, .int .i64 b, .int .i64 a, .ptr p], σ2), ⟨n1 + n2 + n3 + n4, fun k hk => ?_⟩, (i : Int), v, rfl, .inr ⟨by omega, v0, by omega, by omega, by omega⟩⟩
        have q1 := q1 k (by omega)
        have q2 := q2 k (by omega)
        have q3 := q3 k (by omega)
        have q4 := q4 k (by omega)
        simp only at q1 q2 q3 q4
        simp only [f12_L1111111010]
        simp only [Option.bind_some, decide_eq_true_eq, decide_eq_false_iff_not, Bool.not_eq_true', Bool.not_true, Bool.not_false, Bool.false_eq_true, Bool.true_eq_false, Bool.not_eq_eq_eq_not, beq_self_eq_true, beqFT, beqTF, decide_true, decide_false, not_false_eq_true, not_true_eq_false, ne_eq, true_and, and_true, false_and, and_false, and_self, if_true, if_false, ite_true, ite_false, Bool.and_true, Bool.and_false, Bool.true_and, Bool.false_and, Bool.or_true, Bool.true_or, Bool.or_false, Bool.false_or, or_true, true_or, or_false, false_or, or_self, AV.asInt, AV.asBool, AV.asSl, AV.asPtr, AV.asFn, AV.asStr, AV.asMap, AV.asIfc, AV.item, List.length_cons, List.length_nil, List.getElem?_cons_zero, List.getElem?_cons_succ, Nat.zero_add, i1, q1, d2, d3, q2, d4, q3, q4, d1, w1]
      · have ev : v = last := by omega
        subst ev
        rcases hI with ⟨h1, h2⟩ | ⟨h1, h2, h3, h4, h5⟩
        · omega
        · have d4 : ((Bs.cnt (fun x => decide (x < v)) s : Nat) : Int) = ahead := by omega
          refine ⟨([.int .i64 (i + 1 : Nat), .int .i64 (b - a : Nat), .int .i64 ahead, .int .i64 v, .int .i64 b, .int .i64 a, .ptr p], σ2), ⟨n1 + n2 + n3 + n4, fun k hk => ?_⟩, ahead, v, rfl, .inr ⟨by omega, v0, by omega, by omega, by omega⟩⟩
          have q1 := q1 k (by omega)
          have q2 := q2 k (by omega)
          have q3 := q3 k (by omega)
          have q4 := q4 k (by omega)
          simp only at q1 q2 q3 q4
          simp only [f12_L1111111010]
          simp only [Option.bind_some, decide_eq_true_eq, decide_eq_false_iff_not, Bool.not_eq_true', Bool.not_true, Bool.not_false, Bool.false_eq_true, Bool.true_eq_false, Bool.not_eq_eq_eq_not, beq_self_eq_true, beqFT, beqTF, decide_true, decide_false, not_false_eq_true, not_true_eq_false, ne_eq, true_and, and_true, false_and, and_false, and_self, if_true, if_false, ite_true, ite_false, Bool.and_true, Bool.and_false, Bool.true_and, Bool.false_and, Bool.or_true, Bool.true_or, Bool.or_false, Bool.false_or, or_true, true_or, or_false, false_or, or_self, AV.asInt, AV.asBool, AV.asSl, AV.asPtr, AV.asFn, AV.asStr, AV.asMap, AV.asIfc, AV.item, List.length_cons, List.length_nil, List.getElem?_cons_zero, List.getElem?_cons_succ, Nat.zero_add, i1, q1, d2, q2, d4, q3, q4, d1, w1])
    (by
      rintro st ⟨ahead, last, rfl, _⟩
      exact ⟨_, Ev.of fun k => by simp only [f12_L1111111010]; simp only [Option.bind_some, decide_eq_true_eq, decide_eq_false_iff_not, Bool.not_eq_true', Bool.not_true, Bool.not_false, Bool.false_eq_true, Bool.true_eq_false, Bool.not_eq_eq_eq_not, beq_self_eq_true, beqFT, beqTF, decide_true, decide_false, not_false_eq_true, not_true_eq_false, ne_eq, true_and, and_true, false_and, and_false, and_self, if_true, if_false, ite_true, ite_false, Bool.and_true, Bool.and_false, Bool.true_and, Bool.false_and, Bool.or_true, Bool.true_or, Bool.or_false, Bool.false_or, or_true, true_or, or_false, false_or, or_self, AV.asInt, AV.asBool, AV.asSl, AV.asPtr, AV.asFn, AV.asStr, AV.asMap, AV.asIfc, AV.item, List.length_cons, List.length_nil, List.getElem?_cons_zero, List.getElem?_cons_succ, Nat.zero_add, Int.lt_irrefl], rfl⟩)
    (s := ([.int .i64 0, .int .i64 (b - a : Nat), .int .i64 0, .int .i64 (-1), .int .i64 b, .int .i64 a, .ptr p], σ2)) ⟨0, -1, rfl, .inl ⟨rfl, rfl⟩⟩
  obtain ⟨n3, e⟩ := loopF_ev e
  obtain ⟨v, ⟨n4, q4⟩, _, hv⟩ := quantile_run M a b (b - a : Nat)
  rw [← hs] at hv
  have hv := hv (by omega)
  obtain ⟨n5, q5⟩ := below_run M a b 301
  rw [← hs] at q5
  have ea5 : Bs.cnt (fun x => decide (x < 301)) s = b - a := by
    rw [← sl]; unfold Bs.cnt; rw [List.filter_eq_self.2]; intro x hx; have := s0 x hx; simp; omega
  rw [ea5] at q5
  refine ⟨σ2, Runs.intro (fn := Try.f12) (by kernel_rfl) (by kernel_rfl) ⟨k0 + k1 + k2 + n3 + n4 + n5, fun k hk => ?_⟩⟩
  have r0 := r0 k (by omega)
  have r1 := r1 k (by omega)
  have r2 := r2 k (by omega)
  have e := e k (by omega)
  have q4 := q4 k (by omega)
  have q5 := q5 k (by omega)
  simp only at r0 r1 r2 e q4 q5
  rw [ll] at c0
  simp only [f12_eq]
  simp only [Option.bind_some, decide_eq_true_eq, decide_eq_false_iff_not, Bool.not_eq_true', Bool.not_true, Bool.not_false, Bool.false_eq_true, Bool.true_eq_false, Bool.not_eq_eq_eq_not, beq_self_eq_true, beqFT, beqTF, decide_true, decide_false, not_false_eq_true, not_true_eq_false, ne_eq, true_and, and_true, false_and, and_false, and_self, if_true, if_false, ite_true, ite_false, Bool.and_true, Bool.and_false, Bool.true_and, Bool.false_and, Bool.or_true, Bool.true_or, Bool.or_false, Bool.false_or, or_true, true_or, or_false, false_or, or_self, AV.asInt, AV.asBool, AV.asSl, AV.asPtr, AV.asFn, AV.asStr, AV.asMap, AV.asIfc, AV.item, List.length_cons, List.length_nil, List.getElem?_cons_zero, List.getElem?_cons_succ, Nat.zero_add, ← h1, r0, ll, c0, r1, r2, e0, e1, ma, mb, wd, e]
  rw [f12_X1111111010_2]
  simp only [Option.bind_some, decide_eq_true_eq, decide_eq_false_iff_not, Bool.not_eq_true', Bool.not_true, Bool.not_false, Bool.false_eq_true, Bool.true_eq_false, Bool.not_eq_eq_eq_not, beq_self_eq_true, beqFT, beqTF, decide_true, decide_false, not_false_eq_true, not_true_eq_false, ne_eq, true_and, and_true, false_and, and_false, and_self, if_true, if_false, ite_true, ite_false, Bool.and_true, Bool.and_false, Bool.true_and, Bool.false_and, Bool.or_true, Bool.true_or, Bool.or_false, Bool.false_or, or_true, true_or, or_false, false_or, or_self, AV.asInt, AV.asBool, AV.asSl, AV.asPtr, AV.asFn, AV.asStr, AV.asMap, AV.asIfc, AV.item, List.length_cons, List.length_nil, List.getElem?_cons_zero, List.getElem?_cons_succ, Nat.zero_add, wd, q4, hv, q5]
end Go.Ab

/- The law WaveAdds. -/
namespace Go.Ab
open Go Go.Proofs Go.Ab.Wd Go.Ab.Bs Go.Ab.Sai
set_option linter.unusedVariables false
set_option linter.unusedSimpArgs false
theorem Vec.keep {σ σ' : Store} {p : Ptr} {B : List Bool} (v : Vec σ p B) (k : ∀ x : Nat, x < σ.objs.length → σ'.objs[x]? = σ.objs[x]?) : Vec σ' p B := by
  obtain ⟨b, hw, ha, ws, ah, rfl, R, W, A, wb, ab⟩ := v.ex
  have lt : ∀ {h : Hdl} {l : List AV}, σ.Sl h 1 l → σ'.Sl h 1 l := fun {h l} s => by
    refine ⟨s.len, ?_⟩
    rcases s.row with h1 | ⟨b, o, cs, rw, h1, h2, h3⟩
    · exact .inl h1
    · exact .inr ⟨b, o, cs, rw, h1, (k b (List.getElem?_eq_some_iff.1 h2).1).trans h2, h3⟩
  exact ⟨⟨b, hw, ha, ws, ah, rfl, (k b R.lt).trans R, lt W, lt A, wb, ab⟩, v.small⟩
theorem Mat.keep {σ σ' : Store} {p : Ptr} {l : List Int} {w : Nat} (m : Mat σ p l w) (k : ∀ x : Nat, x < σ.objs.length → σ'.objs[x]? = σ.objs[x]?) : Mat σ' p l w := by
  obtain ⟨b, hl, ps, rfl, R, S, lp, V⟩ := m.ex
  have lt : ∀ {h : Hdl} {l : List AV}, σ.Sl h 1 l → σ'.Sl h 1 l := fun {h l} s => by
    refine ⟨s.len, ?_⟩
    rcases s.row with h1 | ⟨b, o, cs, rw, h1, h2, h3⟩
    · exact .inl h1
    · exact .inr ⟨b, o, cs, rw, h1, (k b (List.getElem?_eq_some_iff.1 h2).1).trans h2, h3⟩
  exact ⟨⟨b, hl, ps, rfl, (k b R.lt).trans R, lt S, lp, fun j hj => by obtain ⟨q, e, v⟩ := V j hj; exact ⟨q, e, v.keep k⟩⟩, m.wid, m.small, m.rng⟩
theorem Mat.quiet {σ : Store} {p : Ptr} {l : List Int} {w : Nat} (m : Mat σ p l w) (n : Nat) : Mat { σ with prot := n } p l w := m.keep fun _ _ => rfl
theorem pairsL_get : ∀ {L : List (Int × Int)} {i : Nat} {u v : Int}, L[i]? = some (u, v) → (pairsL L)[i * 2]? = some (.int .i64 u) ∧ (pairsL L)[i * 2 + 1]? = some (.int .i64 v)
  | [], i, u, v, h => by simp at h
  | x :: L, 0, u, v, h => by simp at h; subst h; simp [pairsL]
  | x :: L, i + 1, u, v, h => by
    have := pairsL_get (L := L) (i := i) (u := u) (v := v) (by simpa using h)
    rw [show pairsL (x :: L) = [.int .i64 x.1, .int .i64 x.2] ++ pairsL L by simp [pairsL]]
    rw [List.getElem?_append_right (by simp; omega), List.getElem?_append_right (by simp; omega)]
    simp only [List.length_cons, List.length_nil, Nat.zero_add]
    rw [show (i + 1) * 2 - 2 = i * 2 by omega, show (i + 1) * 2 + 1 - 2 = i * 2 + 1 by omega]
    exact this
theorem pairs_rd {σ : Store} {h : Hdl} {L : List (Int × Int)} (s : σ.Sl h 2 (pairsL L)) {i : Nat} {u v : Int} (hi : L[i]? = some (u, v)) :
    σ.ldInt .i64 (Ptr.add (h.idx (i : Int) 2) 0) = some u ∧ σ.ldInt .i64 (Ptr.add (h.idx (i : Int) 2) 1) = some v := by
  have hlt : i < L.length := (List.getElem?_eq_some_iff.1 hi).1
  obtain ⟨g0, g1⟩ := pairsL_get hi
  have hl := s.len
  rw [pairsL_length] at hl
  rcases s.row with h0 | ⟨b, o, cs, rw, ha, hb, hc, hd⟩
  · omega
  · have c : ∀ j, j < (pairsL L).length → cs[o + j]? = (pairsL L)[j]? := fun j hj => by
      rw [← hd, List.getElem?_take, if_pos hj, List.getElem?_drop]
    have l2 := pairsL_length L
    have c0 := c (i * 2) (by omega)
    have c1 := c (i * 2 + 1) (by omega)
    rw [g0] at c0
    rw [g1] at c1
    constructor
    · simp only [Store.ldInt, Store.cell, Hdl.idx, Ptr.add, ha, Option.map_some, hb, Int.toNat_natCast, Nat.add_zero, c0, if_true]
    · simp only [Store.ldInt, Store.cell, Hdl.idx, Ptr.add, ha, Option.map_some, hb, Int.toNat_natCast, Nat.add_assoc, c1, if_true]
theorem pairs_len {σ : Store} {h : Hdl} {L : List (Int × Int)} (s : σ.Sl h 2 (pairsL L)) : h.len = L.length := by have := s.len; rw [pairsL_length] at this; omega
/-- A pair is taken into a new row. -/
theorem take2 {σ : Store} {u v : Int} (hp : σ.prot ≤ σ.objs.length) : ∃ σ', Store.stL (σ.push [.int .i64 0, .int .i64 0] 2) (some (σ.objs.length, 0)) [.int .i64 u, .int .i64 v] 0 = some σ' ∧ Kp σ.objs.length σ σ' ∧ σ'.Row σ.objs.length 2 [.int .i64 u, .int .i64 v] := by
  have R : (σ.push [.int .i64 0, .int .i64 0] 2).Row σ.objs.length 2 [.int .i64 0, .int .i64 0] := Store.Row.new
  have t1 := st_fld R (o := 0) (by simpa using hp) (by simp) (v := .int .i64 u) rfl
  obtain ⟨s1, hs1⟩ : ∃ s, s = (σ.push [.int .i64 0, .int .i64 0] 2).setO σ.objs.length (.cells ([.int .i64 0, .int .i64 0].set 0 (.int .i64 u)) true 2) := ⟨_, rfl⟩
  rw [← hs1] at t1
  have R1 : s1.Row σ.objs.length 2 [.int .i64 u, .int .i64 0] := by rw [hs1]; exact Store.Row.setO_eq R.lt
  have p1 : s1.prot ≤ σ.objs.length := by rw [hs1]; exact hp
  have t2 := st_fld R1 (o := 1) p1 (by simp) (v := .int .i64 v) rfl
  refine ⟨s1.setO σ.objs.length (.cells ([.int .i64 u, .int .i64 0].set 1 (.int .i64 v)) true 2), ?_, ?_, Store.Row.setO_eq R1.lt⟩
  · simp only [Store.stL, Ptr.add, Option.map_some, Nat.add_zero, Nat.zero_add, Option.bind_eq_bind] at t1 t2 ⊢
    cases h1 : Store.st (σ.push [.int .i64 0, .int .i64 0] 2) (some (σ.objs.length, 0)) (.int .i64 u) with
    | none => rw [h1] at t1; cases t1
    | some x =>
      rw [h1] at t1
      simp only [Option.bind_some, Option.some.injEq] at t1
      subst t1
      simp only [Option.bind_some]
      exact t2
  · rw [hs1]; exact (((Kp.push _ _ (Nat.le_refl _)).setO (Nat.le_refl _)).setO (Nat.le_refl _))
end Go.Ab

/- Select of a list of bits. -/
namespace Go.Ab
open Go Go.Proofs Go.Ab.Wd Go.Ab.Bs Go.Ab.Sai
set_option linter.unusedVariables false
set_option linter.unusedSimpArgs false
/-- sort.Search of a property that stays once it holds. -/
theorem search_run {σ : Store} {g : FuncId} {a c : List AV} {P : Nat → Bool} {n : Nat} (hn : n < 2 ^ 40) (hP : ∀ i, i < n → Runs Try.prog g (a ++ [.int .i64 i] ++ c) σ (.bool (P i)) σ) (mono : ∀ i j, i ≤ j → P i = true → P j = true) :
    ∃ r : Nat, Runs Try.prog 91 [.int .i64 n, .func g a c] σ (.int .i64 r) σ ∧ r ≤ n ∧ (∀ i, i < r → P i = false) ∧ (r < n → P r = true) := by
  obtain ⟨q, e, r, rfl, h1, h2, h3⟩ := EvI.while (f := fun k s => stepF Try.prog (gm Try.prog k) drawn k Try.f91 [1, 1, 0, 0] [6, 5, 1] s)
    (fun m s => ∃ lo hi : Nat, m = hi - lo ∧ s = ([.int .i64 hi, .int .i64 lo, .func g a c], σ) ∧ lo ≤ hi ∧ hi ≤ n ∧ (∀ i, i < lo → P i = false) ∧ (hi < n → P hi = true))
    (fun q => ∃ r : Nat, q = (AX.exit 0, [(5, .int .i64 r)], σ) ∧ r ≤ n ∧ (∀ i, i < r → P i = false) ∧ (r < n → P r = true))
    (by
      rintro m s ⟨lo, hi, rfl, rfl, h1, h2, h3, h4⟩
      by_cases c1 : lo < hi
      · have c1' : (lo : Int) < hi := by omega
        obtain ⟨mid, hm⟩ : ∃ mid, mid = (lo + hi) / 2 := ⟨_, rfl⟩
        have wm : IntKind.wrap .i64 (shrI .u64 (IntKind.wrap .u64 (IntKind.wrap .i64 ((lo : Int) + hi))) 1) = (mid : Int) := by
          rw [wrap64 (x := (lo : Int) + hi) (by omega) (by omega), wrapu64 (by omega) (by omega)]
          have : shrI .u64 ((lo + hi : Nat) : Int) 1 = (((lo + hi) / 2 : Nat) : Int) := shr_u64 (s := 1) (by omega)
          rw [show ((lo : Int) + hi) = ((lo + hi : Nat) : Int) by omega, this, ← hm, wrap64 (by omega) (by omega)]
        obtain ⟨n1, r1⟩ := hP mid (by omega)
        have w1 : IntKind.wrap .i64 ((mid : Int) + 1) = ((mid + 1 : Nat) : Int) := by rw [wrap64 (by omega) (by omega)]; omega
        cases hb : P mid with
        | true =>
          refine .inl ⟨mid - lo, _, by omega, ⟨n1, fun k hk => ?_⟩, lo, mid, rfl, rfl, by omega, by omega, h3, fun _ => hb⟩
          have r1 := r1 k hk
          rw [hb] at r1
          simp only at r1
          simp only [f91_L1100]
          simp only [Option.bind_some, decide_eq_true_eq, decide_eq_false_iff_not, Bool.not_eq_true', Bool.not_true, Bool.not_false, Bool.false_eq_true, Bool.true_eq_false, Bool.not_eq_eq_eq_not, beq_self_eq_true, beqFT, beqTF, decide_true, decide_false, not_false_eq_true, not_true_eq_false, ne_eq, true_and, and_true, false_and, and_false, and_self, if_true, if_false, ite_true, ite_false, Bool.and_true, Bool.and_false, Bool.true_and, Bool.false_and, Bool.or_true, Bool.true_or, Bool.or_false, Bool.false_or, or_true, true_or, or_false, false_or, or_self, AV.asInt, AV.asBool, AV.asSl, AV.asPtr, AV.asFn, AV.asStr, AV.asMap, AV.asIfc, AV.item, List.length_cons, List.length_nil, List.getElem?_cons_zero, List.getElem?_cons_succ, Nat.zero_add, c1', wm, r1]
        | false =>
          refine .inl ⟨hi - (mid + 1), _, by omega, ⟨n1, fun k hk => ?_⟩, mid + 1, hi, rfl, rfl, by omega, by omega, fun i hi' => ?_, h4⟩
          · have r1 := r1 k hk
            rw [hb] at r1
            simp only at r1
            simp only [f91_L1100]
            simp only [Option.bind_some, decide_eq_true_eq, decide_eq_false_iff_not, Bool.not_eq_true', Bool.not_true, Bool.not_false, Bool.false_eq_true, Bool.true_eq_false, Bool.not_eq_eq_eq_not, beq_self_eq_true, beqFT, beqTF, decide_true, decide_false, not_false_eq_true, not_true_eq_false, ne_eq, true_and, and_true, false_and, and_false, and_self, if_true, if_false, ite_true, ite_false, Bool.and_true, Bool.and_false, Bool.true_and, Bool.false_and, Bool.or_true, Bool.true_or, Bool.or_false, Bool.false_or, or_true, true_or, or_false, false_or, or_self, AV.asInt, AV.asBool, AV.asSl, AV.asPtr, AV.asFn, AV.asStr, AV.asMap, AV.asIfc, AV.item, List.length_cons, List.length_nil, List.getElem?_cons_zero, List.getElem?_cons_succ, Nat.zero_add, c1', wm, r1, w1]
          · cases hc : P i with
            | false => rfl
            | true => have := mono i mid (by omega) hc; rw [hb] at this; cases this
      · have c1' : ¬ (lo : Int) < hi := by omega
        have e : lo = hi := by omega
        subst e
        exact .inr ⟨(AX.exit 0, [(5, .int .i64 lo)], σ), Ev.of fun k => by simp only [f91_L1100]; simp only [Option.bind_some, decide_eq_true_eq, decide_eq_false_iff_not, Bool.not_eq_true', Bool.not_true, Bool.not_false, Bool.false_eq_true, Bool.true_eq_false, Bool.not_eq_eq_eq_not, beq_self_eq_true, beqFT, beqTF, decide_true, decide_false, not_false_eq_true, not_true_eq_false, ne_eq, true_and, and_true, false_and, and_false, and_self, if_true, if_false, ite_true, ite_false, Bool.and_true, Bool.and_false, Bool.true_and, Bool.false_and, Bool.or_true, Bool.true_or, Bool.or_false, Bool.false_or, or_true, true_or, or_false, false_or, or_self, AV.asInt, AV.asBool, AV.asSl, AV.asPtr, AV.asFn, AV.asStr, AV.asMap, AV.asIfc, AV.item, List.length_cons, List.length_nil, List.getElem?_cons_zero, List.getElem?_cons_succ, Nat.zero_add, c1'], lo, rfl, h2, h3, h4⟩)
    n ([.int .i64 n, .int .i64 0, .func g a c], σ) ⟨0, n, by omega, rfl, by omega, Nat.le_refl _, fun i hi => by omega, fun h => by omega⟩
  refine ⟨r, Runs.intro (fn := Try.f91) (by kernel_rfl) (by kernel_rfl) ?_, h1, h2, h3⟩
  exact (Ev.bind (loopF_ev e) (Ev.of fun k => f91_X1100_1 (gm Try.prog k) k σ _)).congr fun k => by rw [f91_eq]
/-- pick, with a count that rises. -/
theorem pick_run {σ : Store} {p : Ptr} {B : List Bool} {g : FuncId} {f : Nat → Nat} (v : Vec σ p B) (hf : ∀ (σ' : Store) (i : Int), Vec σ' p B → Runs Try.prog g [.ptr p, .int .i64 i] σ' (.int .i64 (f i.toNat)) σ') (f0 : f 0 = 0) (mono : ∀ i j, i ≤ j → f i ≤ f j) (fb : f B.length ≤ B.length) (k : Int) :
    ∃ (r : Int) (σ' : Store), Runs Try.prog 79 [.ptr p, .int .i64 k, .int .i64 (f B.length), .func g [.ptr p] []] σ (.int .i64 r) σ' ∧ Kp σ.objs.length σ σ' ∧ ((0 ≤ k ∧ k < f B.length) → 0 ≤ r ∧ r < B.length ∧ (f r.toNat : Int) ≤ k ∧ k < f (r.toNat + 1)) ∧ (¬ (0 ≤ k ∧ k < f B.length) → r = -1) := by
  obtain ⟨σ1, h1⟩ : ∃ s, s = (σ.push [.int .i64 k] 1).push [.func g [.ptr p] []] 1 := ⟨_, rfl⟩
  have K1 : Kp σ.objs.length σ σ1 := by rw [h1]; exact (Kp.push _ _ (Nat.le_refl _)).push' (by simp)
  have R0 : σ1.Row σ.objs.length 1 [.int .i64 k] := by rw [h1]; exact Store.Row.new.push
  have R1 : σ1.Row (σ.objs.length + 1) 1 [.func g [.ptr p] []] := by
    rw [h1]; have := (Store.Row.new : ((σ.push [.int .i64 k] 1).push [.func g [.ptr p] []] 1).Row _ 1 _); simpa using this
  have e0 : σ1.ldInt .i64 (some (σ.objs.length, 0)) = some k := by simp only [Store.ldInt, R0.cell]; simp
  have e1 : σ1.ldFn (some (σ.objs.length + 1, 0)) = some (g, [.ptr p], []) := by simp only [Store.ldFn, R1.cell]; simp
  have v1 := v.kp K1
  have sm := v.small
  have lpush : (σ.push [.int .i64 k] 1).objs.length = σ.objs.length + 1 := by simp
  by_cases c1 : k < 0
  · refine ⟨-1, σ1, Runs.intro (fn := Try.f79) (by kernel_rfl) (by kernel_rfl) (Ev.of fun m => ?_), K1, fun h => by omega, fun _ => rfl⟩
    simp only [f79_eq]
    simp only [Option.bind_some, decide_eq_true_eq, decide_eq_false_iff_not, Bool.not_eq_true', Bool.not_true, Bool.not_false, Bool.false_eq_true, Bool.true_eq_false, Bool.not_eq_eq_eq_not, beq_self_eq_true, beqFT, beqTF, decide_true, decide_false, not_false_eq_true, not_true_eq_false, ne_eq, true_and, and_true, false_and, and_false, and_self, if_true, if_false, ite_true, ite_false, Bool.and_true, Bool.and_false, Bool.true_and, Bool.false_and, Bool.or_true, Bool.true_or, Bool.or_false, Bool.false_or, or_true, true_or, or_false, false_or, or_self, AV.asInt, AV.asBool, AV.asSl, AV.asPtr, AV.asFn, AV.asStr, AV.asMap, AV.asIfc, AV.item, List.length_cons, List.length_nil, List.getElem?_cons_zero, List.getElem?_cons_succ, Nat.zero_add, ← h1, e0, c1]
  by_cases c2 : (f B.length : Int) ≤ k
  · refine ⟨-1, σ1, Runs.intro (fn := Try.f79) (by kernel_rfl) (by kernel_rfl) (Ev.of fun m => ?_), K1, fun h => by omega, fun _ => rfl⟩
    simp only [f79_eq]
    simp only [Option.bind_some, decide_eq_true_eq, decide_eq_false_iff_not, Bool.not_eq_true', Bool.not_true, Bool.not_false, Bool.false_eq_true, Bool.true_eq_false, Bool.not_eq_eq_eq_not, beq_self_eq_true, beqFT, beqTF, decide_true, decide_false, not_false_eq_true, not_true_eq_false, ne_eq, true_and, and_true, false_and, and_false, and_self, if_true, if_false, ite_true, ite_false, Bool.and_true, Bool.and_false, Bool.true_and, Bool.false_and, Bool.or_true, Bool.true_or, Bool.or_false, Bool.false_or, or_true, true_or, or_false, false_or, or_self, AV.asInt, AV.asBool, AV.asSl, AV.asPtr, AV.asFn, AV.asStr, AV.asMap, AV.asIfc, AV.item, List.length_cons, List.length_nil, List.getElem?_cons_zero, List.getElem?_cons_succ, Nat.zero_add, ← h1, e0, c1, c2]
  obtain ⟨r, ⟨n2, r2⟩, h2, h3, h4⟩ := search_run (σ := σ1) (g := 92) (a := []) (c := [.ptr (some (σ.objs.length + 1, 0)), .ptr (some (σ.objs.length, 0))]) (P := fun i => decide (k < f (i + 1))) (n := B.length) (by omega)
    (fun i hi => by
      obtain ⟨n3, r3⟩ := hf { σ1 with prot := σ1.objs.length } (i + 1 : Nat) (v1.keep fun _ _ => rfl)
      rw [Int.toNat_natCast] at r3
      have w1 : IntKind.wrap .i64 ((i : Int) + 1) = ((i + 1 : Nat) : Int) := by rw [wrap64 (by omega) (by omega)]; omega
      refine Runs.intro (fn := Try.f92) (by kernel_rfl) (by kernel_rfl) ⟨n3, fun m hm => ?_⟩
      have r3 := r3 m hm
      simp only at r3
      have r3 := callG_same r3
      show evBody Try.prog (gm Try.prog m) drawn m Try.f92 [.int .i64 i, .ptr (some (σ.objs.length + 1, 0)), .ptr (some (σ.objs.length, 0))] σ1 = _
      simp only [f92_eq]
      simp only [Option.bind_some, decide_eq_true_eq, decide_eq_false_iff_not, Bool.not_eq_true', Bool.not_true, Bool.not_false, Bool.false_eq_true, Bool.true_eq_false, Bool.not_eq_eq_eq_not, beq_self_eq_true, beqFT, beqTF, decide_true, decide_false, not_false_eq_true, not_true_eq_false, ne_eq, true_and, and_true, false_and, and_false, and_self, if_true, if_false, ite_true, ite_false, Bool.and_true, Bool.and_false, Bool.true_and, Bool.false_and, Bool.or_true, Bool.true_or, Bool.or_false, Bool.false_or, or_true, true_or, or_false, false_or, or_self, AV.asInt, AV.asBool, AV.asSl, AV.asPtr, AV.asFn, AV.asStr, AV.asMap, AV.asIfc, AV.item, List.length_cons, List.length_nil, List.getElem?_cons_zero, List.getElem?_cons_succ, Nat.zero_add, e1, w1, List.cons_append, List.nil_append, List.append_nil, r3, e0])
    (fun i j hij h => by have := mono (i + 1) (j + 1) (by omega); simp at h ⊢; omega)
  obtain ⟨b, hw, ha, ws, ah, rfl, R, _⟩ := v1.ex
  have en := row_int R (o := 0) rfl
  have hr : r < B.length := by
    rcases Nat.lt_or_ge r B.length with h | h
    · exact h
    · have er : r = B.length := by omega
      have : 0 < B.length := by
        rcases Nat.eq_zero_or_pos B.length with h0 | h0
        · rw [h0, f0] at c2; omega
        · exact h0
      have := h3 (B.length - 1) (by omega)
      rw [show B.length - 1 + 1 = B.length by omega] at this
      simp at this; omega
  have hk := h4 hr
  simp only [decide_eq_true_eq] at hk
  have hl : (f r : Int) ≤ k := by
    rcases Nat.eq_zero_or_pos r with h0 | h0
    · rw [h0, f0]; omega
    · have := h3 (r - 1) (by omega)
      rw [show r - 1 + 1 = r by omega] at this
      simp at this; omega
  refine ⟨r, σ1, Runs.intro (fn := Try.f79) (by kernel_rfl) (by kernel_rfl) ⟨n2, fun m hm => ?_⟩, K1, fun _ => ⟨by omega, by omega, by simpa using hl, by simpa using hk⟩, fun h => by omega⟩
  have r2 := r2 m hm
  simp only at r2
  simp only [f79_eq]
  simp only [Option.bind_some, decide_eq_true_eq, decide_eq_false_iff_not, Bool.not_eq_true', Bool.not_true, Bool.not_false, Bool.false_eq_true, Bool.true_eq_false, Bool.not_eq_eq_eq_not, beq_self_eq_true, beqFT, beqTF, decide_true, decide_false, not_false_eq_true, not_true_eq_false, ne_eq, true_and, and_true, false_and, and_false, and_self, if_true, if_false, ite_true, ite_false, Bool.and_true, Bool.and_false, Bool.true_and, Bool.false_and, Bool.or_true, Bool.true_or, Bool.or_false, Bool.false_or, or_true, true_or, or_false, false_or, or_self, AV.asInt, AV.asBool, AV.asSl, AV.asPtr, AV.asFn, AV.asStr, AV.asMap, AV.asIfc, AV.item, List.length_cons, List.length_nil, List.getElem?_cons_zero, List.getElem?_cons_succ, Nat.zero_add, ← h1, e0, c1, c2, en, lpush, r2]
theorem zerosTo_mono (B : List Bool) {i j : Nat} (h : i ≤ j) : zerosTo B i ≤ zerosTo B j := by
  by_cases c : j ≤ B.length
  · rw [zeros_goto, zeros_goto]; exact goto_mono B false h c
  · rw [zerosTo_ge B (i := j) (by omega)]
    by_cases d : i ≤ B.length
    · rw [zeros_goto, zeros_goto]; exact goto_mono B false d (Nat.le_refl _)
    · rw [zerosTo_ge B (by omega)]; exact Nat.le_refl _
/-- A one is found at its place. -/
theorem select1_run {σ : Store} {p : Ptr} {B : List Bool} (v : Vec σ p B) {i : Nat} (hi : i < B.length) (hb : bitAt B i = true) :
    ∃ σ', Runs Try.prog 62 [.ptr p, .int .i64 (onesTo B i)] σ (.int .i64 i) σ' ∧ Kp σ.objs.length σ σ' := by
  obtain ⟨n1, r1⟩ := vec_ones v
  obtain ⟨r, σ', ⟨n2, r2⟩, K, h1, _⟩ := pick_run (g := 77) (f := onesTo B) v (fun σ' i v' => vec_rank v' i) (onesTo_zero B) (fun i j h => onesTo_mono B h) (onesTo_len B _) (onesTo B i : Nat)
  have s1 := onesTo_succ B i
  rw [if_pos hb] at s1
  have m1 := onesTo_mono B (i := i + 1) (j := B.length) (by omega)
  obtain ⟨g0, g1, g2, g3⟩ := h1 ⟨by omega, by omega⟩
  have e : r = i := by
    rcases Nat.lt_trichotomy r.toNat i with h | h | h
    · have := onesTo_mono B (i := r.toNat + 1) (j := i) (by omega); omega
    · omega
    · have := onesTo_mono B (i := i + 1) (j := r.toNat) (by omega); omega
  subst e
  refine ⟨σ', Runs.intro (fn := Try.f62) (by kernel_rfl) (by kernel_rfl) ⟨n1 + n2, fun m hm => ?_⟩, K⟩
  have r1 := r1 m (by omega)
  have r2 := r2 m (by omega)
  simp only at r1 r2
  simp only [f62_eq]
  simp only [Option.bind_some, decide_eq_true_eq, decide_eq_false_iff_not, Bool.not_eq_true', Bool.not_true, Bool.not_false, Bool.false_eq_true, Bool.true_eq_false, Bool.not_eq_eq_eq_not, beq_self_eq_true, beqFT, beqTF, decide_true, decide_false, not_false_eq_true, not_true_eq_false, ne_eq, true_and, and_true, false_and, and_false, and_self, if_true, if_false, ite_true, ite_false, Bool.and_true, Bool.and_false, Bool.true_and, Bool.false_and, Bool.or_true, Bool.true_or, Bool.or_false, Bool.false_or, or_true, true_or, or_false, false_or, or_self, AV.asInt, AV.asBool, AV.asSl, AV.asPtr, AV.asFn, AV.asStr, AV.asMap, AV.asIfc, AV.item, List.length_cons, List.length_nil, List.getElem?_cons_zero, List.getElem?_cons_succ, Nat.zero_add, r1, r2]
theorem select0_run {σ : Store} {p : Ptr} {B : List Bool} (v : Vec σ p B) {i : Nat} (hi : i < B.length) (hb : bitAt B i = false) :
    ∃ σ', Runs Try.prog 64 [.ptr p, .int .i64 (zerosTo B i)] σ (.int .i64 i) σ' ∧ Kp σ.objs.length σ σ' := by
  obtain ⟨n0, r0⟩ := vec_len v
  obtain ⟨n1, r1⟩ := vec_ones v
  have sm := v.small
  have ol := onesTo_len B B.length
  have zz : zerosTo B 0 = 0 := by simp [zerosTo]
  have zl : zerosTo B B.length ≤ B.length := by unfold zerosTo; omega
  obtain ⟨r, σ', ⟨n2, r2⟩, K, h1, _⟩ := pick_run (g := 63) (f := zerosTo B) v (fun σ' i v' => vec_zeros v' i) zz (fun i j h => zerosTo_mono B h) zl (zerosTo B i : Nat)
  have s1 := onesTo_succ B i
  rw [if_neg (by simp [hb])] at s1
  have s2 : zerosTo B (i + 1) = zerosTo B i + 1 := by
    have := onesTo_le B i
    unfold zerosTo; omega
  have m1 := zerosTo_mono B (i := i + 1) (j := B.length) (by omega)
  obtain ⟨g0, g1, g2, g3⟩ := h1 ⟨by omega, by omega⟩
  have e : r = i := by
    rcases Nat.lt_trichotomy r.toNat i with h | h | h
    · have := zerosTo_mono B (i := r.toNat + 1) (j := i) (by omega); omega
    · omega
    · have := zerosTo_mono B (i := i + 1) (j := r.toNat) (by omega); omega
  subst e
  have w1 : IntKind.wrap .i64 ((B.length : Int) - (onesTo B B.length : Nat)) = (zerosTo B B.length : Nat) := by unfold zerosTo; rw [wrap64 (by omega) (by omega)]; omega
  refine ⟨σ', Runs.intro (fn := Try.f64) (by kernel_rfl) (by kernel_rfl) ⟨n0 + n1 + n2, fun m hm => ?_⟩, K⟩
  have r0 := r0 m (by omega)
  have r1 := r1 m (by omega)
  have r2 := r2 m (by omega)
  simp only at r0 r1 r2
  simp only [f64_eq]
  simp only [Option.bind_some, decide_eq_true_eq, decide_eq_false_iff_not, Bool.not_eq_true', Bool.not_true, Bool.not_false, Bool.false_eq_true, Bool.true_eq_false, Bool.not_eq_eq_eq_not, beq_self_eq_true, beqFT, beqTF, decide_true, decide_false, not_false_eq_true, not_true_eq_false, ne_eq, true_and, and_true, false_and, and_false, and_self, if_true, if_false, ite_true, ite_false, Bool.and_true, Bool.and_false, Bool.true_and, Bool.false_and, Bool.or_true, Bool.true_or, Bool.or_false, Bool.false_or, or_true, true_or, or_false, false_or, or_self, AV.asInt, AV.asBool, AV.asSl, AV.asPtr, AV.asFn, AV.asStr, AV.asMap, AV.asIfc, AV.item, List.length_cons, List.length_nil, List.getElem?_cons_zero, List.getElem?_cons_succ, Nat.zero_add, r0, r1, w1, r2]
end Go.Ab
