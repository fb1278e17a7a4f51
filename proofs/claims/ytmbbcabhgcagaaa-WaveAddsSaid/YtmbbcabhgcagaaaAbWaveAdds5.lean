/- A part of the proof of the law WaveAdds: lemmas alone; what each says stands at it. No conditions. -/
import Derived.Test.YtmbbcabhgcagaaaAbWaveAdds4
import Derived.Test.YtmbbcabhgcagaaaAbWaveAdds1
import Derived.Test.YtmbbcabhgcagaaaAbWaveAdds2
import Derived.OpenShut
import Derived.WideShapes
/- What a wavelet matrix answers: the numbers there are. -/
namespace Go.Ab
open Go Go.Proofs Go.Ab.Wd Go.Ab.Bs Go.Ab.Sai
set_option linter.unusedVariables false
set_option linter.unusedSimpArgs false
/-- The numbers from one on, n of them, that are there, and how often. -/
def dis (s : List Int) (lo n : Nat) : List (Int × Int) := ((List.range' lo n).filter fun v : Nat => decide (0 < Bs.cnt (fun x => decide (x = (v : Int))) s)).map fun v : Nat => ((v : Int), ((Bs.cnt (fun x => decide (x = (v : Int))) s : Nat) : Int))
theorem dis_split (s : List Int) (lo a b : Nat) : dis s lo (a + b) = dis s lo a ++ dis s (lo + a) b := by
  unfold dis
  rw [← List.map_append, ← List.filter_append]
  rw [List.range'_append_1]
theorem dis_none {s : List Int} {lo n : Nat} (h : ∀ x ∈ s, ¬ (lo ≤ x.toNat ∧ x.toNat < lo + n)) : dis s lo n = [] := by
  unfold dis
  rw [List.filter_eq_nil_iff.2]
  · rfl
  · intro v hv
    simp only [List.mem_range'_1] at hv
    have : Bs.cnt (fun x => decide (x = (v : Int))) s = 0 := by
      unfold Bs.cnt; rw [List.filter_eq_nil_iff.2]
      · rfl
      · intro x hx; have := h x hx; simp; rintro rfl; simp at this; omega
    rw [this]; simp
def pairsL (l : List (Int × Int)) : List AV := l.flatMap fun p => [.int .i64 p.1, .int .i64 p.2]
theorem pairsL_append (a b : List (Int × Int)) : pairsL (a ++ b) = pairsL a ++ pairsL b := by simp [pairsL]
theorem pairsL_length (a : List (Int × Int)) : (pairsL a).length = a.length * 2 := by
  induction a with
  | nil => rfl
  | cons x a ih => rw [show pairsL (x :: a) = [.int .i64 x.1, .int .i64 x.2] ++ pairsL a by simp [pairsL], List.length_append, ih]; simp; omega
theorem read2 (σ : Store) (v u : AV) (cp : Option Nat) : Store.readSl (σ.push [v, u] 2) ⟨some (σ.objs.length, 0), 1, cp⟩ 2 = some [v, u] := by
  simp [Store.readSl, Store.push]
theorem dis_length (s : List Int) (lo n : Nat) : (dis s lo n).length ≤ n := by
  unfold dis; rw [List.length_map]; have := List.length_filter_le (fun v : Nat => decide (0 < Bs.cnt (fun x => decide (x = (v : Int))) s)) (List.range' lo n); rw [List.length_range'] at this; exact this
section
variable {σ0 : Store} {p : Ptr} {l s : List Int} {w : Nat}
theorem distinct_run (M : Mat σ0 p l w) (hp : σ0.prot ≤ σ0.objs.length) (hsl : s.length ≤ 4194304) (s0 : ∀ x ∈ s, 0 ≤ x) : ∀ (k : Nat) (σ : Store) (h : Hdl) (L : List (Int × Int)) (c a : Nat), k ≤ w → c < 2 ^ (w - k) → L.length ≤ c * 2 ^ k → Kp σ0.objs.length σ0 σ → Grow σ σ0.objs.length h 2 (pairsL L) → Part (Bs.rowAt w l k) a (s.filter (pre k c)) →
    ∃ h' σ', Runs Try.prog 66 [.ptr p, .slice h, .int .i64 (w - k : Nat), .int .i64 c, .int .i64 a, .int .i64 (a + (s.filter (pre k c)).length : Nat)] σ (.slice h') σ' ∧ Kp σ0.objs.length σ0 σ' ∧ Grow σ' σ0.objs.length h' 2 (pairsL (L ++ dis s (c * 2 ^ k) (2 ^ k))) := by
  intro k
  induction k with
  | zero =>
      intro σ h L c a hk hc hL K G P
      by_cases he : s.filter (pre 0 c) = []
      · have hd : dis s (c * 2 ^ 0) (2 ^ 0) = [] := dis_none fun x hx => by
          have h1 := List.filter_eq_nil_iff.1 he x hx
          simp only [pre, decide_eq_true_eq] at h1
          rintro ⟨h2, h3⟩
          apply h1
          exact Nat.div_eq_of_lt_le (by omega) (by rw [Nat.add_mul]; omega)
        rw [hd, List.append_nil, he]
        refine ⟨h, σ, Runs.intro (fn := Try.f66) (by kernel_rfl) (by kernel_rfl) (Ev.of fun m => ?_), K, G⟩
        simp only [f66_eq]
        simp only [Option.bind_some, decide_eq_true_eq, decide_eq_false_iff_not, Bool.not_eq_true', Bool.not_true, Bool.not_false, Bool.false_eq_true, Bool.true_eq_false, Bool.not_eq_eq_eq_not, beq_self_eq_true, beqFT, beqTF, decide_true, decide_false, not_false_eq_true, not_true_eq_false, ne_eq, true_and, and_true, false_and, and_false, and_self, if_true, if_false, ite_true, ite_false, Bool.and_true, Bool.and_false, Bool.true_and, Bool.false_and, Bool.or_true, Bool.true_or, Bool.or_false, Bool.false_or, or_true, true_or, or_false, false_or, or_self, AV.asInt, AV.asBool, AV.asSl, AV.asPtr, AV.asFn, AV.asStr, AV.asMap, AV.asIfc, AV.item, List.length_cons, List.length_nil, List.getElem?_cons_zero, List.getElem?_cons_succ, Nat.zero_add, Nat.add_zero]
      have hpos : 0 < (s.filter (pre 0 c)).length := List.length_pos_iff.2 he
      have M1 : Mat σ p l w := M.kp K
      have hlen := K.len
      have hpr : σ.prot ≤ σ0.objs.length := by rw [K.prot]; exact hp
      obtain ⟨b, hl, rfl, e0, e1, e2, ln, V⟩ := M1.facts
      have hw := M.wid
      have sm := M.small
      have P0 := P.le
      rw [rowAt_length] at P0
      have fl := List.length_filter_le (pre 0 c) s
      have ne : ¬ ((a : Nat) : Int) = (a + (s.filter (pre 0 c)).length : Nat) := by omega
      have pw : 2 ^ (w - 0) ≤ 2 ^ 24 := Nat.pow_le_pow_right (by omega) (by omega)
      have wd : IntKind.wrap .i64 (((a + (s.filter (pre 0 c)).length : Nat) : Int) - a) = ((s.filter (pre 0 c)).length : Nat) := by rw [wrap64 (by omega) (by omega)]; omega
      have hf := filt_nat s0 (c := (c : Int)) (by omega)
      rw [Int.toNat_natCast] at hf
      have hd : dis s (c * 2 ^ 0) (2 ^ 0) = [((c : Int), (((s.filter (pre 0 c)).length : Nat) : Int))] := by
        rw [hf] at hpos ⊢
        simp only [dis, Nat.pow_zero, Nat.mul_one, List.range'_one]
        rw [List.filter_cons_of_pos (by simpa using hpos)]; rfl
      rw [hd]
      have G1 := G.kp (Kp.push [.int .i64 c, .int .i64 ((s.filter (pre 0 c)).length : Nat)] 2 (Nat.le_refl _))
      have hh := G1.sl.len
      rw [pairsL_length] at hh
      obtain ⟨h', σ', ea, Ka, Sa, Oa, _, _⟩ := app_spec (xs := [.int .i64 c, .int .i64 ((s.filter (pre 0 c)).length : Nat)]) (by_ := 16) (m := 1) G1.sl G1.own (by simpa using hpr) (by simp; omega) (by omega) (by simp) rfl (by omega) (by simp at hL; omega)
      refine ⟨h', σ', Runs.intro (fn := Try.f66) (by kernel_rfl) (by kernel_rfl) (Ev.of fun m => ?_), ((K.then (Kp.push _ _ (Nat.le_refl _)) hlen).trans Ka), ⟨?_, Oa⟩⟩
      · simp only [f66_eq]
        simp only [Option.bind_some, decide_eq_true_eq, decide_eq_false_iff_not, Bool.not_eq_true', Bool.not_true, Bool.not_false, Bool.false_eq_true, Bool.true_eq_false, Bool.not_eq_eq_eq_not, beq_self_eq_true, beqFT, beqTF, decide_true, decide_false, not_false_eq_true, not_true_eq_false, ne_eq, true_and, and_true, false_and, and_false, and_self, if_true, if_false, ite_true, ite_false, Bool.and_true, Bool.and_false, Bool.true_and, Bool.false_and, Bool.or_true, Bool.true_or, Bool.or_false, Bool.false_or, or_true, true_or, or_false, false_or, or_self, AV.asInt, AV.asBool, AV.asSl, AV.asPtr, AV.asFn, AV.asStr, AV.asMap, AV.asIfc, AV.item, List.length_cons, List.length_nil, List.getElem?_cons_zero, List.getElem?_cons_succ, Nat.zero_add, ne, e1, Nat.sub_zero, wd, read2, ea]
      · rw [pairsL_append]; exact Sa
  | succ k ih =>
      intro σ h L c a hk hc hL K G P
      by_cases he : s.filter (pre (k + 1) c) = []
      · have hd : dis s (c * 2 ^ (k + 1)) (2 ^ (k + 1)) = [] := dis_none fun x hx => by
          have h1 := List.filter_eq_nil_iff.1 he x hx
          simp only [pre, decide_eq_true_eq] at h1
          rintro ⟨h2, h3⟩
          apply h1
          exact Nat.div_eq_of_lt_le (by omega) (by rw [Nat.add_mul]; omega)
        rw [hd, List.append_nil, he]
        refine ⟨h, σ, Runs.intro (fn := Try.f66) (by kernel_rfl) (by kernel_rfl) (Ev.of fun m => ?_), K, G⟩
        simp only [f66_eq]
        simp only [Option.bind_some, decide_eq_true_eq, decide_eq_false_iff_not, Bool.not_eq_true', Bool.not_true, Bool.not_false, Bool.false_eq_true, Bool.true_eq_false, Bool.not_eq_eq_eq_not, beq_self_eq_true, beqFT, beqTF, decide_true, decide_false, not_false_eq_true, not_true_eq_false, ne_eq, true_and, and_true, false_and, and_false, and_self, if_true, if_false, ite_true, ite_false, Bool.and_true, Bool.and_false, Bool.true_and, Bool.false_and, Bool.or_true, Bool.true_or, Bool.or_false, Bool.false_or, or_true, true_or, or_false, false_or, or_self, AV.asInt, AV.asBool, AV.asSl, AV.asPtr, AV.asFn, AV.asStr, AV.asMap, AV.asIfc, AV.item, List.length_cons, List.length_nil, List.getElem?_cons_zero, List.getElem?_cons_succ, Nat.zero_add, Nat.add_zero]
      have hpos : 0 < (s.filter (pre (k + 1) c)).length := List.length_pos_iff.2 he
      have M1 : Mat σ p l w := M.kp K
      have hlen := K.len
      have hpr : σ.prot ≤ σ0.objs.length := by rw [K.prot]; exact hp
      obtain ⟨b, hl, rfl, e0, e1, e2, ln, V⟩ := M1.facts
      have hw := M.wid
      have sm := M.small
      have P0 := P.le
      rw [rowAt_length] at P0
      have fl := List.length_filter_le (pre (k + 1) c) s
      have ne : ¬ ((a : Nat) : Int) = (a + (s.filter (pre (k + 1) c)).length : Nat) := by omega
      have pw : 2 ^ (w - (k + 1)) ≤ 2 ^ 24 := Nat.pow_le_pow_right (by omega) (by omega)
      have st0 := P.step (by omega) false
      have st1 := P.step (by omega) true
      obtain ⟨j, hj⟩ : ∃ j, w = j + (k + 1) := ⟨w - k - 1, by omega⟩
      rw [← lev_eq l hj] at st0 st1
      simp only [bn, Bool.false_eq_true, if_false, if_true, Nat.add_zero] at st0 st1
      rw [show w - (k + 1) = j by omega] at hc pw ⊢
      obtain ⟨lv, llv, vq⟩ := V j (by omega)
      obtain ⟨n1, r1⟩ := down_run vq (a : Nat) false
      obtain ⟨n2, r2⟩ := down_run vq (a + (s.filter (pre (k + 1) c)).length : Nat) false
      rw [Int.toNat_natCast] at r1 r2
      rw [st0.2] at r2
      have hwk : w - k = j + 1 := by omega
      have pe : 2 ^ (k + 1) = 2 ^ k + 2 ^ k := by rw [Nat.pow_succ]; omega
      have m1 : 2 * c * 2 ^ k = c * 2 ^ (k + 1) := by rw [Nat.pow_succ, Nat.mul_comm 2 c, Nat.mul_assoc, Nat.mul_comm 2 (2 ^ k)]
      have m2 : (2 * c + 1) * 2 ^ k = c * 2 ^ (k + 1) + 2 ^ k := by rw [Nat.add_mul, m1, Nat.one_mul]
      obtain ⟨h1, σ1, ⟨n3, r3⟩, K3, G3⟩ := ih σ h L (2 * c) (goto (lev w l j) a false) (by omega) (by rw [hwk, Nat.pow_succ]; omega) (by rw [m1]; exact hL) K G st0.1
      have M3 : Mat σ1 (some (b, 0)) l w := M.kp K3
      obtain ⟨b', hl', eb, e0', e1', e2', ln', V'⟩ := M3.facts
      injection eb with eb; injection eb with eb _; subst eb
      have K13 : σ1.ldSl (Ptr.add (some (b, 0)) 2) = some hl := by
        obtain ⟨bb, hb, ps, e, R, _⟩ := M.ex
        injection e with e; injection e with e _; subst e
        have u1 := row_sl (R.kp K R.lt) (o := 2) rfl
        have u2 := row_sl (R.kp K3 R.lt) (o := 2) rfl
        rw [u1] at e2; rw [u2, e2]
      have V3 : Vec σ1 lv (lev w l j) := by
        obtain ⟨bb, hb, ps, e, R, S, _, VV⟩ := M.ex
        injection e with e; injection e with e _; subst e
        have u1 := row_sl (R.kp K R.lt) (o := 2) rfl
        rw [u1] at e2; injection e2 with e2; subst e2
        obtain ⟨q, hq, vq0⟩ := VV j (by omega)
        have u3 := ptrs_rd (Store.Sl.kp S K) hq
        rw [u3] at llv; injection llv with llv; subst llv
        exact vq0.kp K3
      obtain ⟨n4, r4⟩ := down_run V3 (a : Nat) true
      obtain ⟨n5, r5⟩ := down_run V3 (a + (s.filter (pre (k + 1) c)).length : Nat) true
      rw [Int.toNat_natCast] at r4 r5
      rw [st1.2] at r5
      have dl := dis_length s (c * 2 ^ (k + 1)) (2 ^ k)
      rw [m1] at G3
      obtain ⟨h2, σ2, ⟨n6, r6⟩, K6, G6⟩ := ih σ1 h1 (L ++ dis s (c * 2 ^ (k + 1)) (2 ^ k)) (2 * c + 1) (goto (lev w l j) a true) (by omega) (by rw [hwk, Nat.pow_succ]; omega) (by rw [m2, List.length_append]; omega) K3 G3 st1.1
      rw [m2, List.append_assoc, ← dis_split, ← pe] at G6
      rw [hwk] at r3 r6
      refine ⟨h2, σ2, Runs.intro (fn := Try.f66) (by kernel_rfl) (by kernel_rfl) ⟨n1 + n2 + n3 + n4 + n5 + n6, fun m hm => ?_⟩, K6, G6⟩
      have r1 := r1 m (by omega)
      have r2 := r2 m (by omega)
      have r3 := r3 m (by omega)
      have r4 := r4 m (by omega)
      have r5 := r5 m (by omega)
      have r6 := r6 m (by omega)
      simp only at r1 r2 r3 r4 r5 r6
      have j0 : (0 : Int) ≤ j := by omega
      have j1 : (j : Int) < hl.len := by omega
      have jw : ¬ (j : Int) = w := by omega
      have w1 : IntKind.wrap .i64 ((j : Int) + 1) = ((j + 1 : Nat) : Int) := by rw [wrap64 (by omega) (by omega)]; omega
      have w2 : IntKind.wrap .i64 (2 * (c : Int)) = ((2 * c : Nat) : Int) := by rw [wrap64 (by omega) (by omega)]; omega
      have w3 : IntKind.wrap .i64 (((2 * c : Nat) : Int) + 1) = ((2 * c + 1 : Nat) : Int) := by rw [wrap64 (by omega) (by omega)]; omega
      simp only [f66_eq]
      simp only [Option.bind_some, decide_eq_true_eq, decide_eq_false_iff_not, Bool.not_eq_true', Bool.not_true, Bool.not_false, Bool.false_eq_true, Bool.true_eq_false, Bool.not_eq_eq_eq_not, beq_self_eq_true, beqFT, beqTF, decide_true, decide_false, not_false_eq_true, not_true_eq_false, ne_eq, true_and, and_true, false_and, and_false, and_self, if_true, if_false, ite_true, ite_false, Bool.and_true, Bool.and_false, Bool.true_and, Bool.false_and, Bool.or_true, Bool.true_or, Bool.or_false, Bool.false_or, or_true, true_or, or_false, false_or, or_self, AV.asInt, AV.asBool, AV.asSl, AV.asPtr, AV.asFn, AV.asStr, AV.asMap, AV.asIfc, AV.item, List.length_cons, List.length_nil, List.getElem?_cons_zero, List.getElem?_cons_succ, Nat.zero_add, ne, e1, jw, e2, j0, j1, llv, r1, r2, w1, w2, r3, r4, r5, w3, r6]
theorem matDistinct_run (M : Mat σ0 p l w) (hp : σ0.prot ≤ σ0.objs.length) (a b : Int) :
    ∃ h' σ', Runs Try.prog 43 [.ptr p, .int .i64 a, .int .i64 b] σ0 (.slice h') σ' ∧ Kp σ0.objs.length σ0 σ' ∧ Grow σ' σ0.objs.length h' 2 (pairsL (dis (seg l a b) 0 (2 ^ w))) := by
  obtain ⟨k1, r1⟩ := within_run M a b
  obtain ⟨k2, r2⟩ := matLen_run M
  have sm := M.small
  by_cases c1 : (l.length : Int) ≤ segLo a
  · rw [seg_empty (by omega), dis_none (by simp)]
    refine ⟨Hdl.nil, σ0, Runs.intro (fn := Try.f43) (by kernel_rfl) (by kernel_rfl) ⟨k1 + k2, fun k hk => ?_⟩, Kp.refl _ _, Grow.nil _ _ _⟩
    have r1 := r1 k (by omega)
    have r2 := r2 k (by omega)
    simp only at r1 r2
    simp only [f43_eq]
    simp only [Option.bind_some, decide_eq_true_eq, decide_eq_false_iff_not, Bool.not_eq_true', Bool.not_true, Bool.not_false, Bool.false_eq_true, Bool.true_eq_false, Bool.not_eq_eq_eq_not, beq_self_eq_true, beqFT, beqTF, decide_true, decide_false, not_false_eq_true, not_true_eq_false, ne_eq, true_and, and_true, false_and, and_false, and_self, if_true, if_false, ite_true, ite_false, Bool.and_true, Bool.and_false, Bool.true_and, Bool.false_and, Bool.or_true, Bool.true_or, Bool.or_false, Bool.false_or, or_true, true_or, or_false, false_or, or_self, AV.asInt, AV.asBool, AV.asSl, AV.asPtr, AV.asFn, AV.asStr, AV.asMap, AV.asIfc, AV.item, List.length_cons, List.length_nil, List.getElem?_cons_zero, List.getElem?_cons_succ, Nat.zero_add, r1, r2, c1]
  obtain ⟨s1, s2, s3⟩ := seg_length (l := l) (a := a) (b := b) (by omega)
  obtain ⟨s, hs⟩ : ∃ s, s = seg l a b := ⟨_, rfl⟩
  have sw : ∀ x ∈ s, x.toNat < 2 ^ w := fun x hx => M.nat x (seg_mem (hs ▸ hx))
  have s0 : ∀ x ∈ s, 0 ≤ x := fun x hx => (M.rng x (seg_mem (hs ▸ hx))).1
  have PT := Part.top (w := w) M.nat s2 s3
  rw [← hs] at s1 ⊢
  have hs' : s = (l.take (segHi l a b)).drop (segLo a) := hs
  rw [← hs'] at PT
  obtain ⟨h', σ', ⟨k3, r3⟩, K3, G3⟩ := distinct_run (s := s) M hp (by omega) s0 w σ0 Hdl.nil [] 0 (segLo a) (Nat.le_refl _) (by simp) (by simp) (Kp.refl _ _) (Grow.nil _ _ _) PT
  rw [Nat.zero_mul, List.nil_append] at G3
  rw [List.filter_eq_self.2 fun x hx => pre_top (sw x hx), s1, show segLo a + (segHi l a b - segLo a) = segHi l a b by omega, Nat.sub_self] at r3
  refine ⟨h', σ', Runs.intro (fn := Try.f43) (by kernel_rfl) (by kernel_rfl) ⟨k1 + k2 + k3, fun k hk => ?_⟩, K3, G3⟩
  have r1 := r1 k (by omega)
  have r2 := r2 k (by omega)
  have r3 := r3 k (by omega)
  simp only at r1 r2 r3
  simp only [f43_eq]
  simp only [Option.bind_some, decide_eq_true_eq, decide_eq_false_iff_not, Bool.not_eq_true', Bool.not_true, Bool.not_false, Bool.false_eq_true, Bool.true_eq_false, Bool.not_eq_eq_eq_not, beq_self_eq_true, beqFT, beqTF, decide_true, decide_false, not_false_eq_true, not_true_eq_false, ne_eq, true_and, and_true, false_and, and_false, and_self, if_true, if_false, ite_true, ite_false, Bool.and_true, Bool.and_false, Bool.true_and, Bool.false_and, Bool.or_true, Bool.true_or, Bool.or_false, Bool.false_or, or_true, true_or, or_false, false_or, or_self, AV.asInt, AV.asBool, AV.asSl, AV.asPtr, AV.asFn, AV.asStr, AV.asMap, AV.asIfc, AV.item, List.length_cons, List.length_nil, List.getElem?_cons_zero, List.getElem?_cons_succ, Nat.zero_add, r1, r2, c1]
  erw [r3]
  rfl
end
end Go.Ab

/- The law WaveSorts. -/
namespace Go.Ab
open Go Go.Proofs Go.Ab.Wd Go.Ab.Bs Go.Ab.Sai
set_option linter.unusedVariables false
set_option linter.unusedSimpArgs false
theorem cnt_lt_le {v u : Int} (h : v < u) (s : List Int) : Bs.cnt (fun x => decide (x < v)) s + Bs.cnt (fun x => decide (x = v)) s ≤ Bs.cnt (fun x => decide (x < u)) s := by
  induction s with
  | nil => simp [Bs.cnt]
  | cons x s ih =>
    simp only [Bs.cnt_cons, decide_eq_true_eq]
    split <;> split <;> split <;> omega
theorem seg_self {l : List Int} {a b : Nat} (hab : a ≤ b) (hb : b ≤ l.length) : seg l a b = (l.take b).drop a ∧ segLo (a : Int) = a ∧ segHi l a b = b := by
  have e1 : segLo (a : Int) = a := by unfold segLo; omega
  have e2 : segHi l a b = b := by unfold segHi; omega
  exact ⟨by unfold seg; rw [e1, e2], e1, e2⟩
theorem take_seg {l : List Int} {a b : Nat} (hab : a ≤ b) (hb : b ≤ l.length) : l.take b = l.take a ++ seg l a b := by
  rw [(seg_self hab hb).1]
  conv => lhs; rw [← List.take_append_drop a (l.take b)]
  rw [List.take_take, Nat.min_eq_left hab]
theorem law_WaveSorts {σ : Store} {h : Hdl} {l : List Int} {a0 a1 : Int} (hT : σ.Ints h l) (hH : σ.Has h) (hn : l.length < 2 ^ 44) (hw : ∀ n ∈ l, IntKind.min .i64 ≤ n ∧ n ≤ IntKind.max .i64)
    (ha0 : IntKind.min .i64 ≤ a0 ∧ a0 ≤ IntKind.max .i64) (ha1 : IntKind.min .i64 ≤ a1 ∧ a1 ≤ IntKind.max .i64) (hp : σ.prot ≤ σ.objs.length) :
    ∃ σ', Runs Try.prog 12 [.slice h, .agg [.int .i64 a0, .int .i64 a1]] σ (.bool true) σ' := by
  have ll := hT.ilen
  obtain ⟨σ1, h1⟩ : ∃ s, s = σ.push [.int .i64 a0, .int .i64 a1] 2 := ⟨_, rfl⟩
  have K1 : Kp σ.objs.length σ σ1 := by rw [h1]; exact Kp.push _ _ (Nat.le_refl _)
  have R1 : σ1.Row σ.objs.length 2 [.int .i64 a0, .int .i64 a1] := by rw [h1]; exact Store.Row.new
  have hp1 : σ1.prot ≤ σ1.objs.length := by rw [K1.prot]; have := K1.len; omega
  have hT1 := Store.Sl.kp hT K1
  obtain ⟨k0, r0⟩ := first13_told σ1
  by_cases c0 : (200 : Int) < h.len
  · refine ⟨σ1, Runs.intro (fn := Try.f12) (by kernel_rfl) (by kernel_rfl) ⟨k0, fun k hk => ?_⟩⟩
    have r0 := r0 k hk
    simp only at r0
    simp only [f12_eq]
    simp only [Option.bind_some, decide_eq_true_eq, decide_eq_false_iff_not, Bool.not_eq_true', Bool.not_true, Bool.not_false, Bool.false_eq_true, Bool.true_eq_false, Bool.not_eq_eq_eq_not, beq_self_eq_true, beqFT, beqTF, decide_true, decide_false, not_false_eq_true, not_true_eq_false, ne_eq, true_and, and_true, false_and, and_false, and_self, if_true, if_false, ite_true, ite_false, Bool.and_true, Bool.and_false, Bool.true_and, Bool.false_and, Bool.or_true, Bool.true_or, Bool.or_false, Bool.false_or, or_true, true_or, or_false, false_or, or_self, AV.asInt, AV.asBool, AV.asSl, AV.asPtr, AV.asFn, AV.asStr, AV.asMap, AV.asIfc, AV.item, List.length_cons, List.length_nil, List.getElem?_cons_zero, List.getElem?_cons_succ, Nat.zero_add, ← h1, r0, c0]
  have ln : l.length ≤ 200 := by omega
  obtain ⟨k1, r1⟩ := right13_run (al := 300) hT1 (by omega)
  cases hok : okW l 300 with
  | false =>
    rw [hok] at r1
    refine ⟨σ1, Runs.intro (fn := Try.f12) (by kernel_rfl) (by kernel_rfl) ⟨k0 + k1, fun k hk => ?_⟩⟩
    have r0 := r0 k (by omega)
    have r1 := r1 k (by omega)
    simp only at r0 r1
    simp only [f12_eq]
    simp only [Option.bind_some, decide_eq_true_eq, decide_eq_false_iff_not, Bool.not_eq_true', Bool.not_true, Bool.not_false, Bool.false_eq_true, Bool.true_eq_false, Bool.not_eq_eq_eq_not, beq_self_eq_true, beqFT, beqTF, decide_true, decide_false, not_false_eq_true, not_true_eq_false, ne_eq, true_and, and_true, false_and, and_false, and_self, if_true, if_false, ite_true, ite_false, Bool.and_true, Bool.and_false, Bool.true_and, Bool.false_and, Bool.or_true, Bool.true_or, Bool.or_false, Bool.false_or, or_true, true_or, or_false, false_or, or_self, AV.asInt, AV.asBool, AV.asSl, AV.asPtr, AV.asFn, AV.asStr, AV.asMap, AV.asIfc, AV.item, List.length_cons, List.length_nil, List.getElem?_cons_zero, List.getElem?_cons_succ, Nat.zero_add, ← h1, r0, c0, r1]
  | true =>
  rw [hok] at r1
  obtain ⟨p, w, σ2, ⟨k2, r2⟩, K2, M, W, pn⟩ := made_run (most := 300) hT1 hp1 hok
  have R2 := R1.kp K2 R1.lt
  have e0 := row_int R2 (o := 0) rfl
  have e1 := row_int R2 (o := 1) rfl
  obtain ⟨a, ea⟩ : ∃ a : Nat, a = (max 0 (min a0 l.length)).toNat := ⟨_, rfl⟩
  obtain ⟨b, eb⟩ : ∃ b : Nat, b = (max (a : Int) (min a1 l.length)).toNat := ⟨_, rfl⟩
  have ma : mx2 (Int.ofNat 0) (mn2 a0 l.length) = (a : Int) := by rw [mx2_eq, mn2_eq]; simp only [Int.ofNat_eq_natCast]; omega
  have mb : mx2 (a : Int) (mn2 a1 l.length) = (b : Int) := by rw [mx2_eq, mn2_eq]; omega
  have hab : a ≤ b := by omega
  have hbl : b ≤ l.length := by omega
  have wd : IntKind.wrap .i64 ((b : Int) - a) = ((b - a : Nat) : Int) := by rw [wrap64 (by omega) (by omega)]; omega
  obtain ⟨s, hs⟩ : ∃ s, s = seg l a b := ⟨_, rfl⟩
  have sl : s.length = b - a := by rw [hs, (seg_self hab hbl).1]; simp; omega
  have tk : l.take b = l.take a ++ s := by rw [hs]; exact take_seg hab hbl
  have s0 : ∀ x ∈ s, 0 ≤ x ∧ x ≤ 300 := fun x hx => (okW_iff.1 hok).2.2.2 x (seg_mem (hs ▸ hx))
  obtain ⟨r, e, rfl⟩ := EvI.up (f := fun k s => stepF Try.prog (gm Try.prog k) drawn k Try.f12 [1, 1, 1, 1, 1, 1, 1, 0, 1, 0] [44, 43, 10, 9, 8, 7, 5] s) (b - a)
    (fun i st => ∃ ahead last : Int, st = ([.int .i64 i, .int .i64 (b - a : Nat), .int .i64 ahead, .int .i64 last, .int .i64 b, .int .i64 a, .ptr p], σ2) ∧
      ((i = 0 ∧ last = -1) ∨ (0 < i ∧ 0 ≤ last ∧ ahead = (Bs.cnt (fun x => decide (x < last)) s : Nat) ∧ Bs.cnt (fun x => decide (x < last)) s < i ∧ i ≤ Bs.cnt (fun x => decide (x < last)) s + Bs.cnt (fun x => decide (x = last)) s)))
    (fun r => r = (AX.exit 0, [(8, .int .i64 b), (7, .int .i64 a), (5, .ptr p)], σ2))
    (by
      rintro i st hi ⟨ahead, last, rfl, hI⟩
      have i1 : (i : Int) < (b - a : Nat) := by omega
      have w1 := wsucc hi (by omega)
      obtain ⟨v, ⟨n1, q1⟩, hv, _⟩ := quantile_run M a b i
      rw [← hs] at hv
      obtain ⟨v0, v1, v2⟩ := hv ⟨by omega, by omega⟩
      obtain ⟨n2, q2⟩ := below_run M a b v
      obtain ⟨n3, q3⟩ := matRank_run M v b
      obtain ⟨n4, q4⟩ := matRank_run M v a
      rw [← hs] at q2
      rw [Int.toNat_natCast] at q3 q4
      have ec : Bs.cnt (fun x => decide (x = v)) (l.take b) = Bs.cnt (fun x => decide (x = v)) (l.take a) + Bs.cnt (fun x => decide (x = v)) s := by rw [tk, cnt_append]
      have d1 : ¬ ((Bs.cnt (fun x => decide (x = v)) (l.take b) : Nat) : Int) = (Bs.cnt (fun x => decide (x = v)) (l.take a) : Nat) := by omega
      have d2 : ¬ v < last := by
        intro hlt
        rcases hI with ⟨h1, h2⟩ | ⟨h1, h2, h3, h4, h5⟩
        · omega
        · have := cnt_lt_le hlt s; omega
      by_cases d3 : last < v
      · have d4 : ((Bs.cnt (fun x => decide (x < v)) s : Nat) : Int) = i := by
          rcases hI with ⟨h1, h2⟩ | ⟨h1, h2, h3, h4, h5⟩
          · omega
          · have := cnt_lt_le d3 s; omega
        refine ⟨([.int .i64 (i + 1 : Nat), .int .i64 (b - a : Nat), .int .i64 i, .int .i64 v, .int .i64 b, .int .i64 a, .ptr p], σ2), ⟨n1 + n2 + n3 + n4, fun k hk => ?_⟩, (i : Int), v, rfl, .inr ⟨by omega, v0, by omega, by omega, by omega⟩⟩
        have q1 := q1 k (by omega)
        have q2 := q2 k (by omega)
        have q3 := q3 k (by omega)
        have q4 := q4 k (by omega)
        simp only at q1 q2 q3 q4
        simp only [f12_L1111111010]
        simp only [Option.bind_some, decide_eq_true_eq, decide_eq_false_iff_not, Bool.not_eq_true', Bool.not_true, Bool.not_false, Bool.false_eq_true, Bool.true_eq_false, Bool.not_eq_eq_eq_not, beq_self_eq_true, beqFT, beqTF, decide_true, decide_false, not_false_eq_true, not_true_eq_false, ne_eq, true_and, and_true, false_and, and_false, and_self, if_true, if_false, ite_true, ite_false, Bool.and_true, Bool.and_false, Bool.true_and, Bool.false_and, Bool.or_true, Bool.true_or, Bool.or_false, Bool.false_or, or_true, true_or, or_false, false_or, or_self, AV.asInt, AV.asBool, AV.asSl, AV.asPtr, AV.asFn, AV.asStr, AV.asMap, AV.asIfc, AV.item, List.length_cons, List.length_nil, List.getElem?_cons_zero, List.getElem?_cons_succ, Nat.zero_add, i1, q1, d2, d3, q2, d4, q3, q4, d1, w1]
      · have ev : v = last := by omega
        subst ev
        rcases hI with ⟨h1, h2⟩ | ⟨h1, h2, h3, h4, h5⟩
        · omega
        · have d4 : ((Bs.cnt (fun x => decide (x < v)) s : Nat) : Int) = ahead := by omega
          refine ⟨([.int .i64 (i + 1 : Nat), .int .i64 (b - a : Nat), .int .i64 ahead, .int .i64 v, .int .i64 b, .int .i64 a, .ptr p], σ2), ⟨n1 + n2 + n3 + n4, fun k hk => ?_⟩, ahead, v, rfl, .inr ⟨by omega, v0, by omega, by omega, by omega⟩⟩
          have q1 := q1 k (by omega)
          have q2 := q2 k (by omega)
          have q3 := q3 k (by omega)
          have q4 := q4 k (by omega)
          simp only at q1 q2 q3 q4
          simp only [f12_L1111111010]
          simp only [Option.bind_some, decide_eq_true_eq, decide_eq_false_iff_not, Bool.not_eq_true', Bool.not_true, Bool.not_false, Bool.false_eq_true, Bool.true_eq_false, Bool.not_eq_eq_eq_not, beq_self_eq_true, beqFT, beqTF, decide_true, decide_false, not_false_eq_true, not_true_eq_false, ne_eq, true_and, and_true, false_and, and_false, and_self, if_true, if_false, ite_true, ite_false, Bool.and_true, Bool.and_false, Bool.true_and, Bool.false_and, Bool.or_true, Bool.true_or, Bool.or_false, Bool.false_or, or_true, true_or, or_false, false_or, or_self, AV.asInt, AV.asBool, AV.asSl, AV.asPtr, AV.asFn, AV.asStr, AV.asMap, AV.asIfc, AV.item, List.length_cons, List.length_nil, List.getElem?_cons_zero, List.getElem?_cons_succ, Nat.zero_add, i1, q1, d2, q2, d4, q3, q4, d1, w1])
    (by
      rintro st ⟨ahead, last, rfl, _⟩
      exact ⟨_, Ev.of fun k => by simp only [f12_L1111111010]; simp only [Option.bind_some, decide_eq_true_eq, decide_eq_false_iff_not, Bool.not_eq_true', Bool.not_true, Bool.not_false, Bool.false_eq_true, Bool.true_eq_false, Bool.not_eq_eq_eq_not, beq_self_eq_true, beqFT, beqTF, decide_true, decide_false, not_false_eq_true, not_true_eq_false, ne_eq, true_and, and_true, false_and, and_false, and_self, if_true, if_false, ite_true, ite_false, Bool.and_true, Bool.and_false, Bool.true_and, Bool.false_and, Bool.or_true, Bool.true_or, Bool.or_false, Bool.false_or, or_true, true_or, or_false, false_or, or_self, AV.asInt, AV.asBool, AV.asSl, AV.asPtr, AV.asFn, AV.asStr, AV.asMap, AV.asIfc, AV.item, List.length_cons, List.length_nil, List.getElem?_cons_zero, List.getElem?_cons_succ, Nat.zero_add, Int.lt_irrefl], rfl⟩)
    (s := ([.int .i64 0, .int .i64 (b - a : Nat), .int .i64 0, .int .i64 (-1), .int .i64 b, .int .i64 a, .ptr p], σ2)) ⟨0, -1, rfl, .inl ⟨rfl, rfl⟩⟩
  obtain ⟨n3, e⟩ := loopF_ev e
  obtain ⟨v, ⟨n4, q4⟩, _, hv⟩ := quantile_run M a b (b - a : Nat)
  rw [← hs] at hv
  have hv := hv (by omega)
  obtain ⟨n5, q5⟩ := below_run M a b 301
  rw [← hs] at q5
  have ea5 : Bs.cnt (fun x => decide (x < 301)) s = b - a := by
    rw [← sl]; unfold Bs.cnt; rw [List.filter_eq_self.2]; intro x hx; have := s0 x hx; simp; omega
  rw [ea5] at q5
  refine ⟨σ2, Runs.intro (fn := Try.f12) (by kernel_rfl) (by kernel_rfl) ⟨k0 + k1 + k2 + n3 + n4 + n5, fun k hk => ?_⟩⟩
  have r0 := r0 k (by omega)
  have r1 := r1 k (by omega)
  have r2 := r2 k (by omega)
  have e := e k (by omega)
  have q4 := q4 k (by omega)
  have q5 := q5 k (by omega)
  simp only at r0 r1 r2 e q4 q5
  rw [ll] at c0
  simp only [f12_eq]
  simp only [Option.bind_some, decide_eq_true_eq, decide_eq_false_iff_not, Bool.not_eq_true', Bool.not_true, Bool.not_false, Bool.false_eq_true, Bool.true_eq_false, Bool.not_eq_eq_eq_not, beq_self_eq_true, beqFT, beqTF, decide_true, decide_false, not_false_eq_true, not_true_eq_false, ne_eq, true_and, and_true, false_and, and_false, and_self, if_true, if_false, ite_true, ite_false, Bool.and_true, Bool.and_false, Bool.true_and, Bool.false_and, Bool.or_true, Bool.true_or, Bool.or_false, Bool.false_or, or_true, true_or, or_false, false_or, or_self, AV.asInt, AV.asBool, AV.asSl, AV.asPtr, AV.asFn, AV.asStr, AV.asMap, AV.asIfc, AV.item, List.length_cons, List.length_nil, List.getElem?_cons_zero, List.getElem?_cons_succ, Nat.zero_add, ← h1, r0, ll, c0, r1, r2, e0, e1, ma, mb, wd, e]
  rw [f12_X1111111010_2]
  simp only [Option.bind_some, decide_eq_true_eq, decide_eq_false_iff_not, Bool.not_eq_true', Bool.not_true, Bool.not_false, Bool.false_eq_true, Bool.true_eq_false, Bool.not_eq_eq_eq_not, beq_self_eq_true, beqFT, beqTF, decide_true, decide_false, not_false_eq_true, not_true_eq_false, ne_eq, true_and, and_true, false_and, and_false, and_self, if_true, if_false, ite_true, ite_false, Bool.and_true, Bool.and_false, Bool.true_and, Bool.false_and, Bool.or_true, Bool.true_or, Bool.or_false, Bool.false_or, or_true, true_or, or_false, false_or, or_self, AV.asInt, AV.asBool, AV.asSl, AV.asPtr, AV.asFn, AV.asStr, AV.asMap, AV.asIfc, AV.item, List.length_cons, List.length_nil, List.getElem?_cons_zero, List.getElem?_cons_succ, Nat.zero_add, wd, q4, hv, q5]
end Go.Ab

/- The law WaveAdds. -/
namespace Go.Ab
open Go Go.Proofs Go.Ab.Wd Go.Ab.Bs Go.Ab.Sai
set_option linter.unusedVariables false
set_option linter.unusedSimpArgs false
theorem Vec.keep {σ σ' : Store} {p : Ptr} {B : List Bool} (v : Vec σ p B) (k : ∀ x : Nat, x < σ.objs.length → σ'.objs[x]? = σ.objs[x]?) : Vec σ' p B := by
  obtain ⟨b, hw, ha, ws, ah, rfl, R, W, A, wb, ab⟩ := v.ex
  have lt : ∀ {h : Hdl} {l : List AV}, σ.Sl h 1 l → σ'.Sl h 1 l := fun {h l} s => by
    refine ⟨s.len, ?_⟩
    rcases s.row with h1 | ⟨b, o, cs, rw, h1, h2, h3⟩
    · exact .inl h1
    · exact .inr ⟨b, o, cs, rw, h1, (k b (List.getElem?_eq_some_iff.1 h2).1).trans h2, h3⟩
  exact ⟨⟨b, hw, ha, ws, ah, rfl, (k b R.lt).trans R, lt W, lt A, wb, ab⟩, v.small⟩
theorem Mat.keep {σ σ' : Store} {p : Ptr} {l : List Int} {w : Nat} (m : Mat σ p l w) (k : ∀ x : Nat, x < σ.objs.length → σ'.objs[x]? = σ.objs[x]?) : Mat σ' p l w := by
  obtain ⟨b, hl, ps, rfl, R, S, lp, V⟩ := m.ex
  have lt : ∀ {h : Hdl} {l : List AV}, σ.Sl h 1 l → σ'.Sl h 1 l := fun {h l} s => by
    refine ⟨s.len, ?_⟩
    rcases s.row with h1 | ⟨b, o, cs, rw, h1, h2, h3⟩
    · exact .inl h1
    · exact .inr ⟨b, o, cs, rw, h1, (k b (List.getElem?_eq_some_iff.1 h2).1).trans h2, h3⟩
  exact ⟨⟨b, hl, ps, rfl, (k b R.lt).trans R, lt S, lp, fun j hj => by obtain ⟨q, e, v⟩ := V j hj; exact ⟨q, e, v.keep k⟩⟩, m.wid, m.small, m.rng⟩
theorem Mat.quiet {σ : Store} {p : Ptr} {l : List Int} {w : Nat} (m : Mat σ p l w) (n : Nat) : Mat { σ with prot := n } p l w := m.keep fun _ _ => rfl
theorem pairsL_get : ∀ {L : List (Int × Int)} {i : Nat} {u v : Int}, L[i]? = some (u, v) → (pairsL L)[i * 2]? = some (.int .i64 u) ∧ (pairsL L)[i * 2 + 1]? = some (.int .i64 v)
  | [], i, u, v, h => by simp at h
  | x :: L, 0, u, v, h => by simp at h; subst h; simp [pairsL]
  | x :: L, i + 1, u, v, h => by
    have := pairsL_get (L := L) (i := i) (u := u) (v := v) (by simpa using h)
    rw [show pairsL (x :: L) = [.int .i64 x.1, .int .i64 x.2] ++ pairsL L by simp [pairsL]]
    rw [List.getElem?_append_right (by simp; omega), List.getElem?_append_right (by simp; omega)]
    simp only [List.length_cons, List.length_nil, Nat.zero_add]
    rw [show (i + 1) * 2 - 2 = i * 2 by omega, show (i + 1) * 2 + 1 - 2 = i * 2 + 1 by omega]
    exact this
theorem pairs_rd {σ : Store} {h : Hdl} {L : List (Int × Int)} (s : σ.Sl h 2 (pairsL L)) {i : Nat} {u v : Int} (hi : L[i]? = some (u, v)) :
    σ.ldInt .i64 (Ptr.add (h.idx (i : Int) 2) 0) = some u ∧ σ.ldInt .i64 (Ptr.add (h.idx (i : Int) 2) 1) = some v := by
  have hlt : i < L.length := (List.getElem?_eq_some_iff.1 hi).1
  obtain ⟨g0, g1⟩ := pairsL_get hi
  have hl := s.len
  rw [pairsL_length] at hl
  rcases s.row with h0 | ⟨b, o, cs, rw, ha, hb, hc, hd⟩
  · omega
  · have c : ∀ j, j < (pairsL L).length → cs[o + j]? = (pairsL L)[j]? := fun j hj => by
      rw [← hd, List.getElem?_take, if_pos hj, List.getElem?_drop]
    have l2 := pairsL_length L
    have c0 := c (i * 2) (by omega)
    have c1 := c (i * 2 + 1) (by omega)
    rw [g0] at c0
    rw [g1] at c1
    constructor
    · simp only [Store.ldInt, Store.cell, Hdl.idx, Ptr.add, ha, Option.map_some, hb, Int.toNat_natCast, Nat.add_zero, c0, if_true]
    · simp only [Store.ldInt, Store.cell, Hdl.idx, Ptr.add, ha, Option.map_some, hb, Int.toNat_natCast, Nat.add_assoc, c1, if_true]
theorem pairs_len {σ : Store} {h : Hdl} {L : List (Int × Int)} (s : σ.Sl h 2 (pairsL L)) : h.len = L.length := by have := s.len; rw [pairsL_length] at this; omega
/-- A pair is taken into a new row. -/
theorem take2 {σ : Store} {u v : Int} (hp : σ.prot ≤ σ.objs.length) : ∃ σ', Store.stL (σ.push [.int .i64 0, .int .i64 0] 2) (some (σ.objs.length, 0)) [.int .i64 u, .int .i64 v] 0 = some σ' ∧ Kp σ.objs.length σ σ' ∧ σ'.Row σ.objs.length 2 [.int .i64 u, .int .i64 v] := by
  have R : (σ.push [.int .i64 0, .int .i64 0] 2).Row σ.objs.length 2 [.int .i64 0, .int .i64 0] := Store.Row.new
  have t1 := st_fld R (o := 0) (by simpa using hp) (by simp) (v := .int .i64 u) rfl
  obtain ⟨s1, hs1⟩ : ∃ s, s = (σ.push [.int .i64 0, .int .i64 0] 2).setO σ.objs.length (.cells ([.int .i64 0, .int .i64 0].set 0 (.int .i64 u)) true 2) := ⟨_, rfl⟩
  rw [← hs1] at t1
  have R1 : s1.Row σ.objs.length 2 [.int .i64 u, .int .i64 0] := by rw [hs1]; exact Store.Row.setO_eq R.lt
  have p1 : s1.prot ≤ σ.objs.length := by rw [hs1]; exact hp
  have t2 := st_fld R1 (o := 1) p1 (by simp) (v := .int .i64 v) rfl
  refine ⟨s1.setO σ.objs.length (.cells ([.int .i64 u, .int .i64 0].set 1 (.int .i64 v)) true 2), ?_, ?_, Store.Row.setO_eq R1.lt⟩
  · simp only [Store.stL, Ptr.add, Option.map_some, Nat.add_zero, Nat.zero_add, Option.bind_eq_bind] at t1 t2 ⊢
    cases h1 : Store.st (σ.push [.int .i64 0, .int .i64 0] 2) (some (σ.objs.length, 0)) (.int .i64 u) with
    | none => rw [h1] at t1; cases t1
    | some x =>
      rw [h1] at t1
      simp only [Option.bind_some, Option.some.injEq] at t1
      subst t1
      simp only [Option.bind_some]
      exact t2
  · rw [hs1]; exact (((Kp.push _ _ (Nat.le_refl _)).setO (Nat.le_refl _)).setO (Nat.le_refl _))
end Go.Ab

/- The law WaveAdds. -/
namespace Go.Ab
open Go Go.Proofs Go.Ab.Wd Go.Ab.Bs Go.Ab.Sai
set_option linter.unusedVariables false
set_option linter.unusedSimpArgs false
theorem dis_one (s : List Int) (v : Nat) : dis s v 1 = if 0 < Bs.cnt (fun x => decide (x = (v : Int))) s then [((v : Int), ((Bs.cnt (fun x => decide (x = (v : Int))) s : Nat) : Int))] else [] := by
  unfold dis
  rw [List.range'_one]
  split
  · rename_i h; rw [List.filter_cons_of_pos (by simpa using h)]; rfl
  · rename_i h; rw [List.filter_cons_of_neg (by simpa using h)]; rfl
def sum2 (L : List (Int × Int)) : Int := (L.map (·.2)).sum
theorem sum2_append (a b : List (Int × Int)) : sum2 (a ++ b) = sum2 a + sum2 b := by simp [sum2]
theorem dis_sum (s : List Int) (lo : Nat) : ∀ n, sum2 (dis s lo n) = (Bs.cnt (fun x => decide ((lo : Int) ≤ x ∧ x < lo + n)) s : Nat)
  | 0 => by
    have : Bs.cnt (fun x => decide ((lo : Int) ≤ x ∧ x < lo + (0 : Nat))) s = 0 := by
      unfold Bs.cnt; rw [List.filter_eq_nil_iff.2]
      · rfl
      · intro x _; simp <;> omega
    rw [this]; simp [dis, sum2]
  | n + 1 => by
    rw [dis_split, sum2_append, dis_sum s lo n, dis_one]
    have := cnt_or (p := fun x => decide ((lo : Int) ≤ x ∧ x < lo + n)) (q := fun x => decide (x = ((lo + n : Nat) : Int))) s (fun x _ => by simp; omega)
    have e : Bs.cnt (fun x => decide ((lo : Int) ≤ x ∧ x < lo + n) || decide (x = ((lo + n : Nat) : Int))) s = Bs.cnt (fun x => decide ((lo : Int) ≤ x ∧ x < lo + (n + 1 : Nat))) s := cnt_congr fun x _ => by
      rw [Bool.eq_iff_iff]; simp; omega
    rw [e] at this
    rw [this]
    split
    · simp [sum2]
    · rw [show sum2 ([] : List (Int × Int)) = 0 from rfl]; omega
theorem dis_get {s : List Int} {lo n i : Nat} {u v : Int} (h : (dis s lo n)[i]? = some (u, v)) : 0 ≤ u ∧ v = (Bs.cnt (fun x => decide (x = u)) s : Nat) := by
  unfold dis at h
  rw [List.getElem?_map] at h
  cases hh : ((List.range' lo n).filter fun v : Nat => decide (0 < Bs.cnt (fun x => decide (x = (v : Int))) s))[i]? with
  | none => rw [hh] at h; cases h
  | some z => rw [hh] at h; injection h with h; injection h with h1 h2; subst h1 h2; exact ⟨by omega, rfl⟩
theorem sum2_le {s : List Int} {L : List (Int × Int)} (h : ∀ q ∈ L, 0 ≤ q.2) : ∀ i, 0 ≤ sum2 (L.take i) ∧ sum2 (L.take i) ≤ sum2 L := by
  have nn : ∀ {M : List (Int × Int)}, (∀ q ∈ M, 0 ≤ q.2) → 0 ≤ sum2 M := fun {M} hM => by
    induction M with
    | nil => simp [sum2]
    | cons x M ih =>
      have := ih (fun q hq => hM q (by simp [hq]))
      have := hM x (by simp)
      simp [sum2] at *; omega
  intro i
  have e : sum2 L = sum2 (L.take i) + sum2 (L.drop i) := by rw [← sum2_append, List.take_append_drop]
  have h1 := nn (M := L.take i) (fun q hq => h q (List.mem_of_mem_take hq))
  have h2 := nn (M := L.drop i) (fun q hq => h q (List.mem_of_mem_drop hq))
  omega
theorem sum2_succ {L : List (Int × Int)} {i : Nat} {u v : Int} (h : L[i]? = some (u, v)) : sum2 (L.take (i + 1)) = sum2 (L.take i) + v := by
  rw [List.take_add_one, h, sum2_append]; simp [sum2]
theorem umod {a : Int} {n : Nat} (hn : n < 2 ^ 40) : IntKind.wrap .u64 (IntKind.wrap .i64 ((n : Int) + 1)) = (n : Int) + 1 ∧ ∃ k : Nat, IntKind.wrap .i64 (Int.tmod (IntKind.wrap .u64 a) ((n : Int) + 1)) = (k : Int) ∧ k ≤ n := by
  have wu : ∀ x : Int, IntKind.wrap .u64 x = x % 18446744073709551616 := fun x => by
    unfold IntKind.wrap
    have e2 : (2 : Int) ^ IntKind.u64.bits = 18446744073709551616 := by decide
    simp [e2, IntKind.signed]
  refine ⟨by rw [wrap64 (by omega) (by omega), wu]; omega, ?_⟩
  rw [wu, Int.tmod_eq_emod_of_nonneg (by omega)]
  have h1 := Int.emod_nonneg (a % 18446744073709551616) (show ((n : Int) + 1) ≠ 0 by omega)
  have h2 := Int.emod_lt_of_pos (a % 18446744073709551616) (show 0 < ((n : Int) + 1) by omega)
  exact ⟨(a % 18446744073709551616 % ((n : Int) + 1)).toNat, by rw [wrap64 (by omega) (by omega)]; omega, by omega⟩
theorem law_WaveAdds {σ : Store} {h : Hdl} {l : List Int} {a0 a1 a2 c : Int} (hT : σ.Ints h l) (hH : σ.Has h) (hn : l.length < 2 ^ 44) (hw : ∀ n ∈ l, IntKind.min .i64 ≤ n ∧ n ≤ IntKind.max .i64)
    (ha0 : IntKind.min .i64 ≤ a0 ∧ a0 ≤ IntKind.max .i64) (ha1 : IntKind.min .i64 ≤ a1 ∧ a1 ≤ IntKind.max .i64) (ha2 : IntKind.min .i64 ≤ a2 ∧ a2 ≤ IntKind.max .i64) (hc : IntKind.min .i64 ≤ c ∧ c ≤ IntKind.max .i64) (hp : σ.prot ≤ σ.objs.length) :
    ∃ σ', Runs Try.prog 13 [.slice h, .agg [.int .i64 a0, .int .i64 a1, .int .i64 a2], .int .i64 c] σ (.bool true) σ' := by
  have ll := hT.ilen
  obtain ⟨σ1, h1⟩ : ∃ s, s = σ.push [.int .i64 a0, .int .i64 a1, .int .i64 a2] 3 := ⟨_, rfl⟩
  have K1 : Kp σ.objs.length σ σ1 := by rw [h1]; exact Kp.push _ _ (Nat.le_refl _)
  have R1 : σ1.Row σ.objs.length 3 [.int .i64 a0, .int .i64 a1, .int .i64 a2] := by rw [h1]; exact Store.Row.new
  have hp1 : σ1.prot ≤ σ1.objs.length := by rw [K1.prot]; have := K1.len; omega
  have hT1 := Store.Sl.kp hT K1
  obtain ⟨k0, r0⟩ := first13_told σ1
  by_cases c0 : (300 : Int) < h.len
  · refine ⟨σ1, Runs.intro (fn := Try.f13) (by kernel_rfl) (by kernel_rfl) ⟨k0, fun k hk => ?_⟩⟩
    have r0 := r0 k hk
    simp only at r0
    simp only [f13_eq]
    simp only [Option.bind_some, decide_eq_true_eq, decide_eq_false_iff_not, Bool.not_eq_true', Bool.not_true, Bool.not_false, Bool.false_eq_true, Bool.true_eq_false, Bool.not_eq_eq_eq_not, beq_self_eq_true, beqFT, beqTF, decide_true, decide_false, not_false_eq_true, not_true_eq_false, ne_eq, true_and, and_true, false_and, and_false, and_self, if_true, if_false, ite_true, ite_false, Bool.and_true, Bool.and_false, Bool.true_and, Bool.false_and, Bool.or_true, Bool.true_or, Bool.or_false, Bool.false_or, or_true, true_or, or_false, false_or, or_self, AV.asInt, AV.asBool, AV.asSl, AV.asPtr, AV.asFn, AV.asStr, AV.asMap, AV.asIfc, AV.item, List.length_cons, List.length_nil, List.getElem?_cons_zero, List.getElem?_cons_succ, Nat.zero_add, ← h1, r0, c0]
  have ln : l.length ≤ 300 := by omega
  obtain ⟨k1, r1⟩ := right13_run (al := 300) hT1 (by omega)
  cases hok : okW l 300 with
  | false =>
    rw [hok] at r1
    refine ⟨σ1, Runs.intro (fn := Try.f13) (by kernel_rfl) (by kernel_rfl) ⟨k0 + k1, fun k hk => ?_⟩⟩
    have r0 := r0 k (by omega)
    have r1 := r1 k (by omega)
    simp only at r0 r1
    simp only [f13_eq]
    simp only [Option.bind_some, decide_eq_true_eq, decide_eq_false_iff_not, Bool.not_eq_true', Bool.not_true, Bool.not_false, Bool.false_eq_true, Bool.true_eq_false, Bool.not_eq_eq_eq_not, beq_self_eq_true, beqFT, beqTF, decide_true, decide_false, not_false_eq_true, not_true_eq_false, ne_eq, true_and, and_true, false_and, and_false, and_self, if_true, if_false, ite_true, ite_false, Bool.and_true, Bool.and_false, Bool.true_and, Bool.false_and, Bool.or_true, Bool.true_or, Bool.or_false, Bool.false_or, or_true, true_or, or_false, false_or, or_self, AV.asInt, AV.asBool, AV.asSl, AV.asPtr, AV.asFn, AV.asStr, AV.asMap, AV.asIfc, AV.item, List.length_cons, List.length_nil, List.getElem?_cons_zero, List.getElem?_cons_succ, Nat.zero_add, ← h1, r0, c0, r1]
  | true =>
  rw [hok] at r1
  obtain ⟨p, w, σ2, ⟨k2, r2⟩, K2, M, W, pn⟩ := made_run (most := 300) hT1 hp1 hok
  have hp2 : σ2.prot ≤ σ2.objs.length := by rw [K2.prot]; have := K2.len; omega
  have R2 := R1.kp K2 R1.lt
  have e0 := row_int R2 (o := 0) rfl
  have e1 := row_int R2 (o := 1) rfl
  have e2 := row_int R2 (o := 2) rfl
  obtain ⟨un, x', ex, hx'⟩ := umod (a := a0) (n := l.length) (by omega)
  obtain ⟨_, y', ey, hy'⟩ := umod (a := a1) (n := l.length) (by omega)
  obtain ⟨_, z', ez, hz'⟩ := umod (a := a2) (n := l.length) (by omega)
  obtain ⟨x, hx⟩ : ∃ x, x = min x' z' := ⟨_, rfl⟩
  obtain ⟨z, hz⟩ : ∃ z, z = max x' z' := ⟨_, rfl⟩
  obtain ⟨y, hy⟩ : ∃ y, y = max x (min y' z) := ⟨_, rfl⟩
  have mx : mn2 (x' : Int) z' = (x : Int) := by rw [mn2_eq]; omega
  have mz : mx2 (x' : Int) z' = (z : Int) := by rw [mx2_eq]; omega
  have my : mx2 (x : Int) (mn2 (y' : Int) z) = (y : Int) := by rw [mx2_eq, mn2_eq]; omega
  have u0 : ¬ (l.length : Int) + 1 = 0 := by omega
  obtain ⟨s, hs⟩ : ∃ s, s = seg l x z := ⟨_, rfl⟩
  have sl : s.length = z - x := by rw [hs, (seg_self (by omega) (by omega)).1]; simp; omega
  have tk : l.take z = l.take x ++ s := by rw [hs]; exact take_seg (by omega) (by omega)
  have s0 : ∀ q ∈ s, 0 ≤ q ∧ q < 2 ^ w := fun q hq => M.rng q (seg_mem (hs ▸ hq))
  obtain ⟨hd, σ3, ⟨k3, r3⟩, K3, G3⟩ := matDistinct_run M hp2 x z
  rw [← hs] at G3
  obtain ⟨L, hL⟩ : ∃ L, L = dis s 0 (2 ^ w) := ⟨_, rfl⟩
  rw [← hL] at G3
  have hp3 : σ3.prot ≤ σ3.objs.length := by rw [K3.prot]; have := K3.len; omega
  have M3 := M.kp K3
  have hld := pairs_len G3.sl
  have sumL : sum2 L = s.length := by
    rw [hL, dis_sum]
    unfold Bs.cnt
    rw [List.filter_eq_self.2]
    intro q hq
    have := s0 q hq
    have e : ((2 : Int) ^ w) = ((2 ^ w : Nat) : Int) := by simp
    simp; omega
  have Lnn : ∀ q ∈ L, 0 ≤ q.2 := fun q hq => by
    obtain ⟨i, hi, e⟩ := List.mem_iff_getElem.1 hq
    have := dis_get (s := s) (lo := 0) (n := 2 ^ w) (i := i) (u := q.1) (v := q.2) (by rw [← hL, List.getElem?_eq_getElem hi, e])
    omega
  have lL : L.length ≤ 2 ^ w := by rw [hL]; exact dis_length _ _ _
  have p24 : 2 ^ w ≤ 2 ^ 24 := Nat.pow_le_pow_right (by omega) M.wid.2
  obtain ⟨r, e, σ4, rfl, K4⟩ := EvI.up (f := fun k s => stepF Try.prog (gm Try.prog k) drawn k Try.f13 [1, 1, 1, 1, 1, 1, 1, 1, 1, 0, 1, 0] [69, 68, 67, 13, 12, 11, 10, 7, 2] s) L.length
    (fun i st => ∃ s1, st = ([.int .i64 i, .int .i64 L.length, .slice hd, .int .i64 (sum2 (L.take i)), .int .i64 z, .int .i64 y, .int .i64 x, .ptr p, .int .i64 c], s1) ∧ Kp σ3.objs.length σ3 s1)
    (fun r => ∃ s1, r = (AX.exit 0, [(13, .int .i64 (sum2 L)), (12, .int .i64 z), (11, .int .i64 y), (10, .int .i64 x), (7, .ptr p), (2, .int .i64 c)], s1) ∧ Kp σ3.objs.length σ3 s1)
    (by
      rintro i st hi ⟨s1, rfl, kk⟩
      have i0 : (0 : Int) ≤ i := by omega
      have i1 : (i : Int) < L.length := by omega
      have i2 : (i : Int) < hd.len := by omega
      have w1 := wsucc hi (by omega)
      obtain ⟨⟨u, v⟩, huv⟩ : ∃ q, L[i]? = some q := ⟨_, List.getElem?_eq_getElem hi⟩
      obtain ⟨g0, g1⟩ := pairs_rd (G3.sl.kp kk) huv
      rw [hL] at huv
      obtain ⟨v0, v1⟩ := dis_get huv
      rw [← hL] at huv
      have hps : s1.prot ≤ s1.objs.length := by rw [kk.prot]; have := kk.len; omega
      obtain ⟨s2, t2, k2, R2⟩ := take2 (σ := s1) (u := u) (v := v) hps
      have f0 := row_int R2 (o := 0) rfl
      have f1 := row_int R2 (o := 1) rfl
      have M2 : Mat s2 p l w := (M3.kp kk).kp k2
      obtain ⟨n3, q3⟩ := matRank_run (M2.quiet s2.objs.length) u z
      obtain ⟨n4, q4⟩ := matRank_run (M2.quiet s2.objs.length) u x
      rw [Int.toNat_natCast] at q3 q4
      have ec : Bs.cnt (fun q => decide (q = u)) (l.take z) = Bs.cnt (fun q => decide (q = u)) (l.take x) + Bs.cnt (fun q => decide (q = u)) s := by rw [tk, cnt_append]
      have cl := cnt_le (fun q => decide (q = u)) (l.take z)
      rw [List.length_take] at cl
      have w2 : IntKind.wrap .i64 ((Bs.cnt (fun q => decide (q = u)) (l.take z) : Nat) - (Bs.cnt (fun q => decide (q = u)) (l.take x) : Nat)) = v := by rw [wrap64 (by omega) (by omega)]; omega
      have sm := sum2_succ huv
      obtain ⟨b1, b2⟩ := sum2_le (s := s) Lnn (i + 1)
      have w3 : IntKind.wrap .i64 (sum2 (L.take i) + v) = sum2 (L.take (i + 1)) := by rw [sm, wrap64 (by omega) (by omega)]
      refine ⟨_, ⟨n3 + n4, fun k hk => ?_⟩, s2, rfl, kk.trans (k2.mono kk.len)⟩
      have q3 := q3 k (by omega)
      have q4 := q4 k (by omega)
      simp only at q3 q4
      have q3 := callG_same q3
      have q4 := callG_same q4
      simp only [f13_L111111111010]
      simp only [Option.bind_some, decide_eq_true_eq, decide_eq_false_iff_not, Bool.not_eq_true', Bool.not_true, Bool.not_false, Bool.false_eq_true, Bool.true_eq_false, Bool.not_eq_eq_eq_not, beq_self_eq_true, beqFT, beqTF, decide_true, decide_false, not_false_eq_true, not_true_eq_false, ne_eq, true_and, and_true, false_and, and_false, and_self, if_true, if_false, ite_true, ite_false, Bool.and_true, Bool.and_false, Bool.true_and, Bool.false_and, Bool.or_true, Bool.true_or, Bool.or_false, Bool.false_or, or_true, true_or, or_false, false_or, or_self, AV.asInt, AV.asBool, AV.asSl, AV.asPtr, AV.asFn, AV.asStr, AV.asMap, AV.asIfc, AV.item, List.length_cons, List.length_nil, List.getElem?_cons_zero, List.getElem?_cons_succ, Nat.zero_add, i0, i1, i2, g0, g1, t2, f0, f1, q3, q4, w2, w3, w1])
    (by
      rintro st ⟨s1, rfl, kk⟩
      rw [List.take_length]
      exact ⟨(AX.exit 0, [(13, .int .i64 (sum2 L)), (12, .int .i64 z), (11, .int .i64 y), (10, .int .i64 x), (7, .ptr p), (2, .int .i64 c)], s1), Ev.of fun k => by simp only [f13_L111111111010]; simp only [Option.bind_some, decide_eq_true_eq, decide_eq_false_iff_not, Bool.not_eq_true', Bool.not_true, Bool.not_false, Bool.false_eq_true, Bool.true_eq_false, Bool.not_eq_eq_eq_not, beq_self_eq_true, beqFT, beqTF, decide_true, decide_false, not_false_eq_true, not_true_eq_false, ne_eq, true_and, and_true, false_and, and_false, and_self, if_true, if_false, ite_true, ite_false, Bool.and_true, Bool.and_false, Bool.true_and, Bool.false_and, Bool.or_true, Bool.true_or, Bool.or_false, Bool.false_or, or_true, true_or, or_false, false_or, or_self, AV.asInt, AV.asBool, AV.asSl, AV.asPtr, AV.asFn, AV.asStr, AV.asMap, AV.asIfc, AV.item, List.length_cons, List.length_nil, List.getElem?_cons_zero, List.getElem?_cons_succ, Nat.zero_add, Int.lt_irrefl], s1, rfl, kk⟩)
    (s := ([.int .i64 0, .int .i64 L.length, .slice hd, .int .i64 0, .int .i64 z, .int .i64 y, .int .i64 x, .ptr p, .int .i64 c], σ3)) ⟨σ3, rfl, Kp.refl _ _⟩
  obtain ⟨n3, e⟩ := loopF_ev e
  have M4 := M3.kp K4
  obtain ⟨n5, q5⟩ := below_run M4 x z c
  obtain ⟨n6, q6⟩ := below_run M4 x y c
  obtain ⟨n7, q7⟩ := below_run M4 y z c
  have sx : seg l x z = seg l x y ++ seg l y z := by
    rw [(seg_self (l := l) (a := x) (b := z) (by omega) (by omega)).1, (seg_self (l := l) (a := x) (b := y) (by omega) (by omega)).1, (seg_self (l := l) (a := y) (b := z) (by omega) (by omega)).1]
    rw [show l.take y = (l.take z).take y by rw [List.take_take, Nat.min_eq_left (by omega)]]
    generalize l.take z = t
    rw [List.drop_take]
    conv => lhs; rw [← List.take_append_drop (y - x) (t.drop x)]
    rw [List.drop_drop, show x + (y - x) = y by omega]
  have ca : Bs.cnt (fun q => decide (q < c)) (seg l x z) = Bs.cnt (fun q => decide (q < c)) (seg l x y) + Bs.cnt (fun q => decide (q < c)) (seg l y z) := by rw [sx, cnt_append]
  have cl := cnt_le (fun q => decide (q < c)) (seg l x z)
  rw [← hs, sl] at cl
  rw [← hs] at ca
  have w2 : IntKind.wrap .i64 ((Bs.cnt (fun q => decide (q < c)) (seg l x y) : Nat) + (Bs.cnt (fun q => decide (q < c)) (seg l y z) : Nat)) = (Bs.cnt (fun q => decide (q < c)) s : Nat) := by rw [wrap64 (by omega) (by omega)]; omega
  rw [← hs] at q5
  have w3 : IntKind.wrap .i64 ((z : Int) - x) = sum2 L := by rw [sumL, sl, wrap64 (by omega) (by omega)]; omega
  refine ⟨σ4, Runs.intro (fn := Try.f13) (by kernel_rfl) (by kernel_rfl) ⟨k0 + k1 + k2 + k3 + n3 + n5 + n6 + n7, fun k hk => ?_⟩⟩
  have r0 := r0 k (by omega)
  have r1 := r1 k (by omega)
  have r2 := r2 k (by omega)
  have r3 := r3 k (by omega)
  have e := e k (by omega)
  have q5 := q5 k (by omega)
  have q6 := q6 k (by omega)
  have q7 := q7 k (by omega)
  simp only at r0 r1 r2 r3 e q5 q6 q7
  rw [ll] at c0
  simp only [f13_eq]
  simp only [Option.bind_some, decide_eq_true_eq, decide_eq_false_iff_not, Bool.not_eq_true', Bool.not_true, Bool.not_false, Bool.false_eq_true, Bool.true_eq_false, Bool.not_eq_eq_eq_not, beq_self_eq_true, beqFT, beqTF, decide_true, decide_false, not_false_eq_true, not_true_eq_false, ne_eq, true_and, and_true, false_and, and_false, and_self, if_true, if_false, ite_true, ite_false, Bool.and_true, Bool.and_false, Bool.true_and, Bool.false_and, Bool.or_true, Bool.true_or, Bool.or_false, Bool.false_or, or_true, true_or, or_false, false_or, or_self, AV.asInt, AV.asBool, AV.asSl, AV.asPtr, AV.asFn, AV.asStr, AV.asMap, AV.asIfc, AV.item, List.length_cons, List.length_nil, List.getElem?_cons_zero, List.getElem?_cons_succ, Nat.zero_add, ← h1, r0, ll, c0, r1, r2, e0, e1, e2, un, u0, ex, ey, ez, mx, mz, my, r3, hld, e]
  rw [f13_X111111111010_2]
  simp only [Option.bind_some, decide_eq_true_eq, decide_eq_false_iff_not, Bool.not_eq_true', Bool.not_true, Bool.not_false, Bool.false_eq_true, Bool.true_eq_false, Bool.not_eq_eq_eq_not, beq_self_eq_true, beqFT, beqTF, decide_true, decide_false, not_false_eq_true, not_true_eq_false, ne_eq, true_and, and_true, false_and, and_false, and_self, if_true, if_false, ite_true, ite_false, Bool.and_true, Bool.and_false, Bool.true_and, Bool.false_and, Bool.or_true, Bool.true_or, Bool.or_false, Bool.false_or, or_true, true_or, or_false, false_or, or_self, AV.asInt, AV.asBool, AV.asSl, AV.asPtr, AV.asFn, AV.asStr, AV.asMap, AV.asIfc, AV.item, List.length_cons, List.length_nil, List.getElem?_cons_zero, List.getElem?_cons_succ, Nat.zero_add, q5, q6, q7, w2, w3]
end Go.Ab

/- What is told of first holds. -/
namespace Go.Ab
open Go Go.Proofs
theorem toldOk (hm : Try.prog.follows .mixedOrders = true) : SpS Try.prog (Told.sp Try.prog) ∧ SpK (Told.sp Try.prog) :=
  tell_sound hm fun g hg => by
    simp only [List.mem_cons, List.not_mem_nil, or_false] at hg
    rcases hg with rfl | rfl
    · exact ⟨Try.f15, 60, by kernel_rfl, by kernel_rfl, by kernel_rfl, by kernel_rfl⟩
    · exact ⟨Try.f26, 60, by kernel_rfl, by kernel_rfl, by kernel_rfl, by kernel_rfl⟩
end Go.Ab

/- An array of whole numbers that came in by value. -/
namespace Go.Ab
open Go
theorem vr_ints {μ : Mu} {k : IntKind} (zs : List Int) : VR μ (.agg (zs.map (AV.int k))) (.agg (zs.map (Value.int k)).toArray) := by
  refine .agg (by simp) fun i x y hx hy => ?_
  simp only [List.getElem?_map, List.getElem?_toArray] at hx hy
  cases h : zs[i]? with
  | none => rw [h] at hx; cases hx
  | some z => rw [h] at hx hy; injection hx with hx; injection hy with hy; subst hx hy; exact .int ..
section
variable {H : Type} {enc : TypeId × Value → H} {P : Program} {w : World} {base : Nat} {spare : Nat → Bool} {held : Bool}
theorem ints_of {k : IntKind} : ∀ {l : List Value}, (∀ i (h : i < l.length), ∃ z : Int, l[i] = .int k z ∧ (Lit.int k z).wf = true) → ∃ zs : List Int, l = zs.map (Value.int k) ∧ ∀ z ∈ zs, (Lit.int k z).wf = true
  | [], _ => ⟨[], rfl, by simp⟩
  | v :: l, h => by
    obtain ⟨z, hz, hw⟩ := h 0 (by simp)
    obtain ⟨zs, hzs, hws⟩ := ints_of (l := l) fun i hi => h (i + 1) (by simp; omega)
    refine ⟨z :: zs, ?_, ?_⟩
    · rw [List.map_cons, ← hzs]
      simp at hz
      rw [hz]
    · intro y hy
      rcases List.mem_cons.1 hy with rfl | hy
      · exact hw
      · exact hws y hy
theorem open_arr {n : Nat} {t e : TypeId} {k : IntKind} {r : Reach} {b0 : Nat} {v : Value} {d : DataW H} {p : List MemPlace} (ht : P.underlying t = some (.array n e)) (he : P.underlying e = some (.int k)) (hC : P.cellsOf e = 1 ∧ P.cellsOf t = n)
    (hv : Value.okWide P w r b0 t v) (h : DataW.Trod enc P w base spare held t v d p) :
    ∃ zs : List Int, zs.length = n ∧ v = .agg (zs.map (Value.int k)).toArray ∧ ∀ z ∈ zs, (Lit.int k z).wf = true := by
  simp only [Value.okWide, ht] at hv
  obtain ⟨cs, rfl, hsz, _⟩ := hv
  obtain ⟨fuel, hf⟩ := h
  obtain ⟨xs, m, rfl, _, hl, hn, hg⟩ := DataW.trod_array ht hf
  simp only [Value.cells] at hl hg
  have hlen : cs.toList.length = n := by simpa [hC.2] using hsz
  obtain ⟨zs, hzs, hws⟩ := ints_of (k := k) (l := cs.toList) fun i hi => by
    have := hg i (by omega)
    rw [hC.1, Nat.mul_one, List.getElem?_eq_getElem (by omega)] at this
    obtain ⟨z, hz, _, hw⟩ := DataW.trod_int he this
    refine ⟨z, ?_, hw⟩
    rw [List.drop_eq_getElem_cons hi] at hz
    simp at hz
    simpa using hz
  refine ⟨zs, by rw [← hlen, hzs]; simp, ?_, hws⟩
  rw [← hzs]
theorem list1 {l : List Int} (h : l.length = 1) : ∃ a, l = [a] := by match l, h with | [a], _ => exact ⟨a, rfl⟩
theorem list2 {l : List Int} (h : l.length = 2) : ∃ a b, l = [a, b] := by match l, h with | [a, b], _ => exact ⟨a, b, rfl⟩
theorem list3 {l : List Int} (h : l.length = 3) : ∃ a b c, l = [a, b, c] := by match l, h with | [a, b, c], _ => exact ⟨a, b, c, rfl⟩
theorem list4 {l : List Int} (h : l.length = 4) : ∃ a b c d, l = [a, b, c, d] := by match l, h with | [a, b, c, d], _ => exact ⟨a, b, c, d, rfl⟩
end
end Go.Ab
