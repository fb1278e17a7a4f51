/- What suffixes have in common: the program's and the document's Common, rising, Array, Range. -/
import Derived.Test.YteagoinfepiilaaTurn
import Derived.Test.YteagoinfepiilaaPrint1
import Derived.Test.YteagoinfepiilaaPrint4
namespace Go.Proofs.Yteagoinfepiilaa.Ls
open Go.RowKit Go.Proofs.YteagoinfepiilaaW.PrintWords Go.Proofs.YteagoinfepiilaaW.PrintMore Go.Proofs.Yteagoinfepiilaa.Bs Go.Proofs.Yteagoinfepiilaa.Print
set_option linter.unusedVariables false
set_option linter.unusedSimpArgs false

/-- What the suffixes a and b begin with in common. -/
def com (t : List Int) (a b : Int) : Int := if 0 ≤ a ∧ a < t.length ∧ 0 ≤ b ∧ b < t.length then (lcp (t.drop a.toNat) (t.drop b.toNat) : Int) else 0
theorem com_comm (t : List Int) (a b : Int) : com t a b = com t b a := by
  unfold com
  rw [lcp_comm]
  by_cases h : 0 ≤ a ∧ a < t.length ∧ 0 ≤ b ∧ b < t.length
  · rw [if_pos h, if_pos ⟨h.2.2.1, h.2.2.2, h.1, h.2.1⟩]
  · rw [if_neg h, if_neg fun k => h ⟨k.2.2.1, k.2.2.2, k.1, k.2.1⟩]
theorem rd_drop (t : List Int) (a : Int) (m : Nat) (h : 0 ≤ a) : rd t (a + m) = (t.drop a.toNat).getD m 0 := by
  unfold rd
  rw [show (a + m).toNat = a.toNat + m by omega]
  simp [List.getD_eq_getElem?_getD, List.getElem?_drop]
theorem lcp_drop_le (t : List Int) (a b : Int) : lcp (t.drop a.toNat) (t.drop b.toNat) ≤ t.length - a.toNat ∧ lcp (t.drop a.toNat) (t.drop b.toNat) ≤ t.length - b.toNat := by
  have h1 := lcp_le_left (t.drop a.toNat) (t.drop b.toNat)
  have h2 := lcp_le_right (t.drop a.toNat) (t.drop b.toNat)
  simp only [List.length_drop] at h1 h2
  exact ⟨h1, h2⟩
/-- At m the loop of Common goes on just where m is less than what is in common. -/
theorem com_go (t : List Int) (a b : Int) (a0 : 0 ≤ a) (b0 : 0 ≤ b) (m : Nat) (hm : m < lcp (t.drop a.toNat) (t.drop b.toNat)) : a + m < t.length ∧ b + m < t.length ∧ rd t (a + m) = rd t (b + m) := by
  have h := lcp_drop_le t a b
  refine ⟨by omega, by omega, ?_⟩
  rw [rd_drop t a m a0, rd_drop t b m b0]
  exact lcp_agree _ _ m hm
theorem com_stop (t : List Int) (a b : Int) (a0 : 0 ≤ a) (b0 : 0 ≤ b) (h1 : a + lcp (t.drop a.toNat) (t.drop b.toNat) < t.length) (h2 : b + lcp (t.drop a.toNat) (t.drop b.toNat) < t.length) :
    rd t (a + lcp (t.drop a.toNat) (t.drop b.toNat)) ≠ rd t (b + lcp (t.drop a.toNat) (t.drop b.toNat)) := by
  rw [rd_drop t a _ a0, rd_drop t b _ b0]
  exact lcp_stop _ _ (by simp only [List.length_drop]; omega) (by simp only [List.length_drop]; omega)
theorem common_l0 (t : List Int) (a b : Int) (hn : t.length ≤ 1000000000000000) (a0 : 0 ≤ a) (a1 : a < t.length) (b0 : 0 ≤ b) (b1 : b < t.length) (d : Nat) : ∀ m : Nat, lcp (t.drop a.toNat) (t.drop b.toNat) = m + d →
    Ev (fun k => lcp_Common.l0 k t a b m) (lcp (t.drop a.toNat) (t.drop b.toNat) : Int) := by
  have hl := lcp_drop_le t a b
  induction d with
  | zero =>
    intro m hm
    have hs := com_stop t a b a0 b0
    rw [Nat.add_zero] at hm
    rw [hm] at hs hl ⊢
    refine Ev.step (f := fun _ => some (m : Int)) (fun k => ?_) (Ev.const _)
    simp only [lcp_Common.l0]
    rw [mx_eq]
    by_cases c : max a b + m < t.length
    · rw [wrap_id (by omega) (by omega), if_pos c, wrap_id (by omega) (by omega), if_pos (by omega), if_pos (by omega), wrap_id (by omega) (by omega), if_pos (by omega), if_pos (by omega), if_neg (hs (by omega) (by omega))]
    · rw [wrap_id (by omega) (by omega), if_neg c]
  | succ d ih =>
    intro m hm
    obtain ⟨g1, g2, g3⟩ := com_go t a b a0 b0 m (by omega)
    refine Ev.step (fun k => ?_) (ih (m + 1) (by omega))
    simp only [lcp_Common.l0]
    rw [mx_eq, wrap_id (x := max a b + m) (by omega) (by omega), if_pos (by omega), wrap_id (x := a + m) (by omega) (by omega), if_pos (by omega), if_pos g1, wrap_id (x := b + m) (by omega) (by omega), if_pos (by omega), if_pos g2, if_pos g3, wrap_id (by omega) (by omega)]
    rfl
theorem common_ev (t : List Int) (a b : Int) (hn : t.length ≤ 1000000000000000) : Ev (fun k => lcp_Common.f k t a b) (com t a b) := by
  by_cases h : 0 ≤ a ∧ a < t.length ∧ 0 ≤ b ∧ b < t.length
  · have e : com t a b = (lcp (t.drop a.toNat) (t.drop b.toNat) : Int) := by unfold com; rw [if_pos h]
    rw [e]
    have hj : Ev (fun k => lcp_Common.j0 k t a b (decide (mx a b ≥ (t.length : Int)))) (lcp (t.drop a.toNat) (t.drop b.toNat) : Int) := by
      refine Ev.step (fun k => ?_) (common_l0 t a b hn h.1 h.2.1 h.2.2.1 h.2.2.2 (lcp (t.drop a.toNat) (t.drop b.toNat)) 0 (by omega))
      simp only [lcp_Common.j0]
      rw [mx_eq, decide_eq_false (by omega), if_neg (by simp)]
      rfl
    refine Ev.congr (fun k => ?_) hj
    simp only [lcp_Common.f]
    rw [mn_eq, if_neg (by omega)]
  · have e : com t a b = 0 := by unfold com; rw [if_neg h]
    rw [e]
    have hz : ∀ x : Bool, x = true → Ev (fun k => lcp_Common.j0 k t a b x) 0 := fun x hx => Ev.step (f := fun _ => some 0) (fun k => by simp only [lcp_Common.j0]; rw [if_pos hx]) (Ev.const _)
    by_cases c : mn a b < 0
    · exact Ev.congr (fun k => by simp only [lcp_Common.f]; rw [if_pos c]) (hz true rfl)
    · refine Ev.congr (fun k => by simp only [lcp_Common.f]; rw [if_neg c]) (hz _ ?_)
      rw [mn_eq] at c
      rw [mx_eq]
      exact decide_eq_true (by omega)

/-! ### the document's Common -/
theorem rcommon_l0 (t : List Int) (a b : Int) (hn : t.length ≤ 1000000000000000) (a0 : 0 ≤ a) (a1 : a < t.length) (b0 : 0 ≤ b) (b1 : b < t.length) (d : Nat) : ∀ m : Nat, lcp (t.drop a.toNat) (t.drop b.toNat) = m + d →
    Ev (fun k => colophonref10_Common.l0 k t b m (a + m)) (lcp (t.drop a.toNat) (t.drop b.toNat) : Int) := by
  have hl := lcp_drop_le t a b
  induction d with
  | zero =>
    intro m hm
    have hs := com_stop t a b a0 b0
    rw [Nat.add_zero] at hm
    rw [hm] at hs hl ⊢
    by_cases c1 : a + m < t.length
    · have hj : Ev (fun k => colophonref10_Common.j2 k t b m (a + m) (decide ((wrap64 (b + m)) < (t.length : Int)))) (m : Int) := by
        refine Ev.step (f := fun _ => some (m : Int)) (fun k => ?_) (Ev.const _)
        simp only [colophonref10_Common.j2]
        rw [wrap_id (x := b + m) (by omega) (by omega)]
        by_cases c2 : b + m < t.length
        · rw [decide_eq_true c2, if_pos rfl, if_pos (by omega), if_pos c1, if_pos (by omega), if_pos c2, if_neg (hs (by omega) (by omega))]
        · rw [decide_eq_false c2, if_neg (by simp)]
      refine Ev.step (fun k => ?_) hj
      simp only [colophonref10_Common.l0]
      rw [if_pos c1]
    · have hj : Ev (fun k => colophonref10_Common.j2 k t b m (a + m) false) (m : Int) := by
        refine Ev.step (f := fun _ => some (m : Int)) (fun k => ?_) (Ev.const _)
        simp only [colophonref10_Common.j2]
        rw [if_neg (by simp)]
      refine Ev.step (fun k => ?_) hj
      simp only [colophonref10_Common.l0]
      rw [if_neg c1]
  | succ d ih =>
    intro m hm
    obtain ⟨g1, g2, g3⟩ := com_go t a b a0 b0 m (by omega)
    have hj : Ev (fun k => colophonref10_Common.j2 k t b m (a + m) (decide ((wrap64 (b + m)) < (t.length : Int)))) (lcp (t.drop a.toNat) (t.drop b.toNat) : Int) := by
      refine Ev.step (fun k => ?_) (ih (m + 1) (by omega))
      simp only [colophonref10_Common.j2]
      rw [wrap_id (x := b + m) (by omega) (by omega), decide_eq_true g2, if_pos rfl, if_pos (by omega), if_pos g1, if_pos (by omega), if_pos g2, if_pos g3, wrap_id (x := (m : Int) + 1) (by omega) (by omega), wrap_id (x := a + m + 1) (by omega) (by omega)]
      rw [show a + (m : Int) + 1 = a + ((m + 1 : Nat) : Int) by omega]
      rfl
    refine Ev.step (fun k => ?_) hj
    simp only [colophonref10_Common.l0]
    rw [if_pos g1]
theorem rcommon_ev (t : List Int) (a b : Int) (hn : t.length ≤ 1000000000000000) : Ev (fun k => colophonref10_Common.f k t a b) (com t a b) := by
  by_cases h : 0 ≤ a ∧ a < t.length ∧ 0 ≤ b ∧ b < t.length
  · have e : com t a b = (lcp (t.drop a.toNat) (t.drop b.toNat) : Int) := by unfold com; rw [if_pos h]
    rw [e]
    have hj : Ev (fun k => colophonref10_Common.j0 k t a b (decide (b ≥ (t.length : Int)))) (lcp (t.drop a.toNat) (t.drop b.toNat) : Int) := by
      by_cases c : rd t a = rd t b
      · have hp : 1 ≤ lcp (t.drop a.toNat) (t.drop b.toNat) := by
          rw [drop_cons h.1 h.2.1, drop_cons h.2.2.1 h.2.2.2]
          simp only [lcp]
          rw [if_pos c]
          omega
        refine Ev.step (fun k => ?_) (rcommon_l0 t a b hn h.1 h.2.1 h.2.2.1 h.2.2.2 (lcp (t.drop a.toNat) (t.drop b.toNat) - 1) 1 (by omega))
        simp only [colophonref10_Common.j0]
        rw [decide_eq_false (by omega), if_neg (by simp), if_pos (by omega), if_pos (by omega), if_pos (by omega), if_pos (by omega), if_pos c, wrap_id (by omega) (by omega)]
        rfl
      · have hz : lcp (t.drop a.toNat) (t.drop b.toNat) = 0 := by
          rw [drop_cons h.1 h.2.1, drop_cons h.2.2.1 h.2.2.2]
          simp only [lcp]
          rw [if_neg c]
        rw [hz]
        refine Ev.step (f := fun _ => some 0) (fun k => ?_) (Ev.const _)
        simp only [colophonref10_Common.j0]
        rw [decide_eq_false (by omega), if_neg (by simp), if_pos (by omega), if_pos (by omega), if_pos (by omega), if_pos (by omega), if_neg c]
    refine Ev.congr (fun k => ?_) hj
    simp only [colophonref10_Common.f]
    rw [if_neg (by omega), if_neg (by omega), if_neg (by omega)]
  · have e : com t a b = 0 := by unfold com; rw [if_neg h]
    rw [e]
    have hz : ∀ x : Bool, x = true → Ev (fun k => colophonref10_Common.j0 k t a b x) 0 := fun x hx => Ev.step (f := fun _ => some 0) (fun k => by simp only [colophonref10_Common.j0]; rw [if_pos hx]) (Ev.const _)
    by_cases c1 : a < 0
    · exact Ev.congr (fun k => by simp only [colophonref10_Common.f]; rw [if_pos c1]) (hz true rfl)
    by_cases c2 : b < 0
    · exact Ev.congr (fun k => by simp only [colophonref10_Common.f]; rw [if_neg c1, if_pos c2]) (hz true rfl)
    by_cases c3 : a ≥ t.length
    · exact Ev.congr (fun k => by simp only [colophonref10_Common.f]; rw [if_neg c1, if_neg c2, if_pos c3]) (hz true rfl)
    exact Ev.congr (fun k => by simp only [colophonref10_Common.f]; rw [if_neg c1, if_neg c2, if_neg c3]) (hz _ (decide_eq_true (by omega)))

/-! ### the array of what is in common -/
def lcpArr (t sa : List Int) : List Int := (List.range sa.length).map fun (i : Nat) => if i = 0 then 0 else com t (rd sa ((i : Int) - 1)) (rd sa i)
theorem lcpArr_length (t sa : List Int) : (lcpArr t sa).length = sa.length := by simp [lcpArr]
theorem rd_lcpArr {t sa : List Int} {i : Int} (h0 : 0 ≤ i) (h1 : i < sa.length) : rd (lcpArr t sa) i = if i = 0 then 0 else com t (rd sa (i - 1)) (rd sa i) := by
  obtain ⟨i, rfl⟩ := Int.eq_ofNat_of_zero_le h0
  rw [rd_getElem (by rw [lcpArr_length]; omega)]
  simp only [lcpArr, List.getElem_map, List.getElem_range]
  by_cases e : i = 0
  · rw [if_pos e, if_pos (by omega)]
  · rw [if_neg e, if_neg (by omega)]
theorem rarray_l0 (t sa : List Int) (hn : t.length ≤ 1000000000000) (hm : sa.length ≤ 1000000000000) (d : Nat) : ∀ (o : List Int) (i : Int), (o.length : Int) = i → 0 ≤ i → i ≤ sa.length → (sa.length : Int) - i = d →
    (∀ j : Int, 0 ≤ j → j < i → rd o j = rd (lcpArr t sa) j) → Ev (fun k => colophonref10_Array.l0 k t sa o sa (sa.length : Int) i) (lcpArr t sa) := by
  induction d with
  | zero =>
    intro o i ho h0 h1 hd hall
    refine Ev.step (f := fun _ => some (lcpArr t sa)) (fun k => ?_) (Ev.const _)
    have : o = lcpArr t sa := ext_rd (by rw [lcpArr_length]; omega) fun j j0 j1 => hall j j0 (by omega)
    simp only [colophonref10_Array.l0]
    rw [if_neg (by omega), this]
  | succ d ih =>
    intro o i ho h0 h1 hd hall
    have hx : ∀ v : Int, v = rd (lcpArr t sa) i → ∀ j : Int, 0 ≤ j → j < i + 1 → rd (o ++ [v]) j = rd (lcpArr t sa) j := by
      intro v hv j j0 j1
      rw [rd_snoc j0 (by omega)]
      by_cases e : j = o.length
      · rw [if_pos e, hv, show i = j by omega]
      · rw [if_neg e]; exact hall j j0 (by omega)
    by_cases c : i = 0
    · refine Ev.step (fun k => ?_) (ih (o ++ [0]) (i + 1) (by simp; omega) (by omega) (by omega) (by omega) (hx 0 (by rw [rd_lcpArr h0 (by omega), if_pos c])))
      simp only [colophonref10_Array.l0]
      rw [if_pos (by omega), if_pos h0, if_pos (by omega), if_pos c, if_pos (by omega), wrap_id (by omega) (by omega)]
    · have hc := rcommon_ev t (rd sa (i - 1)) (rd sa i) (by omega)
      refine Ev.step (fun k => ?_) (Ev.bind hc (ih (o ++ [com t (rd sa (i - 1)) (rd sa i)]) (i + 1) (by simp; omega) (by omega) (by omega) (by omega) (hx _ (by rw [rd_lcpArr h0 (by omega), if_neg c]))) (f := fun k v => colophonref10_Array.l0 k t sa (o ++ [v]) sa (sa.length : Int) (i + 1)))
      simp only [colophonref10_Array.l0]
      rw [if_pos (by omega), if_pos h0, if_pos (by omega), if_neg c, wrap_id (x := i - 1) (by omega) (by omega), if_pos (by omega), if_pos (by omega), wrap_id (x := i + 1) (by omega) (by omega)]
      simp only [if_pos (show o.length < 17592186044416 by omega)]
theorem rarray_ev (t sa : List Int) (hn : t.length ≤ 1000000000000) (hm : sa.length ≤ 1000000000000) : Ev (fun k => colophonref10_Array.f k t sa) (lcpArr t sa) :=
  rarray_l0 t sa hn hm sa.length [] 0 (by simp) (by omega) (by omega) (by omega) (fun j _ _ => by omega)
end Go.Proofs.Yteagoinfepiilaa.Ls
