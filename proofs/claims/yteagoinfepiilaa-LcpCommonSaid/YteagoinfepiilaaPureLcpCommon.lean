/- LcpCommon: what any two suffixes of any list have in common, and the least number of any range of it, are the document's. No conditions. -/
import Derived.Test.YteagoinfepiilaaLaw10
import Derived.Test.YteagoinfepiilaaPrint8
namespace Go.Proofs.Yteagoinfepiilaa.Pure
open Go.RowKit Go.Proofs.Yteagoinfepiilaa.Print Go.Proofs.YteagoinfepiilaaW.PrintWords Go.Proofs.YteagoinfepiilaaW.PrintMore Go.Proofs.Yteagoinfepiilaa.Bs Go.Proofs.Yteagoinfepiilaa.Ls
set_option linter.unusedVariables false
set_option linter.unusedSimpArgs false
theorem lcpCommon_l0 (t : List Int) (a b : Int) (hn : t.length ≤ 1000000000000) (x y : Int) (hx : 0 ≤ x) (hxy : x < y) (hy : y < t.length) (hr : rng t a b = least t (x + 1) y) (d : Nat) : ∀ (i w : Int), x + 1 ≤ i → i ≤ y + 1 → y + 1 - i = d →
    ((∃ j : Int, x + 1 ≤ j ∧ j ≤ y ∧ w = rd t j) ∧ ∀ j : Int, x + 1 ≤ j → j < i → w ≤ rd t j) → Ev (fun k => colophonlaw10_LcpCommon.l0 k t a b w y i) true := by
  induction d with
  | zero =>
    intro i w i0 i1 hd h
    refine Ev.step (f := fun _ => some true) (fun k => ?_) (Ev.const _)
    simp only [colophonlaw10_LcpCommon.l0]
    rw [if_neg (by omega), range_eq t a b (by omega), hr, least_uniq t (by omega) h.1 (fun j j0 j1 => h.2 j j0 (by omega))]
    simp
  | succ d ih =>
    intro i w i0 i1 hd h
    refine Ev.step (fun k => ?_) (ih (i + 1) (min w (rd t i)) (by omega) (by omega) (by omega) ⟨?_, fun j j0 j1 => ?_⟩)
    · simp only [colophonlaw10_LcpCommon.l0]
      rw [if_pos (by omega), if_pos (by omega), if_pos (by omega), mn_eq, wrap_id (by omega) (by omega)]
    · obtain ⟨⟨j, j0, j1, e⟩, _⟩ := h
      by_cases c : w ≤ rd t i
      · exact ⟨j, j0, j1, by omega⟩
      · exact ⟨i, i0, by omega, by omega⟩
    · by_cases e : j = i
      · rw [e]; omega
      · have := h.2 j j0 (by omega); omega
theorem LcpCommon : colophonlaw10_LcpCommon.Pure := by
  intro t a b _ ht _ _ _
  refine Ev.rounds (g := fun k => colophonlaw10_LcpCommon.f k t a b) ?_
  unfold colophonlaw10_LcpCommon.f
  refine Ev.bind first10 ?_
  simp only [if_true]
  by_cases c : (t.length : Int) > 2000
  · exact Ev.congr (fun k => if_pos c) (Ev.const true)
  refine Ev.congr (fun k => if_neg c) ?_
  have h1 := common_ev t a b (by omega)
  have h2 := rcommon_ev t a b (by omega)
  have h3 := common_ev t b a (by omega)
  rw [com_comm] at h3
  refine Ev.bind h1 (Ev.bind h2 ?_)
  simp only [if_true]
  refine Ev.bind h3 (Ev.bind h1 ?_)
  obtain ⟨x, hx⟩ : ∃ x, min a b = x := ⟨_, rfl⟩
  obtain ⟨y, hy⟩ : ∃ y, max a b = y := ⟨_, rfl⟩
  have hxy : x ≤ y := by omega
  have hz : ∀ g : Bool, g = false → rng t a b = -1 → Ev (fun k => colophonlaw10_LcpCommon.j1 k t a b (-1) x y g) true := by
    intro g hg hr
    refine Ev.step (f := fun _ => some true) (fun k => ?_) (Ev.const _)
    simp only [colophonlaw10_LcpCommon.j1]
    rw [hg, if_neg (by simp), range_eq t a b (by omega), hr]
    rfl
  by_cases c1 : x ≥ 0
  · by_cases c2 : y < t.length
    · by_cases c3 : x < y
      · have hr : rng t a b = least t (x + 1) y := by unfold rng; rw [hx, hy, if_pos (by omega)]
        have hj : Ev (fun k => colophonlaw10_LcpCommon.j1 k t a b (-1) x y true) true := by
          refine Ev.step (fun k => ?_) (lcpCommon_l0 t a b (by omega) x y (by omega) c3 c2 hr (y - x).toNat (x + 1) (rd t y) (by omega) (by omega) (by omega) ⟨⟨y, by omega, by omega, rfl⟩, fun j j0 j1 => by omega⟩)
          simp only [colophonlaw10_LcpCommon.j1]
          rw [if_pos (by simp), if_pos (by omega), if_pos c2, wrap_id (by omega) (by omega)]
        refine Ev.step (fun k => ?_) hj
        simp only [colophonlaw10_LcpCommon.j0]
        rw [mn_eq, mx_eq, hx, hy, if_neg (by simp), if_pos c1, if_pos c2, decide_eq_true c3]
      · refine Ev.step (fun k => ?_) (hz (decide (x < y)) (decide_eq_false c3) (by unfold rng; rw [hx, hy, if_neg (by omega)]))
        simp only [colophonlaw10_LcpCommon.j0]
        rw [mn_eq, mx_eq, hx, hy, if_neg (by simp), if_pos c1, if_pos c2]
    · refine Ev.step (fun k => ?_) (hz false rfl (by unfold rng; rw [hx, hy, if_neg (by omega)]))
      simp only [colophonlaw10_LcpCommon.j0]
      rw [mn_eq, mx_eq, hx, hy, if_neg (by simp), if_pos c1, if_neg c2]
  · refine Ev.step (fun k => ?_) (hz false rfl (by unfold rng; rw [hx, hy, if_neg (by omega)]))
    simp only [colophonlaw10_LcpCommon.j0]
    rw [mn_eq, mx_eq, hx, hy, if_neg (by simp), if_neg c1]
end Go.Proofs.Yteagoinfepiilaa.Pure
