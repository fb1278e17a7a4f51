/- LcpRows: the least number of a range is the lesser one of the least of its two parts, for every list and every three places. No conditions. -/
import Derived.Test.YteagoinfepiilaaLaw10
import Derived.Test.YteagoinfepiilaaPrint10
namespace Go.Proofs.Yteagoinfepiilaa.Pure
open Go.RowKit Go.Proofs.Yteagoinfepiilaa.Print Go.Proofs.YteagoinfepiilaaW.PrintWords Go.Proofs.YteagoinfepiilaaW.PrintMore Go.Proofs.Yteagoinfepiilaa.Bs Go.Proofs.Yteagoinfepiilaa.Ls
set_option linter.unusedVariables false
set_option linter.unusedSimpArgs false
theorem LcpRows : colophonlaw10_LcpRows.Pure := by
  intro l x y z _ hl _ _ _ _
  refine Ev.rounds (g := fun k => colophonlaw10_LcpRows.f k l x y z) ?_
  unfold colophonlaw10_LcpRows.f
  refine Ev.bind first10 ?_
  simp only [if_true]
  have hz : ∀ g : Bool, g = true → Ev (fun k => colophonlaw10_LcpRows.j0 k l g x y z) true := fun g hg => by
    refine Ev.step (f := fun _ => some true) (fun k => ?_) (Ev.const _)
    simp only [colophonlaw10_LcpRows.j0]
    rw [if_pos hg]
  by_cases c1 : (l.length : Int) > 2000
  · exact Ev.congr (fun k => if_pos c1) (hz true rfl)
  refine Ev.congr (fun k => if_neg c1) ?_
  by_cases c2 : (l.length : Int) < 3
  · exact hz _ (decide_eq_true c2)
  rw [decide_eq_false c2]
  have hu : ¬ IntKind.u64.wrap (l.length : Int) = 0 := by simp only [IntKind.wrap, IntKind.signed, IntKind.bits]; simp; omega
  obtain ⟨X, hX, X0, X1⟩ := umod (x := x) (n := l.length) (by omega) (by omega)
  obtain ⟨Y, hY, Y0, Y1⟩ := umod (x := y) (n := l.length) (by omega) (by omega)
  obtain ⟨Z, hZ, Z0, Z1⟩ := umod (x := z) (n := l.length) (by omega) (by omega)
  obtain ⟨a, ha⟩ : ∃ a, min X Z = a := ⟨_, rfl⟩
  obtain ⟨c, hc⟩ : ∃ c, max X Z = c := ⟨_, rfl⟩
  have hrange : ∀ p q, lcp_Range.f l p q = some (rng l p q) := fun p q => range_eq _ p q (by omega)
  have hz1 : ∀ g : Bool, g = true → Ev (fun k => colophonlaw10_LcpRows.j1 k l a Y c g) true := fun g hg => by
    refine Ev.step (f := fun _ => some true) (fun k => ?_) (Ev.const _)
    simp only [colophonlaw10_LcpRows.j1]
    rw [if_pos hg]
  by_cases c3 : Y ≤ a
  · refine Ev.step (fun k => ?_) (hz1 true rfl)
    simp only [colophonlaw10_LcpRows.j0]
    rw [if_neg (by simp), if_neg hu, hX, hY, hZ, mn_eq, mx_eq, ha, hc, if_pos c3]
  by_cases c4 : Y ≥ c
  · refine Ev.step (fun k => ?_) (hz1 (decide (Y ≥ c)) (decide_eq_true c4))
    simp only [colophonlaw10_LcpRows.j0]
    rw [if_neg (by simp), if_neg hu, hX, hY, hZ, mn_eq, mx_eq, ha, hc, if_neg c3]
  have hj : Ev (fun k => colophonlaw10_LcpRows.j1 k l a Y c false) true := by
    refine Ev.step (f := fun _ => some true) (fun k => ?_) (Ev.const _)
    simp only [colophonlaw10_LcpRows.j1]
    have h1 : rng l a c = least l (a + 1) c := by unfold rng; rw [show min a c = a by omega, show max a c = c by omega, if_pos (by omega)]
    have h2 : rng l a Y = least l (a + 1) Y := by unfold rng; rw [show min a Y = a by omega, show max a Y = Y by omega, if_pos (by omega)]
    have h3 : rng l Y c = least l (Y + 1) c := by unfold rng; rw [show min Y c = Y by omega, show max Y c = c by omega, if_pos (by omega)]
    have h4 : rng l c a = least l (a + 1) c := by unfold rng; rw [show min c a = a by omega, show max c a = c by omega, if_pos (by omega)]
    have h5 := least_split l (a := a + 1) (b := Y) (c := c) (by omega) (by omega)
    rw [if_neg (by simp)]
    simp only [hrange, Option.bind_some]
    rw [h1, h2, h3, h4, mn_eq, if_pos h5]
    simp
  refine Ev.step (fun k => ?_) hj
  simp only [colophonlaw10_LcpRows.j0]
  rw [if_neg (by simp), if_neg hu, hX, hY, hZ, mn_eq, mx_eq, ha, hc, if_neg c3, decide_eq_false c4]
end Go.Proofs.Yteagoinfepiilaa.Pure
