/- LcpArrays: the program's array of what suffixes side by side have in common is the document's, for every list t and every list sa; an sa that has not each place of t once is refused. No conditions. -/
import Derived.Test.YteagoinfepiilaaLaw10
import Derived.Test.YteagoinfepiilaaPrint5
namespace Go.Proofs.Yteagoinfepiilaa.Pure
open Go.RowKit Go.Proofs.Yteagoinfepiilaa.Print Go.Proofs.YteagoinfepiilaaW.PrintWords Go.Proofs.YteagoinfepiilaaW.PrintMore Go.Proofs.Yteagoinfepiilaa.Bs Go.Proofs.Yteagoinfepiilaa.Ls
set_option linter.unusedVariables false
set_option linter.unusedSimpArgs false
theorem LcpArrays : colophonlaw10_LcpArrays.Pure := by
  intro t sa _ ht _ _ hs _
  refine Ev.rounds (g := fun k => colophonlaw10_LcpArrays.f k t sa) ?_
  unfold colophonlaw10_LcpArrays.f
  refine Ev.bind first10 ?_
  simp only [if_true]
  by_cases c : mx (t.length : Int) (sa.length : Int) > 400
  · exact Ev.congr (fun k => if_pos c) (Ev.const true)
  refine Ev.congr (fun k => if_neg c) ?_
  rw [mx_eq] at c
  simp only [Option.bind_some, List.length_nil, List.nil_append]
  refine Ev.congr (fun k => if_pos (show 0 + t.length < 17592186044416 by omega)) ?_
  refine Ev.congr (fun k => if_pos (show 0 + sa.length < 17592186044416 by omega)) ?_
  have hend : ∀ (x : List Int × Int), Ev (fun k => colophonlaw10_LcpArrays.j0 k t sa x.1 x.2 false) true →
      Ev (fun k => (colophonref08_Same.f k t t).bind fun t198 => if t198 = true then ((colophonref08_Same.f k sa sa).bind fun t199 => (colophonlaw10_LcpArrays.j0 k t sa x.1 x.2 (!t199))) else (colophonlaw10_LcpArrays.j0 k t sa x.1 x.2 true)) true := by
    intro x hx
    have h1 := same_ev t t (by omega)
    have h2 := same_ev sa sa (by omega)
    rw [decide_eq_true rfl] at h1 h2
    refine Ev.bind h1 (Ev.congr (fun k => if_pos rfl) ?_) (f := fun k (b : Bool) => if b = true then ((colophonref08_Same.f k sa sa).bind fun t199 => (colophonlaw10_LcpArrays.j0 k t sa x.1 x.2 (!t199))) else (colophonlaw10_LcpArrays.j0 k t sa x.1 x.2 true))
    exact Ev.bind h2 (Ev.congr (fun k => rfl) hx) (f := fun k (b : Bool) => colophonlaw10_LcpArrays.j0 k t sa x.1 x.2 (!b))
  by_cases hp : IsPerm t.length sa
  · have hl := hp.len
    have hpa : IsPerm sa.length sa := by rw [hl]; exact hp
    refine Ev.bind (larray_yes t sa hp (by omega)) (hend _ ?_)
    have hj1 : Ev (fun k => colophonlaw10_LcpArrays.j1 k t sa (lcpArr t sa) 0 ((sa.length : Int) != (t.length : Int))) true := by
      have h1 := rarray_ev t sa (by omega) (by omega)
      have h2 := same_ev (lcpArr t sa) (lcpArr t sa) (by rw [lcpArr_length]; omega)
      rw [decide_eq_true rfl] at h2
      refine Ev.step (fun k => ?_) (Ev.bind h1 (Ev.bind h2 (Ev.const true) (f := fun k b => some b)) (f := fun k x => (colophonref08_Same.f k (lcpArr t sa) x).bind fun b => some b))
      simp only [colophonlaw10_LcpArrays.j1]
      rw [bne_eq_false_iff_eq.2 (by omega), if_neg (by simp)]
      simp
    have h3 := turned_yes sa hpa (by omega)
    refine Ev.step (fun k => ?_) (Ev.bind h3 (Ev.congr (fun k => if_pos rfl) hj1) (f := fun k bt => if bt.2 = true then (colophonlaw10_LcpArrays.j1 k t sa (lcpArr t sa) 0 ((sa.length : Int) != (t.length : Int))) else (colophonlaw10_LcpArrays.j1 k t sa (lcpArr t sa) 0 true)))
    simp only [colophonlaw10_LcpArrays.j0]
    rw [if_neg (by simp)]
  · refine Ev.bind (larray_no t sa hp (by omega) (by omega)) (hend _ ?_)
    have hj1 : ∀ x : Bool, x = true → Ev (fun k => colophonlaw10_LcpArrays.j1 k t sa [] 2 x) true := fun x hx => by
      refine Ev.step (f := fun _ => some true) (fun k => ?_) (Ev.const _)
      simp only [colophonlaw10_LcpArrays.j1]
      rw [if_pos hx]
      simp
    by_cases hpa : IsPerm sa.length sa
    · have hne : sa.length ≠ t.length := fun e => hp (e ▸ hpa)
      have h3 := turned_yes sa hpa (by omega)
      refine Ev.step (fun k => ?_) (Ev.bind h3 (Ev.congr (fun k => if_pos rfl) (hj1 _ (show ((sa.length : Int) != (t.length : Int)) = true by rw [bne_iff_ne]; omega))) (f := fun k bt => if bt.2 = true then (colophonlaw10_LcpArrays.j1 k t sa [] 2 ((sa.length : Int) != (t.length : Int))) else (colophonlaw10_LcpArrays.j1 k t sa [] 2 true)))
      simp only [colophonlaw10_LcpArrays.j0]
      rw [if_neg (by simp)]
    · have h3 := turned_no sa hpa (by omega)
      refine Ev.step (fun k => ?_) (Ev.bind h3 (Ev.congr (fun k => if_neg (by simp)) (hj1 true rfl)) (f := fun k bt => if bt.2 = true then (colophonlaw10_LcpArrays.j1 k t sa [] 2 ((sa.length : Int) != (t.length : Int))) else (colophonlaw10_LcpArrays.j1 k t sa [] 2 true)))
      simp only [colophonlaw10_LcpArrays.j0]
      rw [if_neg (by simp)]
end Go.Proofs.Yteagoinfepiilaa.Pure
