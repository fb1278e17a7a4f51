/- LcpOrdered: of the suffixes of any list in order, the array of what neighbours have in common is the document's, and the least number between two of them is what these two have in common. No conditions. -/
import Derived.Test.YteagoinfepiilaaLaw10
import Derived.Test.YteagoinfepiilaaRarr
import Derived.Test.YteagoinfepiilaaPrint7
namespace Go.Proofs.Yteagoinfepiilaa.Pure
open Go.RowKit Go.Proofs.Yteagoinfepiilaa.Print Go.Proofs.YteagoinfepiilaaW.PrintWords Go.Proofs.YteagoinfepiilaaW.PrintMore Go.Proofs.Yteagoinfepiilaa.Bs Go.Proofs.Yteagoinfepiilaa.Ls
set_option linter.unusedVariables false
set_option linter.unusedSimpArgs false
theorem umod {x n : Int} (hn : 0 < n) (h : n ≤ 1000000000000) : ∃ a, wrap64 (Int.tmod (IntKind.u64.wrap x) (IntKind.u64.wrap n)) = a ∧ 0 ≤ a ∧ a < n := by
  have e : IntKind.u64.wrap n = n := by simp only [IntKind.wrap, IntKind.signed, IntKind.bits]; simp; omega
  have hx : 0 ≤ IntKind.u64.wrap x := by simp only [IntKind.wrap, IntKind.signed, IntKind.bits]; simp; omega
  rw [e, Int.tmod_eq_emod_of_nonneg hx]
  have h1 := Int.emod_nonneg (IntKind.u64.wrap x) (show n ≠ 0 by omega)
  have h2 := Int.emod_lt_of_pos (IntKind.u64.wrap x) hn
  exact ⟨_, wrap_id (by omega) (by omega), h1, h2⟩
/-- The least between two of the suffixes in order. -/
theorem rng_com {t sa : List Int} (h : IsSA t sa) (d : Nat) : ∀ a b : Int, 0 ≤ a → b < t.length → b = a + 1 + d → least (lcpArr t sa) (a + 1) b = com t (rd sa a) (rd sa b) := by
  have hl := h.perm.len
  induction d with
  | zero =>
    intro a b a0 b1 hb
    have e : b = a + 1 := by omega
    subst e
    refine least_uniq _ (by omega) ⟨a + 1, by omega, by omega, ?_⟩ fun j j0 j1 => ?_
    · rw [rd_lcpArr (by omega) (by omega), if_neg (by omega), show a + 1 - 1 = a by omega]
    · have e : j = a + 1 := by omega
      subst e
      rw [rd_lcpArr (by omega) (by omega), if_neg (by omega), show a + 1 - 1 = a by omega]
      exact Int.le_refl _
  | succ d ih =>
    intro a b a0 b1 hb
    have i1 := ih a (b - 1) a0 (by omega) (by omega)
    have e : least (lcpArr t sa) (a + 1) b = min (least (lcpArr t sa) (a + 1) (b - 1)) (least (lcpArr t sa) (b - 1 + 1) b) := least_split _ (by omega) (by omega)
    have e2 : least (lcpArr t sa) (b - 1 + 1) b = com t (rd sa (b - 1)) (rd sa b) := by
      refine least_uniq _ (by omega) ⟨b, by omega, by omega, ?_⟩ fun j j0 j1 => ?_
      · rw [rd_lcpArr (by omega) (by omega), if_neg (by omega)]
      · have e : j = b := by omega
        subst e
        rw [rd_lcpArr (by omega) (by omega), if_neg (by omega)]
        exact Int.le_refl _
    rw [e, i1, e2]
    have ra := h.perm.rng _ (rd_mem (l := sa) (i := a) a0 (by omega))
    have rb := h.perm.rng _ (rd_mem (l := sa) (i := b) (by omega) (by omega))
    have rc := h.perm.rng _ (rd_mem (l := sa) (i := b - 1) (by omega) (by omega))
    unfold com
    rw [if_pos ⟨ra.1, ra.2, rc⟩, if_pos ⟨rc.1, rc.2, rb⟩, if_pos ⟨ra.1, ra.2, rb⟩]
    have := lcp_chain (h.lt (i := a) (j := b - 1) a0 (by omega) (by omega)) (h.lt (i := b - 1) (j := b) (by omega) (by omega) (by omega))
    omega
theorem LcpOrdered : colophonlaw10_LcpOrdered.Pure := by
  intro t x y _ ht _ _ _
  refine Ev.rounds (g := fun k => colophonlaw10_LcpOrdered.f k t x y) ?_
  unfold colophonlaw10_LcpOrdered.f
  refine Ev.bind first10 ?_
  simp only [if_true]
  by_cases c : (t.length : Int) > 300
  · exact Ev.congr (fun k => if_pos c) (Ev.const true)
  refine Ev.congr (fun k => if_neg c) ?_
  have hsa := saOf_spec t
  obtain ⟨sa, hs⟩ : ∃ sa, saOf t = sa := ⟨_, rfl⟩
  have h1 := array_ev t (by omega)
  rw [hs] at h1 hsa
  have hl := hsa.perm.len
  refine Ev.bind h1 (Ev.bind (larray_yes t sa hsa.perm (by omega)) ?_)
  simp only [if_true]
  have h2 := rarray_ev t sa (by omega) (by omega)
  have h3 := same_ev (lcpArr t sa) (lcpArr t sa) (by rw [lcpArr_length]; omega)
  rw [decide_eq_true rfl] at h3
  refine Ev.bind h2 (Ev.bind h3 ?_)
  have hrange : ∀ a b, lcp_Range.f (lcpArr t sa) a b = some (rng (lcpArr t sa) a b) := fun a b => range_eq _ a b (by rw [lcpArr_length]; omega)
  by_cases c2 : (t.length : Int) < 2
  · refine Ev.step (f := fun _ => some true) (fun k => ?_) (Ev.const _)
    simp only [colophonlaw10_LcpOrdered.j0]
    rw [if_neg (by simp), if_pos c2, hrange]
    simp [rng]
  obtain ⟨a, ha, a0, a1⟩ := umod (x := x) (n := t.length) (by omega) (by omega)
  obtain ⟨b, hb, b0, b1⟩ := umod (x := y) (n := t.length) (by omega) (by omega)
  have hu : ¬ IntKind.u64.wrap (t.length : Int) = 0 := by simp only [IntKind.wrap, IntKind.signed, IntKind.bits]; simp; omega
  by_cases e : a = b
  · refine Ev.step (f := fun _ => some true) (fun k => ?_) (Ev.const _)
    simp only [colophonlaw10_LcpOrdered.j0]
    rw [if_neg (by simp), if_neg c2, if_neg hu, ha, hb, if_pos e, hrange, e]
    simp [rng]
  · have hr : ∀ p q : Int, 0 ≤ p → p < t.length → 0 ≤ q → q < t.length → p ≠ q → rng (lcpArr t sa) p q = com t (rd sa p) (rd sa q) := by
      intro p q p0 p1 q0 q1 hpq
      unfold rng
      rw [lcpArr_length, if_pos (by omega)]
      by_cases hlt : p < q
      · rw [show min p q = p by omega, show max p q = q by omega]
        exact rng_com hsa (q - p - 1).toNat p q p0 q1 (by omega)
      · rw [show min p q = q by omega, show max p q = p by omega, com_comm]
        exact rng_com hsa (p - q - 1).toNat q p q0 p1 (by omega)
    have h4 := rcommon_ev t (rd sa a) (rd sa b) (by omega)
    refine Ev.step (fun k => ?_) (Ev.bind h4 (Ev.congr (f := fun _ => some true) (fun k => ?_) (Ev.const true)) (f := fun k t237 => (if com t (rd sa a) (rd sa b) = t237 then ((some (com t (rd sa a) (rd sa b))).bind fun t238 => ((some (com t (rd sa a) (rd sa b))).bind fun t239 => (some (t238 == t239)))) else (some false))))
    · simp only [colophonlaw10_LcpOrdered.j0]
      rw [if_neg (by simp), if_neg c2, if_neg hu, ha, hb, if_neg e, hrange, hrange, Option.bind_some, if_pos a0, if_pos (by omega), if_pos b0, if_pos (by omega), hr a b a0 a1 b0 b1 e, hr b a b0 b1 a0 a1 (Ne.symm e), com_comm t (rd sa b)]
    · rw [if_pos rfl]
      simp
end Go.Proofs.Yteagoinfepiilaa.Pure
