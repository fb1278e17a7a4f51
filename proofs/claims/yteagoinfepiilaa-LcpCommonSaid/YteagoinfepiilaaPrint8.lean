-- Laid by a program of this session's (wip/tools/mprint.py), out of the translation and of texts of ours. Not trusted: Lean checks it.
import Derived.Test.YteagoinfepiilaaPrint0
import Derived.Test.YteagoinfepiilaaPrint1
import Derived.Test.YteagoinfepiilaaPrint3
import Derived.Test.YteagoinfepiilaaPrint4
namespace Go.Proofs.Yteagoinfepiilaa.Print
open Go.RowKit Go.Proofs.YteagoinfepiilaaW.PrintWords Go.Proofs.YteagoinfepiilaaW.PrintLast Go.Proofs.YteagoinfepiilaaW.PrintMore
attribute [local go_sem] max2_int min2_int max_two min_two max_three min_three max_four min_four   -- for this text's walks alone
set_option linter.unusedVariables false
set_option linter.unusedSimpArgs false

/-! ### colophonlaw10_LcpCommon: function 5 -/
mutual
def colophonlaw10_LcpCommon.j0 : Nat → List Int → Int → Int → Bool → Option (Bool)
  | 0, _, _, _, _ => none
  | k + 1, x0, x1, x2, x35 => if x35 = true then (some false) else (if (mn x1 x2) ≥ 0 then (if (mx x1 x2) < (x0.length : Int) then (colophonlaw10_LcpCommon.j1 k x0 x1 x2 (-1) (mn x1 x2) (mx x1 x2) (decide ((mn x1 x2) < (mx x1 x2)))) else (colophonlaw10_LcpCommon.j1 k x0 x1 x2 (-1) (mn x1 x2) (mx x1 x2) false)) else (colophonlaw10_LcpCommon.j1 k x0 x1 x2 (-1) (mn x1 x2) (mx x1 x2) false))
def colophonlaw10_LcpCommon.j1 : Nat → List Int → Int → Int → Int → Int → Int → Bool → Option (Bool)
  | 0, _, _, _, _, _, _, _ => none
  | k + 1, x0, x1, x2, x7, x8, x9, x54 => if x54 = true then (if 0 ≤ x9 then (if x9 < (x0.length : Int) then (colophonlaw10_LcpCommon.l0 k x0 x1 x2 (rd x0 x9) x9 (wrap64 (x8 + 1))) else (none)) else (none)) else ((lcp_Range.f x0 x1 x2).bind fun t248 => (some (t248 == x7)))
def colophonlaw10_LcpCommon.l0 : Nat → List Int → Int → Int → Int → Int → Int → Option (Bool)
  | 0, _, _, _, _, _, _ => none
  | k + 1, x0, x1, x2, x7, x9, x10 => if x10 ≤ x9 then (if 0 ≤ x10 then (if x10 < (x0.length : Int) then (colophonlaw10_LcpCommon.l0 k x0 x1 x2 (mn x7 (rd x0 x10)) x9 (wrap64 (x10 + 1))) else (none)) else (none)) else ((lcp_Range.f x0 x1 x2).bind fun t247 => (some (t247 == x7)))
end
def colophonlaw10_LcpCommon.f (k : Nat) (l0 : List Int) (a1 : Int) (a2 : Int) : Option (Bool) := (colophonlaw10_first.f k).bind fun t240 => (if t240 = true then (if (l0.length : Int) > 2000 then (some true) else ((lcp_Common.f k l0 a1 a2).bind fun t241 => ((colophonref10_Common.f k l0 a1 a2).bind fun t242 => (if t241 = t242 then ((lcp_Common.f k l0 a2 a1).bind fun t243 => ((lcp_Common.f k l0 a1 a2).bind fun t244 => (colophonlaw10_LcpCommon.j0 k l0 a1 a2 (t243 != t244)))) else (colophonlaw10_LcpCommon.j0 k l0 a1 a2 true))))) else (some false))
theorem colophonlaw10_LcpCommon.mono_l : ∀ k, (∀ y0 y1 y2 y3, LeO (colophonlaw10_LcpCommon.j0 k y0 y1 y2 y3) (colophonlaw10_LcpCommon.j0 (k + 1) y0 y1 y2 y3)) ∧ (∀ y0 y1 y2 y3 y4 y5 y6, LeO (colophonlaw10_LcpCommon.j1 k y0 y1 y2 y3 y4 y5 y6) (colophonlaw10_LcpCommon.j1 (k + 1) y0 y1 y2 y3 y4 y5 y6)) ∧ (∀ y0 y1 y2 y3 y4 y5, LeO (colophonlaw10_LcpCommon.l0 k y0 y1 y2 y3 y4 y5) (colophonlaw10_LcpCommon.l0 (k + 1) y0 y1 y2 y3 y4 y5))
  | 0 => ⟨fun _ _ _ _ r h => by simp [colophonlaw10_LcpCommon.j0] at h, fun _ _ _ _ _ _ _ r h => by simp [colophonlaw10_LcpCommon.j1] at h, fun _ _ _ _ _ _ r h => by simp [colophonlaw10_LcpCommon.l0] at h⟩
  | k + 1 => by
    obtain ⟨ih0, ih1, ih2⟩ := colophonlaw10_LcpCommon.mono_l k
    refine ⟨?_, ?_, ?_⟩
    · intro y0 y1 y2 y3
      unfold colophonlaw10_LcpCommon.j0
      repeat' first
      | (with_reducible exact ih0 _ _ _ _)
      | (with_reducible exact ih1 _ _ _ _ _ _ _)
      | (with_reducible exact ih2 _ _ _ _ _ _)
      | (with_reducible exact colophonlaw10_first.mono _)
      | (with_reducible exact colophonref10_Common.mono _ _ _ _)
      | (with_reducible exact lcp_Common.mono _ _ _ _)
      | (with_reducible exact LeO.refl _)
      | (with_reducible exact LeO.none _)
      | (with_reducible refine LeO.ite ?_ ?_)
      | (with_reducible refine LeO.bind ?_ (fun _ => ?_))
      | exact ih0 _ _ _ _
      | exact ih1 _ _ _ _ _ _ _
      | exact ih2 _ _ _ _ _ _
      | exact colophonlaw10_first.mono _
      | exact colophonref10_Common.mono _ _ _ _
      | exact lcp_Common.mono _ _ _ _
      | exact LeO.none _
      | refine LeO.ite ?_ ?_
      | refine LeO.bind ?_ (fun _ => ?_)
    · intro y0 y1 y2 y3 y4 y5 y6
      unfold colophonlaw10_LcpCommon.j1
      repeat' first
      | (with_reducible exact ih0 _ _ _ _)
      | (with_reducible exact ih1 _ _ _ _ _ _ _)
      | (with_reducible exact ih2 _ _ _ _ _ _)
      | (with_reducible exact colophonlaw10_first.mono _)
      | (with_reducible exact colophonref10_Common.mono _ _ _ _)
      | (with_reducible exact lcp_Common.mono _ _ _ _)
      | (with_reducible exact LeO.refl _)
      | (with_reducible exact LeO.none _)
      | (with_reducible refine LeO.ite ?_ ?_)
      | (with_reducible refine LeO.bind ?_ (fun _ => ?_))
      | exact ih0 _ _ _ _
      | exact ih1 _ _ _ _ _ _ _
      | exact ih2 _ _ _ _ _ _
      | exact colophonlaw10_first.mono _
      | exact colophonref10_Common.mono _ _ _ _
      | exact lcp_Common.mono _ _ _ _
      | exact LeO.none _
      | refine LeO.ite ?_ ?_
      | refine LeO.bind ?_ (fun _ => ?_)
    · intro y0 y1 y2 y3 y4 y5
      unfold colophonlaw10_LcpCommon.l0
      repeat' first
      | (with_reducible exact ih0 _ _ _ _)
      | (with_reducible exact ih1 _ _ _ _ _ _ _)
      | (with_reducible exact ih2 _ _ _ _ _ _)
      | (with_reducible exact colophonlaw10_first.mono _)
      | (with_reducible exact colophonref10_Common.mono _ _ _ _)
      | (with_reducible exact lcp_Common.mono _ _ _ _)
      | (with_reducible exact LeO.refl _)
      | (with_reducible exact LeO.none _)
      | (with_reducible refine LeO.ite ?_ ?_)
      | (with_reducible refine LeO.bind ?_ (fun _ => ?_))
      | exact ih0 _ _ _ _
      | exact ih1 _ _ _ _ _ _ _
      | exact ih2 _ _ _ _ _ _
      | exact colophonlaw10_first.mono _
      | exact colophonref10_Common.mono _ _ _ _
      | exact lcp_Common.mono _ _ _ _
      | exact LeO.none _
      | refine LeO.ite ?_ ?_
      | refine LeO.bind ?_ (fun _ => ?_)
theorem colophonlaw10_LcpCommon.mono : ∀ a0 a1 a2 k, LeO (colophonlaw10_LcpCommon.f k a0 a1 a2) (colophonlaw10_LcpCommon.f (k + 1) a0 a1 a2) := by
  intro a0 a1 a2 k
  obtain ⟨ih0, ih1, ih2⟩ := colophonlaw10_LcpCommon.mono_l k
  unfold colophonlaw10_LcpCommon.f
  repeat' first
      | (with_reducible exact ih0 _ _ _ _)
      | (with_reducible exact ih1 _ _ _ _ _ _ _)
      | (with_reducible exact ih2 _ _ _ _ _ _)
      | (with_reducible exact colophonlaw10_first.mono _)
      | (with_reducible exact colophonref10_Common.mono _ _ _ _)
      | (with_reducible exact lcp_Common.mono _ _ _ _)
      | (with_reducible exact LeO.refl _)
      | (with_reducible exact LeO.none _)
      | (with_reducible refine LeO.ite ?_ ?_)
      | (with_reducible refine LeO.bind ?_ (fun _ => ?_))
      | exact ih0 _ _ _ _
      | exact ih1 _ _ _ _ _ _ _
      | exact ih2 _ _ _ _ _ _
      | exact colophonlaw10_first.mono _
      | exact colophonref10_Common.mono _ _ _ _
      | exact lcp_Common.mono _ _ _ _
      | exact LeO.none _
      | refine LeO.ite ?_ ?_
      | refine LeO.bind ?_ (fun _ => ?_)
set_option maxHeartbeats 8000000 in
set_option maxRecDepth 100000 in
theorem colophonlaw10_LcpCommon.calls (k : Nat) (A0 : Option Addr) (c0 : Nat) (l0 : List Int) (a1 : Int) (a2 : Int) (r : Bool) (w : World) (hr0 : Kd.C (Kd.int .i64) w A0 l0.length l0) (hc0 : l0.length ≤ c0) (h : colophonlaw10_LcpCommon.f k l0 a1 a2 = some r) :
    Calls Try.prog 5 #[.slice A0 l0.length c0, .int .i64 a1, .int .i64 a2] w fun e w' => e = .returned (.bool r) ∧ Below w.heap.size w w' := by
  have HR0 := Aside0.mk hr0
  have HC0 := Aside0.mk hc0
  clear hr0 hc0
  have HB := Aside0.mk (Below.refl w.heap.size w)
  have H : ((colophonlaw10_first.f k).bind fun t240 => (if t240 = true then (if (l0.length : Int) > 2000 then (some true) else ((lcp_Common.f k l0 a1 a2).bind fun t241 => ((colophonref10_Common.f k l0 a1 a2).bind fun t242 => (if t241 = t242 then ((lcp_Common.f k l0 a2 a1).bind fun t243 => ((lcp_Common.f k l0 a1 a2).bind fun t244 => (colophonlaw10_LcpCommon.j0 k l0 a1 a2 (t243 != t244)))) else (colophonlaw10_LcpCommon.j0 k l0 a1 a2 true))))) else (some false))) = some r := h
  clear h
  replace H := Option.bind_eq_some_iff.mp H
  obtain ⟨t240, A40, H⟩ := H
  replace H : (if t240 = true then (if (l0.length : Int) > 2000 then (some true) else ((lcp_Common.f k l0 a1 a2).bind fun t241 => ((colophonref10_Common.f k l0 a1 a2).bind fun t242 => (if t241 = t242 then ((lcp_Common.f k l0 a2 a1).bind fun t243 => ((lcp_Common.f k l0 a1 a2).bind fun t244 => (colophonlaw10_LcpCommon.j0 k l0 a1 a2 (t243 != t244)))) else (colophonlaw10_LcpCommon.j0 k l0 a1 a2 true))))) else (some false)) = some r := H
  have A4 := Aside0.mk A40
  clear A40
  by_cases c5 : t240 = true
  · subst c5
    have H1 : (if (l0.length : Int) > 2000 then (some true) else ((lcp_Common.f k l0 a1 a2).bind fun t241 => ((colophonref10_Common.f k l0 a1 a2).bind fun t242 => (if t241 = t242 then ((lcp_Common.f k l0 a2 a1).bind fun t243 => ((lcp_Common.f k l0 a1 a2).bind fun t244 => (colophonlaw10_LcpCommon.j0 k l0 a1 a2 (t243 != t244)))) else (colophonlaw10_LcpCommon.j0 k l0 a1 a2 true))))) = some r := by rw [if_pos rfl] at H; exact H
    clear H
    have H := H1
    clear H1
    by_cases c6 : (l0.length : Int) > 2000
    · rw [if_pos c6] at H
      have c6b0 : decide (2000 < (l0.length : Int)) = true := decide_eq_true c6
      have c6b1 : decide (2000 < l0.length) = true := decide_eq_true (by omega)
      clear c6
      obtain rfl := Option.some.inj H
      go_enter Try.func5, Try.ntmps5
      go_wp2_with (first | ((with_reducible refine gate_callee (f := 14) rfl ?_); refine goesL_ (some 11) rfl rfl Try.func14 (by kernel_rfl) rfl #[] rfl (by (try simp only [List.map_toArray, List.map_cons, List.map_nil]); first | done | rfl | (simp only [List.length_drop, List.length_take]; rfl)) ?_; (with_reducible refine (colophonlaw10_first.calls k  true _ A4.out).mono ?_); rintro e w7 ⟨rfl, hb⟩; refine ⟨_, rfl, ?_⟩; have n0_ := Aside0.mk (below_step (by repeat (first | (with_reducible first | exact HB.out | apply below_alloc | apply pw_below_drewN | apply below_drew1) | exact HB.out)) hb); clear HB; have HB := n0_; clear n0_; (try clear hb); (try clear hb2); (try clear hk); (try clear hi)))
      go_ret
      exact ⟨by first | rfl | (simp [errW_none, errW_some] <;> rfl) | (simp [*, errW_none, errW_some] <;> rfl), by repeat (first | (with_reducible first | exact HB.out | apply below_alloc | apply pw_below_drewN | apply below_drew1) | exact HB.out)⟩
    · rw [if_neg c6] at H
      have c6b0 : decide (2000 < (l0.length : Int)) = false := decide_eq_false c6
      have c6b1 : decide (2000 < l0.length) = false := decide_eq_false (by omega)
      clear c6
      have HC8 := Aside0.mk H
      clear H
      go_enter Try.func5, Try.ntmps5
      go_upto_region 5 with (first | ((with_reducible refine gate_callee (f := 14) rfl ?_); refine goesL_ (some 11) rfl rfl Try.func14 (by kernel_rfl) rfl #[] rfl (by (try simp only [List.map_toArray, List.map_cons, List.map_nil]); first | done | rfl | (simp only [List.length_drop, List.length_take]; rfl)) ?_; (with_reducible refine (colophonlaw10_first.calls k  true _ A4.out).mono ?_); rintro e w9 ⟨rfl, hb⟩; refine ⟨_, rfl, ?_⟩; have n0_ := Aside0.mk (below_step (by repeat (first | (with_reducible first | exact HB.out | apply below_alloc | apply pw_below_drewN | apply below_drew1) | exact HB.out)) hb); clear HB; have HB := n0_; clear n0_; (try clear hb); (try clear hb2); (try clear hk); (try clear hi)))
      (try simp only [Act.put, List.setIfInBounds_toArray, List.set_cons_zero, List.set_cons_succ])
      go_cut [35] (fun v35 wc => ∃ (kq : Nat) (x35_7 : Bool), v35 = .bool x35_7 ∧ Aside0 (colophonlaw10_LcpCommon.j0 kq l0 a1 a2 x35_7 = some r) ∧ Aside0 (kq ≤ k) ∧ Aside0 (Below w.heap.size w wc))
      case first =>
        have H := HC8.out
        clear HC8
        replace H := Option.bind_eq_some_iff.mp H
        obtain ⟨t241, A100, H⟩ := H
        replace H : ((colophonref10_Common.f k l0 a1 a2).bind fun t242 => (if t241 = t242 then ((lcp_Common.f k l0 a2 a1).bind fun t243 => ((lcp_Common.f k l0 a1 a2).bind fun t244 => (colophonlaw10_LcpCommon.j0 k l0 a1 a2 (t243 != t244)))) else (colophonlaw10_LcpCommon.j0 k l0 a1 a2 true))) = some r := H
        have A10 := Aside0.mk A100
        clear A100
        replace H := Option.bind_eq_some_iff.mp H
        obtain ⟨t242, A110, H⟩ := H
        replace H : (if t241 = t242 then ((lcp_Common.f k l0 a2 a1).bind fun t243 => ((lcp_Common.f k l0 a1 a2).bind fun t244 => (colophonlaw10_LcpCommon.j0 k l0 a1 a2 (t243 != t244)))) else (colophonlaw10_LcpCommon.j0 k l0 a1 a2 true)) = some r := H
        have A11 := Aside0.mk A110
        clear A110
        by_cases c12 : t241 = t242
        · rw [if_pos c12] at H
          have c12b0 : (t241 == t242) = true := beq_iff_eq.mpr c12
          have c12b1 : (t241 != t242) = false := bne_eq_false_iff_eq.mpr c12
          clear c12
          (first | rw [c12b0] | (simp only [i64_w, i32_w]; rw [c12b0]) | skip)
          replace H := Option.bind_eq_some_iff.mp H
          obtain ⟨t243, A130, H⟩ := H
          replace H : ((lcp_Common.f k l0 a1 a2).bind fun t244 => (colophonlaw10_LcpCommon.j0 k l0 a1 a2 (t243 != t244))) = some r := H
          have A13 := Aside0.mk A130
          clear A130
          replace H := Option.bind_eq_some_iff.mp H
          obtain ⟨t244, A140, H⟩ := H
          replace H : (colophonlaw10_LcpCommon.j0 k l0 a1 a2 (t243 != t244)) = some r := H
          have A14 := Aside0.mk A140
          clear A140
          have H' := Aside0.mk H
          clear H
          go_wp2_with (first | ((with_reducible refine gate_callee (f := 22) rfl ?_); refine goesL_ (some 19) rfl rfl Try.func22 (by kernel_rfl) rfl #[.slice A0 l0.length c0, .int .i64 a1, .int .i64 a2] rfl (by (try simp only [List.map_toArray, List.map_cons, List.map_nil]); first | done | rfl | (simp only [List.length_drop, List.length_take]; rfl)) ?_; (with_reducible refine (lcp_Common.calls k _ _ l0 a1 a2 t241 _ ?side1 ?side2 A10.out).mono ?_); (case side1 => repeat (first | exact (Kd.C_below HR0.out HB.out) | (with_reducible refine Kd.C_alloc ?_ _) | (with_reducible refine Kd.C_drewN ?_ _) | (with_reducible refine Kd.C_drew ?_))); (case side2 => exact HC0.out); rintro e w15 ⟨rfl, hb⟩; refine ⟨_, rfl, ?_⟩; have n0_ := Aside0.mk (below_step (by repeat (first | (with_reducible first | exact HB.out | apply below_alloc | apply pw_below_drewN | apply below_drew1) | exact HB.out)) hb); clear HB; have HB := n0_; clear n0_; (try clear hb); (try clear hb2); (try clear hk); (try clear hi)) | ((with_reducible refine gate_callee (f := 21) rfl ?_); refine goesL_ (some 23) rfl rfl Try.func21 (by kernel_rfl) rfl #[.slice A0 l0.length c0, .int .i64 a1, .int .i64 a2] rfl (by (try simp only [List.map_toArray, List.map_cons, List.map_nil]); first | done | rfl | (simp only [List.length_drop, List.length_take]; rfl)) ?_; (with_reducible refine (colophonref10_Common.calls k _ _ l0 a1 a2 t242 _ ?side1 ?side2 A11.out).mono ?_); (case side1 => repeat (first | exact (Kd.C_below HR0.out HB.out) | (with_reducible refine Kd.C_alloc ?_ _) | (with_reducible refine Kd.C_drewN ?_ _) | (with_reducible refine Kd.C_drew ?_))); (case side2 => exact HC0.out); rintro e w' ⟨rfl, ⟨nd, rfl⟩⟩; refine ⟨_, rfl, ?_⟩) | (go_at_call 22; (with_reducible refine (lcp_Common.calls k _ _ l0 a2 a1 t243 _ ?side1 ?side2 A13.out).mono ?_); (case side1 => repeat (first | exact (Kd.C_below HR0.out (by repeat (first | (with_reducible first | exact HB.out | apply below_alloc | apply pw_below_drewN | apply below_drew1) | exact HB.out))) | (with_reducible refine Kd.C_alloc ?_ _) | (with_reducible refine Kd.C_drewN ?_ _) | (with_reducible refine Kd.C_drew ?_))); (case side2 => exact HC0.out); rintro e w16 ⟨rfl, hb⟩; have n0_ := Aside0.mk (below_step (by repeat (first | (with_reducible first | exact HB.out | apply below_alloc | apply pw_below_drewN | apply below_drew1) | exact HB.out)) hb); clear HB; have HB := n0_; clear n0_; (try clear hb); (try clear hb2); (try clear hk); (try clear hi)) | (go_at_call 22; (with_reducible refine (lcp_Common.calls k _ _ l0 a1 a2 t244 _ ?side1 ?side2 A14.out).mono ?_); (case side1 => repeat (first | exact (Kd.C_below HR0.out HB.out) | (with_reducible refine Kd.C_alloc ?_ _) | (with_reducible refine Kd.C_drewN ?_ _) | (with_reducible refine Kd.C_drew ?_))); (case side2 => exact HC0.out); rintro e w17 ⟨rfl, hb⟩; have n0_ := Aside0.mk (below_step (by repeat (first | (with_reducible first | exact HB.out | apply below_alloc | apply pw_below_drewN | apply below_drew1) | exact HB.out)) hb); clear HB; have HB := n0_; clear n0_; (try clear hb); (try clear hb2); (try clear hk); (try clear hi)))
          go_meet
          case rel => exact ⟨_, ((t243 != t244)), (by first | rfl | (simp; done) | (simp [*]; done)), H', ⟨by first | omega | exact Nat.le_refl _⟩, ⟨by repeat (first | (with_reducible first | exact HB.out | apply below_alloc | apply pw_below_drewN | apply below_drew1) | exact HB.out)⟩⟩
        · rw [if_neg c12] at H
          have c12b0 : (t241 == t242) = false := beq_eq_false_iff_ne.mpr c12
          have c12b1 : (t241 != t242) = true := bne_iff_ne.mpr c12
          (first | rw [c12b0] | (simp only [i64_w, i32_w]; rw [c12b0]) | skip)
          have H' := Aside0.mk H
          clear H
          go_wp2_with (first | ((with_reducible refine gate_callee (f := 22) rfl ?_); refine goesL_ (some 19) rfl rfl Try.func22 (by kernel_rfl) rfl #[.slice A0 l0.length c0, .int .i64 a1, .int .i64 a2] rfl (by (try simp only [List.map_toArray, List.map_cons, List.map_nil]); first | done | rfl | (simp only [List.length_drop, List.length_take]; rfl)) ?_; (with_reducible refine (lcp_Common.calls k _ _ l0 a1 a2 t241 _ ?side1 ?side2 A10.out).mono ?_); (case side1 => repeat (first | exact (Kd.C_below HR0.out HB.out) | (with_reducible refine Kd.C_alloc ?_ _) | (with_reducible refine Kd.C_drewN ?_ _) | (with_reducible refine Kd.C_drew ?_))); (case side2 => exact HC0.out); rintro e w18 ⟨rfl, hb⟩; refine ⟨_, rfl, ?_⟩; have n0_ := Aside0.mk (below_step (by repeat (first | (with_reducible first | exact HB.out | apply below_alloc | apply pw_below_drewN | apply below_drew1) | exact HB.out)) hb); clear HB; have HB := n0_; clear n0_; (try clear hb); (try clear hb2); (try clear hk); (try clear hi)) | ((with_reducible refine gate_callee (f := 21) rfl ?_); refine goesL_ (some 23) rfl rfl Try.func21 (by kernel_rfl) rfl #[.slice A0 l0.length c0, .int .i64 a1, .int .i64 a2] rfl (by (try simp only [List.map_toArray, List.map_cons, List.map_nil]); first | done | rfl | (simp only [List.length_drop, List.length_take]; rfl)) ?_; (with_reducible refine (colophonref10_Common.calls k _ _ l0 a1 a2 t242 _ ?side1 ?side2 A11.out).mono ?_); (case side1 => repeat (first | exact (Kd.C_below HR0.out HB.out) | (with_reducible refine Kd.C_alloc ?_ _) | (with_reducible refine Kd.C_drewN ?_ _) | (with_reducible refine Kd.C_drew ?_))); (case side2 => exact HC0.out); rintro e w' ⟨rfl, ⟨nd, rfl⟩⟩; refine ⟨_, rfl, ?_⟩))
          go_meet
          case rel => exact ⟨_, (true), (by first | rfl | (simp; done) | (simp [*]; done)), H', ⟨by first | omega | exact Nat.le_refl _⟩, ⟨by repeat (first | (with_reducible first | exact HB.out | apply below_alloc | apply pw_below_drewN | apply below_drew1) | exact HB.out)⟩⟩
      case rest =>
        clear HC8
        try clear c1
        try clear c2
        try clear p2
        try clear c5
        try clear c6
        try clear c6b0
        try clear c6b1
        try clear c12
        try clear c12b0
        try clear c12b1
        try clear c14
        obtain ⟨kq, x35_7, rfl, HA, HJ7, HB⟩ := hcut
        cases kq with
        | zero => exact absurd HA.out (by simp [colophonlaw10_LcpCommon.j0])
        | succ kj7 =>
          have H := HA.out
          clear HA
          simp only [colophonlaw10_LcpCommon.j0] at H
          by_cases c19 : x35_7 = true
          · subst c19
            have H1 : (some false) = some r := by rw [if_pos rfl] at H; exact H
            clear H
            have H := H1
            clear H1
            obtain rfl := Option.some.inj H
            go_wp2
            go_ret
            exact ⟨by first | rfl | (simp [errW_none, errW_some] <;> rfl) | (simp [*, errW_none, errW_some] <;> rfl), by repeat (first | (with_reducible first | exact HB.out | apply below_alloc | apply pw_below_drewN | apply below_drew1) | exact HB.out)⟩
          · replace c19 := Bool.eq_false_iff.mpr c19
            subst c19
            have H1 : (if (mn a1 a2) ≥ 0 then (if (mx a1 a2) < (l0.length : Int) then (colophonlaw10_LcpCommon.j1 kj7 l0 a1 a2 (-1) (mn a1 a2) (mx a1 a2) (decide ((mn a1 a2) < (mx a1 a2)))) else (colophonlaw10_LcpCommon.j1 kj7 l0 a1 a2 (-1) (mn a1 a2) (mx a1 a2) false)) else (colophonlaw10_LcpCommon.j1 kj7 l0 a1 a2 (-1) (mn a1 a2) (mx a1 a2) false)) = some r := by rw [if_neg (show ¬ (false = true) by decide)] at H; exact H
            clear H
            have H := H1
            clear H1
            obtain ⟨ji20, hji20⟩ : ∃ j_ : Int, (mn a1 a2) = j_ := ⟨_, rfl⟩
            replace H : (if (ji20) ≥ 0 then (if (mx a1 a2) < (l0.length : Int) then (colophonlaw10_LcpCommon.j1 kj7 l0 a1 a2 (-1) ji20 (mx a1 a2) (decide ((ji20) < (mx a1 a2)))) else (colophonlaw10_LcpCommon.j1 kj7 l0 a1 a2 (-1) ji20 (mx a1 a2) false)) else (colophonlaw10_LcpCommon.j1 kj7 l0 a1 a2 (-1) ji20 (mx a1 a2) false)) = some r := by first | (rw [hji20] at H; exact H) | (simp only [hji20] at H ⊢; exact H)
            have hji20_ : (if a2 < a1 then a2 else a1) = ji20 := hji20
            obtain ⟨ji21, hji21⟩ : ∃ j_ : Int, (mx a1 a2) = j_ := ⟨_, rfl⟩
            replace H : (if (ji20) ≥ 0 then (if (ji21) < (l0.length : Int) then (colophonlaw10_LcpCommon.j1 kj7 l0 a1 a2 (-1) ji20 ji21 (decide ((ji20) < (ji21)))) else (colophonlaw10_LcpCommon.j1 kj7 l0 a1 a2 (-1) ji20 ji21 false)) else (colophonlaw10_LcpCommon.j1 kj7 l0 a1 a2 (-1) ji20 ji21 false)) = some r := by first | (rw [hji21] at H; exact H) | (simp only [hji21] at H ⊢; exact H)
            have hji21_ : (if a1 < a2 then a2 else a1) = ji21 := hji21
            have HC22 := Aside0.mk H
            clear H
            go_upto_region 9 with (fail)
            go_cut [54] (fun v54 wc => ∃ (kq : Nat) (x54_21 : Bool), v54 = .bool x54_21 ∧ Aside0 (colophonlaw10_LcpCommon.j1 kq l0 a1 a2 (-1) ji20 ji21 x54_21 = some r) ∧ Aside0 (kq ≤ kj7) ∧ Aside0 (Below w.heap.size w wc))
            case first =>
              have H := HC22.out
              clear HC22
              by_cases c23 : (ji20) ≥ 0
              · rw [if_pos c23] at H
                have c23b0 : decide (0 ≤ (ji20)) = true := decide_eq_true c23
                clear c23
                (first | rw [c23b0] | (simp only [i64_w, i32_w]; rw [c23b0]) | skip)
                by_cases c24 : (ji21) < (l0.length : Int)
                · rw [if_pos c24] at H
                  have c24b0 : decide ((ji21) < (l0.length : Int)) = true := decide_eq_true c24
                  clear c24
                  have H' := Aside0.mk H
                  clear H
                  go_wp2
                  go_meet
                  case rel => exact ⟨_, (decide ((ji20) < (ji21))), (by first | rfl | (simp; done) | (simp only [← hji20, ← hji21] <;> (first | rfl | simp)) | (simp [*]; done)), H', ⟨by have := HJ7.out; first | omega | exact Nat.le_refl _⟩, ⟨by repeat (first | (with_reducible first | exact HB.out | apply below_alloc | apply pw_below_drewN | apply below_drew1) | exact HB.out)⟩⟩
                · rw [if_neg c24] at H
                  have c24b0 : decide ((ji21) < (l0.length : Int)) = false := decide_eq_false c24
                  clear c24
                  have H' := Aside0.mk H
                  clear H
                  go_wp2
                  go_meet
                  case rel => exact ⟨_, (false), (by first | rfl | (simp; done) | (simp [*]; done)), H', ⟨by have := HJ7.out; first | omega | exact Nat.le_refl _⟩, ⟨by repeat (first | (with_reducible first | exact HB.out | apply below_alloc | apply pw_below_drewN | apply below_drew1) | exact HB.out)⟩⟩
              · rw [if_neg c23] at H
                have c23b0 : decide (0 ≤ (ji20)) = false := decide_eq_false c23
                clear c23
                (first | rw [c23b0] | (simp only [i64_w, i32_w]; rw [c23b0]) | skip)
                have H' := Aside0.mk H
                clear H
                go_wp2
                go_meet
                case rel => exact ⟨_, (false), (by first | rfl | (simp; done) | (simp [*]; done)), H', ⟨by have := HJ7.out; first | omega | exact Nat.le_refl _⟩, ⟨by repeat (first | (with_reducible first | exact HB.out | apply below_alloc | apply pw_below_drewN | apply below_drew1) | exact HB.out)⟩⟩
            case rest =>
              clear HC22
              try clear c1
              try clear c2
              try clear p2
              try clear c5
              try clear c6
              try clear c6b0
              try clear c6b1
              try clear c12
              try clear c12b0
              try clear c12b1
              try clear c14
              try clear c19
              try clear c21
              try clear c22
              try clear c23
              try clear c23b0
              try clear c24
              try clear c24b0
              try clear p2
              obtain ⟨kq, x54_21, rfl, HA, HJ21, HB⟩ := hcut
              cases kq with
              | zero => exact absurd HA.out (by simp [colophonlaw10_LcpCommon.j1])
              | succ kj21 =>
                have H := HA.out
                clear HA
                simp only [colophonlaw10_LcpCommon.j1] at H
                by_cases c25 : x54_21 = true
                · subst c25
                  have H1 : (if 0 ≤ ji21 then (if ji21 < (l0.length : Int) then (colophonlaw10_LcpCommon.l0 kj21 l0 a1 a2 (rd l0 ji21) ji21 (wrap64 (ji20 + 1))) else (none)) else (none)) = some r := by rw [if_pos rfl] at H; exact H
                  clear H
                  have H := H1
                  clear H1
                  by_cases c26 : 0 ≤ ji21
                  · rw [if_pos c26] at H
                    have c26b0 : decide (0 ≤ ji21) = true := decide_eq_true c26
                    clear c26
                    by_cases c27 : ji21 < (l0.length : Int)
                    · rw [if_pos c27] at H
                      have c27b0 : decide (ji21 < (l0.length : Int)) = true := decide_eq_true c27
                      clear c27
                      have H' := Aside0.mk H
                      clear H
                      have p245 : 0 ≤ (ji21 : Int) := of_decide_eq_true (by first | (with_reducible assumption) | assumption)
                      have q245 : ji21 < (l0.length : Int) := of_decide_eq_true (by first | (with_reducible assumption) | assumption)
                      obtain ⟨ad245, e245, hx245_0⟩ := Kd.at_int HR0.out ji21 p245 q245
                      cases e245
                      replace hx245_0 := (HB.out.cell (World.block_lt_of_cell? w _ hx245_0)).trans hx245_0
                      replace p245 := eq_true p245
                      replace q245 := eq_true q245
                      go_wp2
                      go_loopg [7, 10] kj21 (fun kq v7 v10 w' => ∃ (x7_3 : Int) (x10_3 : Int), v7 = .int .i64 x7_3 ∧ v10 = .int .i64 x10_3 ∧ Aside0 (colophonlaw10_LcpCommon.l0 kq l0 a1 a2 x7_3 ji21 x10_3 = some r) ∧ Aside0 (kq ≤ kj21) ∧ Aside0 (Below w.heap.size w w'))
                      case atStart => exact ⟨(rd l0 ji21), (wrap64 (ji20 + 1)), (by first | rfl | (simp; done) | (simp only [← hji21] <;> (first | rfl | simp)) | (simp [*]; done)), (by first | rfl | (simp; done) | (simp only [← hji20] <;> (first | rfl | simp)) | (simp [*]; done)), H', ⟨Nat.le_refl _⟩, ⟨by repeat (first | (with_reducible first | exact HB.out | apply below_alloc | apply pw_below_drewN | apply below_drew1) | exact HB.out)⟩⟩
                      case round =>
                        clear H'
                        try clear c1
                        try clear c2
                        try clear p2
                        try clear q2
                        try clear hx2
                        try clear c5
                        try clear c6
                        try clear c6b0
                        try clear c6b1
                        try clear p6
                        try clear c12
                        try clear c12b0
                        try clear c12b1
                        try clear c14
                        try clear c19
                        try clear c21
                        try clear c22
                        try clear c23
                        try clear c23b0
                        try clear c24
                        try clear c24b0
                        try clear p24
                        try clear q24
                        try clear hx24
                        try clear c25
                        try clear c26
                        try clear c26b0
                        try clear c27
                        try clear c27b0
                        try clear hx245_0
                        try clear p2
                        try clear p245
                        try clear q245
                        obtain ⟨x7_3, x10_3, rfl, rfl, HA, HK3, HB⟩ := hrel
                        cases gk with
                        | zero => exact absurd HA.out (by simp [colophonlaw10_LcpCommon.l0])
                        | succ k3 =>
                          have H := HA.out
                          clear HA
                          simp only [colophonlaw10_LcpCommon.l0] at H
                          by_cases c28 : x10_3 ≤ ji21
                          · rw [if_pos c28] at H
                            have c28b0 : decide (x10_3 ≤ ji21) = true := decide_eq_true c28
                            clear c28
                            by_cases c29 : 0 ≤ x10_3
                            · rw [if_pos c29] at H
                              have c29b0 : decide (0 ≤ x10_3) = true := decide_eq_true c29
                              clear c29
                              by_cases c30 : x10_3 < (l0.length : Int)
                              · rw [if_pos c30] at H
                                have c30b0 : decide (x10_3 < (l0.length : Int)) = true := decide_eq_true c30
                                clear c30
                                obtain ⟨ji31, hji31⟩ : ∃ j_ : Int, (mn x7_3 (rd l0 x10_3)) = j_ := ⟨_, rfl⟩
                                replace H : (colophonlaw10_LcpCommon.l0 k3 l0 a1 a2 ji31 ji21 (wrap64 (x10_3 + 1))) = some r := by first | (rw [hji31] at H; exact H) | (simp only [hji31] at H ⊢; exact H)
                                have hji31_ : (if (rd l0 x10_3) < x7_3 then (rd l0 x10_3) else x7_3) = ji31 := hji31
                                have H' := Aside0.mk H
                                clear H
                                have p246 : 0 ≤ (x10_3 : Int) := of_decide_eq_true (by first | (with_reducible assumption) | assumption)
                                have q246 : x10_3 < (l0.length : Int) := of_decide_eq_true (by first | (with_reducible assumption) | assumption)
                                obtain ⟨ad246, e246, hx246_0⟩ := Kd.at_int HR0.out x10_3 p246 q246
                                obtain rfl : ad245 = ad246 := (by injection e246)
                                replace hx246_0 := (HB.out.cell (World.block_lt_of_cell? w _ hx246_0)).trans hx246_0
                                replace p246 := eq_true p246
                                replace q246 := eq_true q246
                                go_wp2
                                go_roundg k3
                                case measure => have := HJ7.out; have := HJ21.out; have := HK3.out; omega
                                case rel => exact ⟨(ji31), (wrap64 (x10_3 + 1)), (by first | rfl | (simp; done) | (simp only [← hji31] <;> (first | rfl | simp)) | (simp [*]; done)), (by first | rfl | (simp; done) | (simp [*]; done)), H', ⟨by have := HJ7.out; have := HJ21.out; have := HK3.out; omega⟩, ⟨by repeat (first | (with_reducible first | exact HB.out | apply below_alloc | apply pw_below_drewN | apply below_drew1) | exact HB.out)⟩⟩
                              · rw [if_neg c30] at H
                                exact absurd H (by simp)
                            · rw [if_neg c29] at H
                              exact absurd H (by simp)
                          · rw [if_neg c28] at H
                            have c28b0 : decide (x10_3 ≤ ji21) = false := decide_eq_false c28
                            clear c28
                            replace H := Option.bind_eq_some_iff.mp H
                            obtain ⟨t247, A320, H⟩ := H
                            replace H : (some (t247 == x7_3)) = some r := H
                            have A32 := Aside0.mk A320
                            clear A320
                            obtain rfl := Option.some.inj H
                            go_wp2_with (first | ((with_reducible refine gate_callee (f := 20) rfl ?_); refine goesL_ (some 75) rfl rfl Try.func20 (by kernel_rfl) rfl #[.slice (some ad245) l0.length c0, .int .i64 a1, .int .i64 a2] rfl (by (try simp only [List.map_toArray, List.map_cons, List.map_nil]); first | done | rfl | (simp only [List.length_drop, List.length_take]; rfl)) ?_; (with_reducible refine (lcp_Range.calls _ _ l0 a1 a2 t247 _ ?side1 ?side2 A32.out).mono ?_); (case side1 => repeat (first | exact (Kd.C_below HR0.out HB.out) | (with_reducible refine Kd.C_alloc ?_ _) | (with_reducible refine Kd.C_drewN ?_ _) | (with_reducible refine Kd.C_drew ?_))); (case side2 => exact HC0.out); rintro e w33 ⟨rfl, hb⟩; refine ⟨_, rfl, ?_⟩; have n0_ := Aside0.mk (below_step (by repeat (first | (with_reducible first | exact HB.out | apply below_alloc | apply pw_below_drewN | apply below_drew1) | exact HB.out)) hb); clear HB; have HB := n0_; clear n0_; (try clear hb); (try clear hb2); (try clear hk); (try clear hi)))
                            go_ret
                            exact ⟨by first | rfl | (simp [errW_none, errW_some] <;> rfl) | (simp only [← hji20, ← hji21]; first | rfl | (simp [errW_none, errW_some] <;> rfl)) | (simp [*, errW_none, errW_some] <;> rfl), by repeat (first | (with_reducible first | exact HB.out | apply below_alloc | apply pw_below_drewN | apply below_drew1) | exact HB.out)⟩
                    · rw [if_neg c27] at H
                      exact absurd H (by simp)
                  · rw [if_neg c26] at H
                    exact absurd H (by simp)
                · replace c25 := Bool.eq_false_iff.mpr c25
                  subst c25
                  have H1 : ((lcp_Range.f l0 a1 a2).bind fun t248 => (some (t248 == (-1)))) = some r := by rw [if_neg (show ¬ (false = true) by decide)] at H; exact H
                  clear H
                  have H := H1
                  clear H1
                  replace H := Option.bind_eq_some_iff.mp H
                  obtain ⟨t248, A340, H⟩ := H
                  replace H : (some (t248 == (-1))) = some r := H
                  have A34 := Aside0.mk A340
                  clear A340
                  obtain rfl := Option.some.inj H
                  go_wp2_with (first | ((with_reducible refine gate_callee (f := 20) rfl ?_); refine goesL_ (some 75) rfl rfl Try.func20 (by kernel_rfl) rfl #[.slice A0 l0.length c0, .int .i64 a1, .int .i64 a2] rfl (by (try simp only [List.map_toArray, List.map_cons, List.map_nil]); first | done | rfl | (simp only [List.length_drop, List.length_take]; rfl)) ?_; (with_reducible refine (lcp_Range.calls _ _ l0 a1 a2 t248 _ ?side1 ?side2 A34.out).mono ?_); (case side1 => repeat (first | exact (Kd.C_below HR0.out HB.out) | (with_reducible refine Kd.C_alloc ?_ _) | (with_reducible refine Kd.C_drewN ?_ _) | (with_reducible refine Kd.C_drew ?_))); (case side2 => exact HC0.out); rintro e w35 ⟨rfl, hb⟩; refine ⟨_, rfl, ?_⟩; have n0_ := Aside0.mk (below_step (by repeat (first | (with_reducible first | exact HB.out | apply below_alloc | apply pw_below_drewN | apply below_drew1) | exact HB.out)) hb); clear HB; have HB := n0_; clear n0_; (try clear hb); (try clear hb2); (try clear hk); (try clear hi)))
                  go_ret
                  exact ⟨by first | rfl | (simp [errW_none, errW_some] <;> rfl) | (simp only [← hji20, ← hji21]; first | rfl | (simp [errW_none, errW_some] <;> rfl)) | (simp [*, errW_none, errW_some] <;> rfl), by repeat (first | (with_reducible first | exact HB.out | apply below_alloc | apply pw_below_drewN | apply below_drew1) | exact HB.out)⟩
  · replace c5 := Bool.eq_false_iff.mpr c5
    subst c5
    have H1 : (some false) = some r := by rw [if_neg (show ¬ (false = true) by decide)] at H; exact H
    clear H
    have H := H1
    clear H1
    obtain rfl := Option.some.inj H
    go_enter Try.func5, Try.ntmps5
    go_wp2_with (first | ((with_reducible refine gate_callee (f := 14) rfl ?_); refine goesL_ (some 11) rfl rfl Try.func14 (by kernel_rfl) rfl #[] rfl (by (try simp only [List.map_toArray, List.map_cons, List.map_nil]); first | done | rfl | (simp only [List.length_drop, List.length_take]; rfl)) ?_; (with_reducible refine (colophonlaw10_first.calls k  false _ A4.out).mono ?_); rintro e w36 ⟨rfl, hb⟩; refine ⟨_, rfl, ?_⟩; have n0_ := Aside0.mk (below_step (by repeat (first | (with_reducible first | exact HB.out | apply below_alloc | apply pw_below_drewN | apply below_drew1) | exact HB.out)) hb); clear HB; have HB := n0_; clear n0_; (try clear hb); (try clear hb2); (try clear hk); (try clear hi)))
    go_ret
    exact ⟨by first | rfl | (simp [errW_none, errW_some] <;> rfl) | (simp [*, errW_none, errW_some] <;> rfl), by repeat (first | (with_reducible first | exact HB.out | apply below_alloc | apply pw_below_drewN | apply below_drew1) | exact HB.out)⟩

/-- THE ONE PURE STATEMENT of colophonlaw10_LcpCommon: yours. -/
def colophonlaw10_LcpCommon.Pure : Prop := ∀ (l0 : List Int) (a1 : Int) (a2 : Int), l0.length ≤ maxLen → l0.length * 8 ≤ 140737488351232 → (∀ x ∈ l0, (Lit.int .i64 x).wf = true) → (Lit.int .i64 a1).wf = true → (Lit.int .i64 a2).wf = true → ∃ k, colophonlaw10_LcpCommon.f k l0 a1 a2 = some true
theorem colophonlaw10_LcpCommon.walk (P : colophonlaw10_LcpCommon.Pure) (a0 : Option Addr) (len0 cap0 : Nat) (z0 : List Int) (a1 : Int) (a2 : Int) (w : World) (w0 : (a0 = none ∧ len0 = 0 ∧ cap0 = 0 ∧ z0 = []) ∨ ∃ x, a0 = some x ∧ len0 ≤ cap0 ∧ cap0 ≤ maxLen ∧ z0.length = cap0 ∧ (∀ i, i < z0.length → w.cell? (x.add i) = some (.int .i64 (z0.getD i 0))) ∧ ∀ n ∈ z0, (Lit.int .i64 n).wf = true) (y0 : len0 * 8 ≤ 140737488351232) (w1 : (Lit.int .i64 a1).wf = true) (w2 : (Lit.int .i64 a2).wf = true) :
    Calls Try.prog 5 #[.slice a0 len0 cap0, .int .i64 a1, .int .i64 a2] w fun e w' => e = .returned (.bool true) ∧ Below w.heap.size w w' := by
  obtain ⟨l0, rfl, hr0, hm0, hw0, hc0⟩ := ReadsInt.ofRowC w0
  obtain ⟨k, h⟩ := P l0 a1 a2 hm0 y0 hw0 w1 w2
  refine (colophonlaw10_LcpCommon.calls k _ _ l0 a1 a2 true w (Kd.C_of_reads (d := (0 : Int)) (h1 := fun _ => rfl) hr0) hc0 h).mono ?_
  rintro e w' ⟨rfl, hd⟩
  exact ⟨rfl, hd⟩

end Go.Proofs.Yteagoinfepiilaa.Print
