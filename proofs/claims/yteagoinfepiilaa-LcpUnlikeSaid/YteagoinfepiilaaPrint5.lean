-- Laid by a program of this session's (wip/tools/mprint.py), out of the translation and of texts of ours. Not trusted: Lean checks it.
import Derived.Test.YteagoinfepiilaaPrint0
import Derived.Test.YteagoinfepiilaaPrint2
import Derived.Test.YteagoinfepiilaaPrint3
import Derived.Test.YteagoinfepiilaaPrint4
namespace Go.Proofs.Yteagoinfepiilaa.Print
open Go.RowKit Go.Proofs.YteagoinfepiilaaW.PrintWords Go.Proofs.YteagoinfepiilaaW.PrintLast Go.Proofs.YteagoinfepiilaaW.PrintMore
attribute [local go_sem] max2_int min2_int max_two min_two max_three min_three max_four min_four   -- for this text's walks alone
set_option linter.unusedVariables false
set_option linter.unusedSimpArgs false

/-! ### colophonlaw10_LcpArrays: function 3 -/
mutual
def colophonlaw10_LcpArrays.j0 : Nat → List Int → List Int → List Int → Int → Bool → Option (Bool)
  | 0, _, _, _, _, _ => none
  | k + 1, x0, x1, x7, x8, x40 => if x40 = true then (some false) else ((colophonref09_Turned.f k x1).bind fun bt200 => (if bt200.2 = true then (colophonlaw10_LcpArrays.j1 k x0 x1 x7 x8 ((x1.length : Int) != (x0.length : Int))) else (colophonlaw10_LcpArrays.j1 k x0 x1 x7 x8 true)))
def colophonlaw10_LcpArrays.j1 : Nat → List Int → List Int → List Int → Int → Bool → Option (Bool)
  | 0, _, _, _, _, _ => none
  | k + 1, x0, x1, x7, x8, x54 => if x54 = true then (if x8 = 2 then (some ((x7.length : Int) == 0)) else (some false)) else (if x8 = 0 then ((colophonref10_Array.f k x0 x1).bind fun t204 => ((colophonref08_Same.f k x7 t204).bind fun t207 => (some t207))) else (some false))
end
def colophonlaw10_LcpArrays.f (k : Nat) (l0 : List Int) (l1 : List Int) : Option (Bool) := (colophonlaw10_first.f k).bind fun t181 => (if t181 = true then (if (mx (l0.length : Int) (l1.length : Int)) > 400 then (some true) else ((some (([] : List Int) : List Int)).bind fun y182 => (if y182.length + l0.length < 17592186044416 then ((some (y182 ++ l0 : List Int)).bind fun y185 => ((some (([] : List Int) : List Int)).bind fun y188 => (if y188.length + l1.length < 17592186044416 then ((some (y188 ++ l1 : List Int)).bind fun y191 => ((lcp_Array.f k y185 y191).bind fun bt194 => ((colophonref08_Same.f k y185 l0).bind fun t198 => (if t198 = true then ((colophonref08_Same.f k y191 l1).bind fun t199 => (colophonlaw10_LcpArrays.j0 k l0 l1 bt194.1 bt194.2 (!t199))) else (colophonlaw10_LcpArrays.j0 k l0 l1 bt194.1 bt194.2 true))))) else (none)))) else (none)))) else (some false))
theorem colophonlaw10_LcpArrays.mono_l : ∀ k, (∀ y0 y1 y2 y3 y4, LeO (colophonlaw10_LcpArrays.j0 k y0 y1 y2 y3 y4) (colophonlaw10_LcpArrays.j0 (k + 1) y0 y1 y2 y3 y4)) ∧ (∀ y0 y1 y2 y3 y4, LeO (colophonlaw10_LcpArrays.j1 k y0 y1 y2 y3 y4) (colophonlaw10_LcpArrays.j1 (k + 1) y0 y1 y2 y3 y4))
  | 0 => ⟨fun _ _ _ _ _ r h => by simp [colophonlaw10_LcpArrays.j0] at h, fun _ _ _ _ _ r h => by simp [colophonlaw10_LcpArrays.j1] at h⟩
  | k + 1 => by
    obtain ⟨ih0, ih1⟩ := colophonlaw10_LcpArrays.mono_l k
    refine ⟨?_, ?_⟩
    · intro y0 y1 y2 y3 y4
      unfold colophonlaw10_LcpArrays.j0
      repeat' first
      | (with_reducible exact ih0 _ _ _ _ _)
      | (with_reducible exact ih1 _ _ _ _ _)
      | (with_reducible exact colophonlaw10_first.mono _)
      | (with_reducible exact colophonref08_Same.mono _ _ _)
      | (with_reducible exact colophonref09_Turned.mono _ _)
      | (with_reducible exact colophonref10_Array.mono _ _ _)
      | (with_reducible exact lcp_Array.mono _ _ _)
      | (with_reducible exact LeO.refl _)
      | (with_reducible exact LeO.none _)
      | (with_reducible refine LeO.ite ?_ ?_)
      | (with_reducible refine LeO.bind ?_ (fun _ => ?_))
      | exact ih0 _ _ _ _ _
      | exact ih1 _ _ _ _ _
      | exact colophonlaw10_first.mono _
      | exact colophonref08_Same.mono _ _ _
      | exact colophonref09_Turned.mono _ _
      | exact colophonref10_Array.mono _ _ _
      | exact lcp_Array.mono _ _ _
      | exact LeO.none _
      | refine LeO.ite ?_ ?_
      | refine LeO.bind ?_ (fun _ => ?_)
    · intro y0 y1 y2 y3 y4
      unfold colophonlaw10_LcpArrays.j1
      repeat' first
      | (with_reducible exact ih0 _ _ _ _ _)
      | (with_reducible exact ih1 _ _ _ _ _)
      | (with_reducible exact colophonlaw10_first.mono _)
      | (with_reducible exact colophonref08_Same.mono _ _ _)
      | (with_reducible exact colophonref09_Turned.mono _ _)
      | (with_reducible exact colophonref10_Array.mono _ _ _)
      | (with_reducible exact lcp_Array.mono _ _ _)
      | (with_reducible exact LeO.refl _)
      | (with_reducible exact LeO.none _)
      | (with_reducible refine LeO.ite ?_ ?_)
      | (with_reducible refine LeO.bind ?_ (fun _ => ?_))
      | exact ih0 _ _ _ _ _
      | exact ih1 _ _ _ _ _
      | exact colophonlaw10_first.mono _
      | exact colophonref08_Same.mono _ _ _
      | exact colophonref09_Turned.mono _ _
      | exact colophonref10_Array.mono _ _ _
      | exact lcp_Array.mono _ _ _
      | exact LeO.none _
      | refine LeO.ite ?_ ?_
      | refine LeO.bind ?_ (fun _ => ?_)
theorem colophonlaw10_LcpArrays.mono : ∀ a0 a1 k, LeO (colophonlaw10_LcpArrays.f k a0 a1) (colophonlaw10_LcpArrays.f (k + 1) a0 a1) := by
  intro a0 a1 k
  obtain ⟨ih0, ih1⟩ := colophonlaw10_LcpArrays.mono_l k
  unfold colophonlaw10_LcpArrays.f
  repeat' first
      | (with_reducible exact ih0 _ _ _ _ _)
      | (with_reducible exact ih1 _ _ _ _ _)
      | (with_reducible exact colophonlaw10_first.mono _)
      | (with_reducible exact colophonref08_Same.mono _ _ _)
      | (with_reducible exact colophonref09_Turned.mono _ _)
      | (with_reducible exact colophonref10_Array.mono _ _ _)
      | (with_reducible exact lcp_Array.mono _ _ _)
      | (with_reducible exact LeO.refl _)
      | (with_reducible exact LeO.none _)
      | (with_reducible refine LeO.ite ?_ ?_)
      | (with_reducible refine LeO.bind ?_ (fun _ => ?_))
      | exact ih0 _ _ _ _ _
      | exact ih1 _ _ _ _ _
      | exact colophonlaw10_first.mono _
      | exact colophonref08_Same.mono _ _ _
      | exact colophonref09_Turned.mono _ _
      | exact colophonref10_Array.mono _ _ _
      | exact lcp_Array.mono _ _ _
      | exact LeO.none _
      | refine LeO.ite ?_ ?_
      | refine LeO.bind ?_ (fun _ => ?_)
set_option maxHeartbeats 8000000 in
set_option maxRecDepth 100000 in
theorem colophonlaw10_LcpArrays.calls (k : Nat) (A0 : Option Addr) (c0 : Nat) (l0 : List Int) (A1 : Option Addr) (c1 : Nat) (l1 : List Int) (r : Bool) (w : World) (hr0 : Kd.C (Kd.int .i64) w A0 l0.length l0) (hc0 : l0.length ≤ c0) (hr1 : Kd.C (Kd.int .i64) w A1 l1.length l1) (hc1 : l1.length ≤ c1) (h : colophonlaw10_LcpArrays.f k l0 l1 = some r) :
    Calls Try.prog 3 #[.slice A0 l0.length c0, .slice A1 l1.length c1] w fun e w' => e = .returned (.bool r) ∧ Below w.heap.size w w' := by
  have HR0 := Aside0.mk hr0
  have HC0 := Aside0.mk hc0
  clear hr0 hc0
  have HR1 := Aside0.mk hr1
  have HC1 := Aside0.mk hc1
  clear hr1 hc1
  have HB := Aside0.mk (Below.refl w.heap.size w)
  have H : ((colophonlaw10_first.f k).bind fun t181 => (if t181 = true then (if (mx (l0.length : Int) (l1.length : Int)) > 400 then (some true) else ((some (([] : List Int) : List Int)).bind fun y182 => (if y182.length + l0.length < 17592186044416 then ((some (y182 ++ l0 : List Int)).bind fun y185 => ((some (([] : List Int) : List Int)).bind fun y188 => (if y188.length + l1.length < 17592186044416 then ((some (y188 ++ l1 : List Int)).bind fun y191 => ((lcp_Array.f k y185 y191).bind fun bt194 => ((colophonref08_Same.f k y185 l0).bind fun t198 => (if t198 = true then ((colophonref08_Same.f k y191 l1).bind fun t199 => (colophonlaw10_LcpArrays.j0 k l0 l1 bt194.1 bt194.2 (!t199))) else (colophonlaw10_LcpArrays.j0 k l0 l1 bt194.1 bt194.2 true))))) else (none)))) else (none)))) else (some false))) = some r := h
  clear h
  replace H := Option.bind_eq_some_iff.mp H
  obtain ⟨t181, A30, H⟩ := H
  replace H : (if t181 = true then (if (mx (l0.length : Int) (l1.length : Int)) > 400 then (some true) else ((some (([] : List Int) : List Int)).bind fun y182 => (if y182.length + l0.length < 17592186044416 then ((some (y182 ++ l0 : List Int)).bind fun y185 => ((some (([] : List Int) : List Int)).bind fun y188 => (if y188.length + l1.length < 17592186044416 then ((some (y188 ++ l1 : List Int)).bind fun y191 => ((lcp_Array.f k y185 y191).bind fun bt194 => ((colophonref08_Same.f k y185 l0).bind fun t198 => (if t198 = true then ((colophonref08_Same.f k y191 l1).bind fun t199 => (colophonlaw10_LcpArrays.j0 k l0 l1 bt194.1 bt194.2 (!t199))) else (colophonlaw10_LcpArrays.j0 k l0 l1 bt194.1 bt194.2 true))))) else (none)))) else (none)))) else (some false)) = some r := H
  have A3 := Aside0.mk A30
  clear A30
  by_cases c4 : t181 = true
  · subst c4
    have H1 : (if (mx (l0.length : Int) (l1.length : Int)) > 400 then (some true) else ((some (([] : List Int) : List Int)).bind fun y182 => (if y182.length + l0.length < 17592186044416 then ((some (y182 ++ l0 : List Int)).bind fun y185 => ((some (([] : List Int) : List Int)).bind fun y188 => (if y188.length + l1.length < 17592186044416 then ((some (y188 ++ l1 : List Int)).bind fun y191 => ((lcp_Array.f k y185 y191).bind fun bt194 => ((colophonref08_Same.f k y185 l0).bind fun t198 => (if t198 = true then ((colophonref08_Same.f k y191 l1).bind fun t199 => (colophonlaw10_LcpArrays.j0 k l0 l1 bt194.1 bt194.2 (!t199))) else (colophonlaw10_LcpArrays.j0 k l0 l1 bt194.1 bt194.2 true))))) else (none)))) else (none)))) = some r := by rw [if_pos rfl] at H; exact H
    clear H
    have H := H1
    clear H1
    obtain ⟨ji5, hji5⟩ : ∃ j_ : Int, (mx (l0.length : Int) (l1.length : Int)) = j_ := ⟨_, rfl⟩
    replace H : (if (ji5) > 400 then (some true) else ((some (([] : List Int) : List Int)).bind fun y182 => (if y182.length + l0.length < 17592186044416 then ((some (y182 ++ l0 : List Int)).bind fun y185 => ((some (([] : List Int) : List Int)).bind fun y188 => (if y188.length + l1.length < 17592186044416 then ((some (y188 ++ l1 : List Int)).bind fun y191 => ((lcp_Array.f k y185 y191).bind fun bt194 => ((colophonref08_Same.f k y185 l0).bind fun t198 => (if t198 = true then ((colophonref08_Same.f k y191 l1).bind fun t199 => (colophonlaw10_LcpArrays.j0 k l0 l1 bt194.1 bt194.2 (!t199))) else (colophonlaw10_LcpArrays.j0 k l0 l1 bt194.1 bt194.2 true))))) else (none)))) else (none)))) = some r := by first | (rw [hji5] at H; exact H) | (simp only [hji5] at H ⊢; exact H)
    (try rw [hji5] at A3)
    (try (have hji5l : 0 ≤ ji5 := by (rw [← hji5]; unfold mx; (repeat' split) <;> omega)))
    (try (have hji5m : 0 ≤ ji5 := by omega))
    have hji5_ : (if (l0.length : Int) < (l1.length : Int) then (l1.length : Int) else (l0.length : Int)) = ji5 := hji5
    (try (have hji5n := hji5_; simp only [Int.ofNat_lt] at hji5n))
    by_cases c6 : (ji5) > 400
    · rw [if_pos c6] at H
      have c6b0 : decide (400 < (ji5)) = true := decide_eq_true c6
      clear c6
      obtain rfl := Option.some.inj H
      go_enter Try.func3, Try.ntmps3
      go_wp2_with (first | ((with_reducible refine gate_callee (f := 14) rfl ?_); refine goesL_ (some 11) rfl rfl Try.func14 (by kernel_rfl) rfl #[] rfl (by (try simp only [List.map_toArray, List.map_cons, List.map_nil]); first | done | rfl | (simp only [List.length_drop, List.length_take]; rfl)) ?_; (with_reducible refine (colophonlaw10_first.calls k  true _ A3.out).mono ?_); rintro e w7 ⟨rfl, hb⟩; refine ⟨_, rfl, ?_⟩; have n0_ := Aside0.mk (below_step (by repeat (first | (with_reducible first | exact HB.out | apply below_alloc | apply pw_below_drewN | apply below_drew1) | exact HB.out)) hb); clear HB; have HB := n0_; clear n0_; (try clear hb); (try clear hb2); (try clear hk); (try clear hi)))
      go_ret
      exact ⟨by first | rfl | (simp [errW_none, errW_some] <;> rfl) | (simp only [← hji5]; first | rfl | (simp [errW_none, errW_some] <;> rfl)) | (simp [*, errW_none, errW_some] <;> rfl), by repeat (first | (with_reducible first | exact HB.out | apply below_alloc | apply pw_below_drewN | apply below_drew1) | exact HB.out)⟩
    · rw [if_neg c6] at H
      have c6b0 : decide (400 < (ji5)) = false := decide_eq_false c6
      clear c6
      obtain ⟨y182, hy182⟩ : ∃ y_ : List Int, y_ = (([] : List Int)) := ⟨_, rfl⟩
      replace H : (if y182.length + l0.length < 17592186044416 then ((some (y182 ++ l0 : List Int)).bind fun y185 => ((some (([] : List Int) : List Int)).bind fun y188 => (if y188.length + l1.length < 17592186044416 then ((some (y188 ++ l1 : List Int)).bind fun y191 => ((lcp_Array.f k y185 y191).bind fun bt194 => ((colophonref08_Same.f k y185 l0).bind fun t198 => (if t198 = true then ((colophonref08_Same.f k y191 l1).bind fun t199 => (colophonlaw10_LcpArrays.j0 k l0 l1 bt194.1 bt194.2 (!t199))) else (colophonlaw10_LcpArrays.j0 k l0 l1 bt194.1 bt194.2 true))))) else (none)))) else (none)) = some r := by first | (rw [hy182]; with_reducible exact H) | (have H2_ := (Option.bind_some _ _).symm.trans H; rw [hy182]; with_reducible exact H2_) | (have H2_ := (Option.bind_some _ _).symm.trans H; with_reducible exact H2_) | with_reducible exact H | (rw [hy182]; exact H) | exact H
      have Ny182 := Aside0.mk hy182
      clear hy182
      by_cases c8 : y182.length + l0.length < 17592186044416
      · rw [if_pos c8] at H
        have LMc8 := Aside0.mk c8
        clear c8
        obtain ⟨y185, hy185⟩ : ∃ y_ : List Int, y_ = (y182 ++ l0) := ⟨_, rfl⟩
        replace H : ((some (([] : List Int) : List Int)).bind fun y188 => (if y188.length + l1.length < 17592186044416 then ((some (y188 ++ l1 : List Int)).bind fun y191 => ((lcp_Array.f k y185 y191).bind fun bt194 => ((colophonref08_Same.f k y185 l0).bind fun t198 => (if t198 = true then ((colophonref08_Same.f k y191 l1).bind fun t199 => (colophonlaw10_LcpArrays.j0 k l0 l1 bt194.1 bt194.2 (!t199))) else (colophonlaw10_LcpArrays.j0 k l0 l1 bt194.1 bt194.2 true))))) else (none))) = some r := by first | (rw [hy185]; with_reducible exact H) | (have H2_ := (Option.bind_some _ _).symm.trans H; rw [hy185]; with_reducible exact H2_) | (have H2_ := (Option.bind_some _ _).symm.trans H; with_reducible exact H2_) | with_reducible exact H | (rw [hy185]; exact H) | exact H
        have Ny185 := Aside0.mk hy185
        clear hy185
        obtain ⟨y188, hy188⟩ : ∃ y_ : List Int, y_ = (([] : List Int)) := ⟨_, rfl⟩
        replace H : (if y188.length + l1.length < 17592186044416 then ((some (y188 ++ l1 : List Int)).bind fun y191 => ((lcp_Array.f k y185 y191).bind fun bt194 => ((colophonref08_Same.f k y185 l0).bind fun t198 => (if t198 = true then ((colophonref08_Same.f k y191 l1).bind fun t199 => (colophonlaw10_LcpArrays.j0 k l0 l1 bt194.1 bt194.2 (!t199))) else (colophonlaw10_LcpArrays.j0 k l0 l1 bt194.1 bt194.2 true))))) else (none)) = some r := by first | (rw [hy188]; with_reducible exact H) | (have H2_ := (Option.bind_some _ _).symm.trans H; rw [hy188]; with_reducible exact H2_) | (have H2_ := (Option.bind_some _ _).symm.trans H; with_reducible exact H2_) | with_reducible exact H | (rw [hy188]; exact H) | exact H
        have Ny188 := Aside0.mk hy188
        clear hy188
        by_cases c9 : y188.length + l1.length < 17592186044416
        · rw [if_pos c9] at H
          have LMc9 := Aside0.mk c9
          clear c9
          obtain ⟨y191, hy191⟩ : ∃ y_ : List Int, y_ = (y188 ++ l1) := ⟨_, rfl⟩
          replace H : ((lcp_Array.f k y185 y191).bind fun bt194 => ((colophonref08_Same.f k y185 l0).bind fun t198 => (if t198 = true then ((colophonref08_Same.f k y191 l1).bind fun t199 => (colophonlaw10_LcpArrays.j0 k l0 l1 bt194.1 bt194.2 (!t199))) else (colophonlaw10_LcpArrays.j0 k l0 l1 bt194.1 bt194.2 true)))) = some r := by first | (rw [hy191]; with_reducible exact H) | (have H2_ := (Option.bind_some _ _).symm.trans H; rw [hy191]; with_reducible exact H2_) | (have H2_ := (Option.bind_some _ _).symm.trans H; with_reducible exact H2_) | with_reducible exact H | (rw [hy191]; exact H) | exact H
          have Ny191 := Aside0.mk hy191
          clear hy191
          replace H := Option.bind_eq_some_iff.mp H
          obtain ⟨⟨t194, t195⟩, A100, H⟩ := H
          replace H : ((colophonref08_Same.f k y185 l0).bind fun t198 => (if t198 = true then ((colophonref08_Same.f k y191 l1).bind fun t199 => (colophonlaw10_LcpArrays.j0 k l0 l1 t194 t195 (!t199))) else (colophonlaw10_LcpArrays.j0 k l0 l1 t194 t195 true))) = some r := H
          have A10 := Aside0.mk A100
          clear A100
          have HC11 := Aside0.mk H
          clear H
          go_enter Try.func3, Try.ntmps3
          go_upto_region 7 with (first | ((with_reducible refine gate_callee (f := 14) rfl ?_); refine goesL_ (some 11) rfl rfl Try.func14 (by kernel_rfl) rfl #[] rfl (by (try simp only [List.map_toArray, List.map_cons, List.map_nil]); first | done | rfl | (simp only [List.length_drop, List.length_take]; rfl)) ?_; (with_reducible refine (colophonlaw10_first.calls k  true _ A3.out).mono ?_); rintro e w12 ⟨rfl, hb⟩; refine ⟨_, rfl, ?_⟩; have n0_ := Aside0.mk (below_step (by repeat (first | (with_reducible first | exact HB.out | apply below_alloc | apply pw_below_drewN | apply below_drew1) | exact HB.out)) hb); clear HB; have HB := n0_; clear n0_; (try clear hb); (try clear hb2); (try clear hk); (try clear hi)) | ((with_reducible refine gate_dst (N := 19) rfl ?_); (try (refine gate_guard (by rfl) ?_; dsimp only)); refine Kd.R_lit (Kd.int .i64) _ 3 ?hg (N := 19) ?hd (xs := ([] : List Int)) (inner := []) (ok := fun _ => True) (okp := fun _ => True) ?hr ?hp (fun _ hk => hk) trivial (Below.refl _ _) (Nat.le_refl _) (by simp) ?_; (case hd => rfl); (case hg => rfl); (case hr => first | (go_simp; done) | (go_simp; rfl)); (case hp => exact (Reps.none _ _)); intro v183 w13 ho14 hb hg_ hnew_; clear hg_ hnew_; (first | rw [← Ny182.out] at ho14 | (simp only [Int.reduceToNat] at ho14; rw [← Ny182.out] at ho14)); have n0_ := Aside0.mk (Kd.R_lower ho14 (below_size (by repeat (first | (with_reducible first | exact HB.out | apply below_alloc | apply pw_below_drewN | apply below_drew1) | exact HB.out)))); have n1_ := Aside0.mk (below_step (by repeat (first | (with_reducible first | exact HB.out | apply below_alloc | apply pw_below_drewN | apply below_drew1) | exact HB.out)) hb); clear HB; have HO184 := n0_; have HB := n1_; clear n0_ n1_; clear hb ho14) | ((with_reducible refine gate_builtin (b := .append) (xs := #[.tmp 19, .tmp 20]) rfl ?_); (try (refine gate_guard (by rfl) ?_; dsimp only)); at_builtin; refine Kd.R_append_rows (Kd.int .i64) (w0 := w) w.heap.size rfl (.tmp 19) (.tmp 20) 22 3 (.int .i64 0) 8 rfl Try.underlying22 info3 rfl (by decide) (by omega) v183 y182 l0 _ _ _ (fun _ => True) (fun _ => False) rfl rfl ?aO ?aR (fun _ _ h => h) (fun _ h => h.elim) ?aF ?aB ?aS ?aL ?_; (case aR => repeat (first | exact (Kd.C_below HR0.out HB.out) | (with_reducible refine Kd.C_alloc ?_ _) | (with_reducible refine Kd.C_drewN ?_ _) | (with_reducible refine Kd.C_drew ?_))); (case aB => exact (by repeat (first | (with_reducible first | exact HB.out | apply below_alloc | apply pw_below_drewN | apply below_drew1) | exact HB.out))); (case aF => exact (fun _ _ => trivial)); (case aO => exact (by (with_reducible repeat (first | apply Kd.R_alloc | apply Kd.R_drewN | apply Kd.R_drew)); exact HO184.out)); (case aS => exact (below_size (by repeat (first | (with_reducible first | exact HB.out | apply below_alloc | apply pw_below_drewN | apply below_drew1) | exact HB.out)))); (case aL => have := LMc8.out; omega); intro v186 w15 ho hb hg hat; rw [← Ny185.out] at ho; have n0_ := Aside0.mk (hb); have n1_ := Aside0.mk (ho); clear HB; clear HO184; have HB := n0_; have HO187 := n1_; clear n0_ n1_; clear ho hb hg hat) | ((with_reducible refine gate_dst (N := 22) rfl ?_); (try (refine gate_guard (by rfl) ?_; dsimp only)); refine Kd.R_lit (Kd.int .i64) _ 3 ?hg (N := 22) ?hd (xs := ([] : List Int)) (inner := []) (ok := fun _ => True) (okp := fun _ => True) ?hr ?hp (fun _ hk => hk) trivial (Below.refl _ _) (Nat.le_refl _) (by simp) ?_; (case hd => rfl); (case hg => rfl); (case hr => first | (go_simp; done) | (go_simp; rfl)); (case hp => exact (Reps.none _ _)); intro v189 w16 ho17 hb hg_ hnew_; clear hg_ hnew_; (first | rw [← Ny188.out] at ho17 | (simp only [Int.reduceToNat] at ho17; rw [← Ny188.out] at ho17)); have n0_ := Aside0.mk (Kd.R_elder' (by (with_reducible repeat (first | apply Kd.R_alloc | apply Kd.R_drewN | apply Kd.R_drew)); exact HO187.out) (Kd.R_base ho17) hb); have n1_ := Aside0.mk (Kd.R_lower (Kd.R_new' ho17 (Kd.R_lt (by (with_reducible repeat (first | apply Kd.R_alloc | apply Kd.R_drewN | apply Kd.R_drew)); exact HO187.out))) (below_size (by repeat (first | (with_reducible first | exact HB.out | apply below_alloc | apply pw_below_drewN | apply below_drew1) | exact HB.out)))); have n2_ := Aside0.mk (below_step (by repeat (first | (with_reducible first | exact HB.out | apply below_alloc | apply pw_below_drewN | apply below_drew1) | exact HB.out)) hb); clear HO187; clear HB; have HO187 := n0_; have HO190 := n1_; have HB := n2_; clear n0_ n1_ n2_; clear hb ho17) | ((with_reducible refine gate_builtin (b := .append) (xs := #[.tmp 22, .tmp 23]) rfl ?_); (try (refine gate_guard (by rfl) ?_; dsimp only)); at_builtin; refine Kd.R_append_rows (Kd.int .i64) (w0 := w) w.heap.size rfl (.tmp 22) (.tmp 23) 22 3 (.int .i64 0) 8 rfl Try.underlying22 info3 rfl (by decide) (by omega) v189 y188 l1 _ _ _ (fun k_ => some k_ ≠ (v186 : Value).ownBlock) (fun _ => False) rfl rfl ?aO ?aR (fun _ _ h => h) (fun _ h => h.elim) ?aF ?aB ?aS ?aL ?_; (case aR => repeat (first | exact (Kd.C_below HR1.out HB.out) | (with_reducible refine Kd.C_alloc ?_ _) | (with_reducible refine Kd.C_drewN ?_ _) | (with_reducible refine Kd.C_drew ?_))); (case aB => exact (by repeat (first | (with_reducible first | exact HB.out | apply below_alloc | apply pw_below_drewN | apply below_drew1) | exact HB.out))); (case aF => exact (fun k_ hk => Kd.fresh' (Kd.R_lt (by (with_reducible repeat (first | apply Kd.R_alloc | apply Kd.R_drewN | apply Kd.R_drew)); exact HO187.out)) k_ hk)); (case aO => exact (by (with_reducible repeat (first | apply Kd.R_alloc | apply Kd.R_drewN | apply Kd.R_drew)); exact Kd.R_mono HO190.out (fun _ hk => hk.2))); (case aS => exact (below_size (by repeat (first | (with_reducible first | exact HB.out | apply below_alloc | apply pw_below_drewN | apply below_drew1) | exact HB.out)))); (case aL => have := LMc9.out; omega); intro v192 w18 ho hb hg hat; rw [← Ny191.out] at ho; have n0_ := Aside0.mk (Kd.R_after (ok := (fun _ => True)) (by (with_reducible repeat (first | apply Kd.R_alloc | apply Kd.R_drewN | apply Kd.R_drew)); exact HO187.out) hg hat); have n1_ := Aside0.mk (hb); have n2_ := Aside0.mk (ho); clear HO187; clear HB; clear HO190; have HO187 := n0_; have HB := n1_; have HO193 := n2_; clear n0_ n1_ n2_; clear ho hb hg hat; obtain ⟨Ao19, co19, eo19⟩ := Kd.R_slice HO187.out; subst eo19; obtain ⟨Ao20, co20, eo20⟩ := Kd.R_slice HO193.out; subst eo20) | ((with_reducible refine gate_callee (f := 15) rfl ?_); refine goesL_ (some 28) rfl rfl Try.func15 (by kernel_rfl) rfl #[.slice Ao19 y185.length co19, .slice Ao20 y191.length co20] rfl (by (try simp only [List.map_toArray, List.map_cons, List.map_nil]); first | done | rfl | (simp only [List.length_drop, List.length_take]; rfl)) ?_; (with_reducible refine (lcp_Array.calls k _ _ y185 _ _ y191 t194 t195 _ ?side1 ?side2 ?side3 ?side4 A10.out).mono ?_); (case side1 => repeat (first | exact (Kd.R_reads' HO187.out).2.2 | (with_reducible refine Kd.C_alloc ?_ _) | (with_reducible refine Kd.C_drewN ?_ _) | (with_reducible refine Kd.C_drew ?_))); (case side2 => exact (Kd.R_reads' HO187.out).2.1); (case side3 => repeat (first | exact (Kd.R_reads' HO193.out).2.2 | (with_reducible refine Kd.C_alloc ?_ _) | (with_reducible refine Kd.C_drewN ?_ _) | (with_reducible refine Kd.C_drew ?_))); (case side4 => exact (Kd.R_reads' HO193.out).2.1); rintro e w21 ⟨v196, rfl, ho0, hb⟩; refine ⟨_, rfl, ?_⟩; have n0_ := Aside0.mk (Kd.R_elder' (by (with_reducible repeat (first | apply Kd.R_alloc | apply Kd.R_drewN | apply Kd.R_drew)); exact HO187.out) (Kd.R_base ho0) hb); have n1_ := Aside0.mk (Kd.R_elder' (by (with_reducible repeat (first | apply Kd.R_alloc | apply Kd.R_drewN | apply Kd.R_drew)); exact HO193.out) (Kd.R_base ho0) hb); have n2_ := Aside0.mk (Kd.R_lower (Kd.R_new' (Kd.R_new' ho0 (Kd.R_lt (by (with_reducible repeat (first | apply Kd.R_alloc | apply Kd.R_drewN | apply Kd.R_drew)); exact HO187.out))) (Kd.R_lt (by (with_reducible repeat (first | apply Kd.R_alloc | apply Kd.R_drewN | apply Kd.R_drew)); exact HO193.out))) (below_size (by repeat (first | (with_reducible first | exact HB.out | apply below_alloc | apply pw_below_drewN | apply below_drew1) | exact HB.out)))); have n3_ := Aside0.mk (below_step (by repeat (first | (with_reducible first | exact HB.out | apply below_alloc | apply pw_below_drewN | apply below_drew1) | exact HB.out)) hb); clear HO187; clear HO193; clear HB; have HO187 := n0_; have HO193 := n1_; have HO197 := n2_; have HB := n3_; clear n0_ n1_ n2_ n3_; (try clear hb); (try clear hb2); (try clear hk); (try clear hi); (try clear ho0)))
          (try simp only [Act.put, List.setIfInBounds_toArray, List.set_cons_zero, List.set_cons_succ])
          go_cut [40] (fun v40 wc => ∃ (kq : Nat) (x40_10 : Bool), v40 = .bool x40_10 ∧ Aside0 (colophonlaw10_LcpArrays.j0 kq l0 l1 t194 t195 x40_10 = some r) ∧ Aside0 (kq ≤ k) ∧ Aside0 (Kd.R (Kd.int .i64) 3 wc w.heap.size (fun _ => True) v196 t194) ∧ Aside0 (Below w.heap.size w wc))
          case first =>
            have H := HC11.out
            clear HC11
            replace H := Option.bind_eq_some_iff.mp H
            obtain ⟨t198, A220, H⟩ := H
            replace H : (if t198 = true then ((colophonref08_Same.f k y191 l1).bind fun t199 => (colophonlaw10_LcpArrays.j0 k l0 l1 t194 t195 (!t199))) else (colophonlaw10_LcpArrays.j0 k l0 l1 t194 t195 true)) = some r := H
            have A22 := Aside0.mk A220
            clear A220
            by_cases c23 : t198 = true
            · subst c23
              have H1 : ((colophonref08_Same.f k y191 l1).bind fun t199 => (colophonlaw10_LcpArrays.j0 k l0 l1 t194 t195 (!t199))) = some r := by rw [if_pos rfl] at H; exact H
              clear H
              have H := H1
              clear H1
              replace H := Option.bind_eq_some_iff.mp H
              obtain ⟨t199, A240, H⟩ := H
              replace H : (colophonlaw10_LcpArrays.j0 k l0 l1 t194 t195 (!t199)) = some r := H
              have A24 := Aside0.mk A240
              clear A240
              have H' := Aside0.mk H
              clear H
              go_wp2_with (first | ((with_reducible refine gate_callee (f := 16) rfl ?_); refine goesL_ (some 33) rfl rfl Try.func16 (by kernel_rfl) rfl #[.slice Ao19 y185.length co19, .slice A0 l0.length c0] rfl (by (try simp only [List.map_toArray, List.map_cons, List.map_nil]); first | done | rfl | (simp only [List.length_drop, List.length_take]; rfl)) ?_; (with_reducible refine (colophonref08_Same.calls k _ _ y185 _ _ l0 true _ ?side1 ?side2 ?side3 ?side4 A22.out).mono ?_); (case side1 => repeat (first | exact (Kd.R_reads' HO187.out).2.2 | (with_reducible refine Kd.C_alloc ?_ _) | (with_reducible refine Kd.C_drewN ?_ _) | (with_reducible refine Kd.C_drew ?_))); (case side2 => exact (Kd.R_reads' HO187.out).2.1); (case side3 => repeat (first | exact (Kd.C_below HR0.out HB.out) | (with_reducible refine Kd.C_alloc ?_ _) | (with_reducible refine Kd.C_drewN ?_ _) | (with_reducible refine Kd.C_drew ?_))); (case side4 => exact HC0.out); rintro e w' ⟨rfl, ⟨nd, rfl⟩⟩; refine ⟨_, rfl, ?_⟩) | (go_at_call 16; (with_reducible refine (colophonref08_Same.calls k _ _ y191 _ _ l1 t199 _ ?side1 ?side2 ?side3 ?side4 A24.out).mono ?_); (case side1 => repeat (first | exact (Kd.R_reads' HO193.out).2.2 | (with_reducible refine Kd.C_alloc ?_ _) | (with_reducible refine Kd.C_drewN ?_ _) | (with_reducible refine Kd.C_drew ?_))); (case side2 => exact (Kd.R_reads' HO193.out).2.1); (case side3 => repeat (first | exact (Kd.C_below HR1.out (by repeat (first | (with_reducible first | exact HB.out | apply below_alloc | apply pw_below_drewN | apply below_drew1) | exact HB.out))) | (with_reducible refine Kd.C_alloc ?_ _) | (with_reducible refine Kd.C_drewN ?_ _) | (with_reducible refine Kd.C_drew ?_))); (case side4 => exact HC1.out); rintro e w' ⟨rfl, ⟨nd, rfl⟩⟩))
              go_meet
              case rel => exact ⟨_, (!t199), (by first | rfl | (simp; done) | (simp [*]; done)), H', ⟨by first | omega | exact Nat.le_refl _⟩, ⟨by (with_reducible repeat (first | apply Kd.R_alloc | apply Kd.R_drewN | apply Kd.R_drew)); exact Kd.R_mono HO197.out (fun _ hk => trivial)⟩, ⟨by repeat (first | (with_reducible first | exact HB.out | apply below_alloc | apply pw_below_drewN | apply below_drew1) | exact HB.out)⟩⟩
            · replace c23 := Bool.eq_false_iff.mpr c23
              subst c23
              have H1 : (colophonlaw10_LcpArrays.j0 k l0 l1 t194 t195 true) = some r := by rw [if_neg (show ¬ (false = true) by decide)] at H; exact H
              clear H
              have H := H1
              clear H1
              have H' := Aside0.mk H
              clear H
              go_wp2_with (first | ((with_reducible refine gate_callee (f := 16) rfl ?_); refine goesL_ (some 33) rfl rfl Try.func16 (by kernel_rfl) rfl #[.slice Ao19 y185.length co19, .slice A0 l0.length c0] rfl (by (try simp only [List.map_toArray, List.map_cons, List.map_nil]); first | done | rfl | (simp only [List.length_drop, List.length_take]; rfl)) ?_; (with_reducible refine (colophonref08_Same.calls k _ _ y185 _ _ l0 false _ ?side1 ?side2 ?side3 ?side4 A22.out).mono ?_); (case side1 => repeat (first | exact (Kd.R_reads' HO187.out).2.2 | (with_reducible refine Kd.C_alloc ?_ _) | (with_reducible refine Kd.C_drewN ?_ _) | (with_reducible refine Kd.C_drew ?_))); (case side2 => exact (Kd.R_reads' HO187.out).2.1); (case side3 => repeat (first | exact (Kd.C_below HR0.out HB.out) | (with_reducible refine Kd.C_alloc ?_ _) | (with_reducible refine Kd.C_drewN ?_ _) | (with_reducible refine Kd.C_drew ?_))); (case side4 => exact HC0.out); rintro e w' ⟨rfl, ⟨nd, rfl⟩⟩; refine ⟨_, rfl, ?_⟩))
              go_meet
              case rel => exact ⟨_, (true), (by first | rfl | (simp; done) | (simp [*]; done)), H', ⟨by first | omega | exact Nat.le_refl _⟩, ⟨by (with_reducible repeat (first | apply Kd.R_alloc | apply Kd.R_drewN | apply Kd.R_drew)); exact Kd.R_mono HO197.out (fun _ hk => trivial)⟩, ⟨by repeat (first | (with_reducible first | exact HB.out | apply below_alloc | apply pw_below_drewN | apply below_drew1) | exact HB.out)⟩⟩
          case rest =>
            clear HC11
            try clear c1
            try clear c2
            try clear p2
            try clear c3
            try clear c4
            try clear c6
            try clear c6b0
            try clear c8
            try clear c9
            try clear c14
            try clear c15
            try clear c16
            try clear c23
            obtain ⟨kq, x40_10, rfl, HA, HJ10, HO_7, HB⟩ := hcut
            cases kq with
            | zero => exact absurd HA.out (by simp [colophonlaw10_LcpArrays.j0])
            | succ kj10 =>
              have H := HA.out
              clear HA
              simp only [colophonlaw10_LcpArrays.j0] at H
              by_cases c25 : x40_10 = true
              · subst c25
                have H1 : (some false) = some r := by rw [if_pos rfl] at H; exact H
                clear H
                have H := H1
                clear H1
                obtain rfl := Option.some.inj H
                go_wp2
                go_ret
                exact ⟨by first | rfl | (simp [errW_none, errW_some] <;> rfl) | (simp only [← hji5]; first | rfl | (simp [errW_none, errW_some] <;> rfl)) | (simp [*, errW_none, errW_some] <;> rfl), by repeat (first | (with_reducible first | exact HB.out | apply below_alloc | apply pw_below_drewN | apply below_drew1) | exact HB.out)⟩
              · replace c25 := Bool.eq_false_iff.mpr c25
                subst c25
                have H1 : ((colophonref09_Turned.f kj10 l1).bind fun bt200 => (if bt200.2 = true then (colophonlaw10_LcpArrays.j1 kj10 l0 l1 t194 t195 ((l1.length : Int) != (l0.length : Int))) else (colophonlaw10_LcpArrays.j1 kj10 l0 l1 t194 t195 true))) = some r := by rw [if_neg (show ¬ (false = true) by decide)] at H; exact H
                clear H
                have H := H1
                clear H1
                replace H := Option.bind_eq_some_iff.mp H
                obtain ⟨⟨t200, t201⟩, A260, H⟩ := H
                replace H : (if t201 = true then (colophonlaw10_LcpArrays.j1 kj10 l0 l1 t194 t195 ((l1.length : Int) != (l0.length : Int))) else (colophonlaw10_LcpArrays.j1 kj10 l0 l1 t194 t195 true)) = some r := H
                have A26 := Aside0.mk A260
                clear A260
                have HC27 := Aside0.mk H
                clear H
                go_upto_region 10 with (first | ((with_reducible refine gate_callee (f := 17) rfl ?_); refine goesL_ (some 43) rfl rfl Try.func17 (by kernel_rfl) rfl #[.slice A1 l1.length c1] rfl (by (try simp only [List.map_toArray, List.map_cons, List.map_nil]); first | done | rfl | (simp only [List.length_drop, List.length_take]; rfl)) ?_; (with_reducible refine (colophonref09_Turned.calls kj10 _ _ l1 t200 t201 _ ?side1 ?side2 A26.out).mono ?_); (case side1 => repeat (first | exact (Kd.C_below HR1.out HB.out) | (with_reducible refine Kd.C_alloc ?_ _) | (with_reducible refine Kd.C_drewN ?_ _) | (with_reducible refine Kd.C_drew ?_))); (case side2 => exact HC1.out); rintro e w28 ⟨v202, rfl, ho0, hb⟩; refine ⟨_, rfl, ?_⟩; have n0_ := Aside0.mk (Kd.R_elder' (by (with_reducible repeat (first | apply Kd.R_alloc | apply Kd.R_drewN | apply Kd.R_drew)); exact HO_7.out) (Kd.R_base ho0) hb); have n1_ := Aside0.mk (Kd.R_lower (Kd.R_new' ho0 (Kd.R_lt (by (with_reducible repeat (first | apply Kd.R_alloc | apply Kd.R_drewN | apply Kd.R_drew)); exact HO_7.out))) (below_size (by repeat (first | (with_reducible first | exact HB.out | apply below_alloc | apply pw_below_drewN | apply below_drew1) | exact HB.out)))); have n2_ := Aside0.mk (below_step (by repeat (first | (with_reducible first | exact HB.out | apply below_alloc | apply pw_below_drewN | apply below_drew1) | exact HB.out)) hb); clear HO_7; clear HB; have HO_7 := n0_; have HO203 := n1_; have HB := n2_; clear n0_ n1_ n2_; (try clear hb); (try clear hb2); (try clear hk); (try clear hi); (try clear ho0)))
                (try simp only [Act.put, List.setIfInBounds_toArray, List.set_cons_zero, List.set_cons_succ])
                go_cut [54] (fun v54 wc => ∃ (kq : Nat) (x54_26 : Bool), v54 = .bool x54_26 ∧ Aside0 (colophonlaw10_LcpArrays.j1 kq l0 l1 t194 t195 x54_26 = some r) ∧ Aside0 (kq ≤ kj10) ∧ Aside0 (Kd.R (Kd.int .i64) 3 wc w.heap.size (fun _ => True) v196 t194) ∧ Aside0 (Below w.heap.size w wc))
                case first =>
                  have H := HC27.out
                  clear HC27
                  by_cases c29 : t201 = true
                  · subst c29
                    have H1 : (colophonlaw10_LcpArrays.j1 kj10 l0 l1 t194 t195 ((l1.length : Int) != (l0.length : Int))) = some r := by rw [if_pos rfl] at H; exact H
                    clear H
                    have H := H1
                    clear H1
                    have H' := Aside0.mk H
                    clear H
                    go_wp2
                    go_meet
                    case rel => exact ⟨_, (((l1.length : Int) != (l0.length : Int))), (by first | rfl | (simp; done) | (simp [*]; done)), H', ⟨by have := HJ10.out; first | omega | exact Nat.le_refl _⟩, ⟨by (with_reducible repeat (first | apply Kd.R_alloc | apply Kd.R_drewN | apply Kd.R_drew)); exact Kd.R_mono HO_7.out (fun _ hk => trivial)⟩, ⟨by repeat (first | (with_reducible first | exact HB.out | apply below_alloc | apply pw_below_drewN | apply below_drew1) | exact HB.out)⟩⟩
                  · replace c29 := Bool.eq_false_iff.mpr c29
                    subst c29
                    have H1 : (colophonlaw10_LcpArrays.j1 kj10 l0 l1 t194 t195 true) = some r := by rw [if_neg (show ¬ (false = true) by decide)] at H; exact H
                    clear H
                    have H := H1
                    clear H1
                    have H' := Aside0.mk H
                    clear H
                    go_wp2
                    go_meet
                    case rel => exact ⟨_, (true), (by first | rfl | (simp; done) | (simp [*]; done)), H', ⟨by have := HJ10.out; first | omega | exact Nat.le_refl _⟩, ⟨by (with_reducible repeat (first | apply Kd.R_alloc | apply Kd.R_drewN | apply Kd.R_drew)); exact Kd.R_mono HO_7.out (fun _ hk => trivial)⟩, ⟨by repeat (first | (with_reducible first | exact HB.out | apply below_alloc | apply pw_below_drewN | apply below_drew1) | exact HB.out)⟩⟩
                case rest =>
                  clear HC27
                  try clear c1
                  try clear c2
                  try clear p2
                  try clear c3
                  try clear c4
                  try clear c6
                  try clear c6b0
                  try clear c8
                  try clear c9
                  try clear c14
                  try clear c15
                  try clear c16
                  try clear c17
                  try clear c23
                  try clear c25
                  try clear c29
                  try clear p2
                  obtain ⟨kq, x54_26, rfl, HA, HJ26, HO_7, HB⟩ := hcut
                  cases kq with
                  | zero => exact absurd HA.out (by simp [colophonlaw10_LcpArrays.j1])
                  | succ kj26 =>
                    have H := HA.out
                    clear HA
                    simp only [colophonlaw10_LcpArrays.j1] at H
                    by_cases c30 : x54_26 = true
                    · subst c30
                      have H1 : (if t195 = 2 then (some ((t194.length : Int) == 0)) else (some false)) = some r := by rw [if_pos rfl] at H; exact H
                      clear H
                      have H := H1
                      clear H1
                      by_cases c31 : t195 = 2
                      · rw [if_pos c31] at H
                        have c31b0 : (t195 == 2) = true := beq_iff_eq.mpr c31
                        have c31b1 : (t195 != 2) = false := bne_eq_false_iff_eq.mpr c31
                        clear c31
                        obtain rfl := Option.some.inj H
                        obtain ⟨Ao32, co32, eo32⟩ := Kd.R_slice HO_7.out
                        subst eo32
                        go_wp2
                        go_ret
                        exact ⟨by first | rfl | (simp [errW_none, errW_some] <;> rfl) | (simp only [← hji5]; first | rfl | (simp [errW_none, errW_some] <;> rfl)) | (simp [*, errW_none, errW_some] <;> rfl), by repeat (first | (with_reducible first | exact HB.out | apply below_alloc | apply pw_below_drewN | apply below_drew1) | exact HB.out)⟩
                      · rw [if_neg c31] at H
                        have c31b0 : (t195 == 2) = false := beq_eq_false_iff_ne.mpr c31
                        have c31b1 : (t195 != 2) = true := bne_iff_ne.mpr c31
                        obtain rfl := Option.some.inj H
                        go_wp2
                        go_ret
                        exact ⟨by first | rfl | (simp [errW_none, errW_some] <;> rfl) | (simp only [← hji5]; first | rfl | (simp [errW_none, errW_some] <;> rfl)) | (simp [*, errW_none, errW_some] <;> rfl), by repeat (first | (with_reducible first | exact HB.out | apply below_alloc | apply pw_below_drewN | apply below_drew1) | exact HB.out)⟩
                    · replace c30 := Bool.eq_false_iff.mpr c30
                      subst c30
                      have H1 : (if t195 = 0 then ((colophonref10_Array.f kj26 l0 l1).bind fun t204 => ((colophonref08_Same.f kj26 t194 t204).bind fun t207 => (some t207))) else (some false)) = some r := by rw [if_neg (show ¬ (false = true) by decide)] at H; exact H
                      clear H
                      have H := H1
                      clear H1
                      by_cases c33 : t195 = 0
                      · rw [if_pos c33] at H
                        have c33b0 : (t195 == 0) = true := beq_iff_eq.mpr c33
                        have c33b1 : (t195 != 0) = false := bne_eq_false_iff_eq.mpr c33
                        clear c33
                        replace H := Option.bind_eq_some_iff.mp H
                        obtain ⟨t204, A340, H⟩ := H
                        replace H : ((colophonref08_Same.f kj26 t194 t204).bind fun t207 => (some t207)) = some r := H
                        have A34 := Aside0.mk A340
                        clear A340
                        replace H := Option.bind_eq_some_iff.mp H
                        obtain ⟨t207, A350, H⟩ := H
                        replace H : (some t207) = some r := H
                        have A35 := Aside0.mk A350
                        clear A350
                        obtain rfl := Option.some.inj H
                        go_wp2_with (first | (go_at_call 18; (with_reducible refine (colophonref10_Array.calls kj26 _ _ l0 _ _ l1 t204 _ ?side1 ?side2 ?side3 ?side4 A34.out).mono ?_); (case side1 => repeat (first | exact (Kd.C_below HR0.out HB.out) | (with_reducible refine Kd.C_alloc ?_ _) | (with_reducible refine Kd.C_drewN ?_ _) | (with_reducible refine Kd.C_drew ?_))); (case side2 => exact HC0.out); (case side3 => repeat (first | exact (Kd.C_below HR1.out HB.out) | (with_reducible refine Kd.C_alloc ?_ _) | (with_reducible refine Kd.C_drewN ?_ _) | (with_reducible refine Kd.C_drew ?_))); (case side4 => exact HC1.out); rintro e w36 ⟨v205, rfl, ho0, hb⟩; have n0_ := Aside0.mk (Kd.R_elder' (by (with_reducible repeat (first | apply Kd.R_alloc | apply Kd.R_drewN | apply Kd.R_drew)); exact HO_7.out) (Kd.R_base ho0) hb); have n1_ := Aside0.mk (Kd.R_lower (Kd.R_new' ho0 (Kd.R_lt (by (with_reducible repeat (first | apply Kd.R_alloc | apply Kd.R_drewN | apply Kd.R_drew)); exact HO_7.out))) (below_size (by repeat (first | (with_reducible first | exact HB.out | apply below_alloc | apply pw_below_drewN | apply below_drew1) | exact HB.out)))); have n2_ := Aside0.mk (below_step (by repeat (first | (with_reducible first | exact HB.out | apply below_alloc | apply pw_below_drewN | apply below_drew1) | exact HB.out)) hb); clear HO_7; clear HB; have HO_7 := n0_; have HO206 := n1_; have HB := n2_; clear n0_ n1_ n2_; (try clear hb); (try clear hb2); (try clear hk); (try clear hi); (try clear ho0); obtain ⟨Ao37, co37, eo37⟩ := Kd.R_slice HO_7.out; subst eo37; obtain ⟨Ao38, co38, eo38⟩ := Kd.R_slice HO206.out; subst eo38) | (go_at_call 16; (with_reducible refine (colophonref08_Same.calls kj26 _ _ t194 _ _ t204 t207 _ ?side1 ?side2 ?side3 ?side4 A35.out).mono ?_); (case side1 => repeat (first | exact (Kd.R_reads' HO_7.out).2.2 | (with_reducible refine Kd.C_alloc ?_ _) | (with_reducible refine Kd.C_drewN ?_ _) | (with_reducible refine Kd.C_drew ?_))); (case side2 => exact (Kd.R_reads' HO_7.out).2.1); (case side3 => repeat (first | exact (Kd.R_reads' HO206.out).2.2 | (with_reducible refine Kd.C_alloc ?_ _) | (with_reducible refine Kd.C_drewN ?_ _) | (with_reducible refine Kd.C_drew ?_))); (case side4 => exact (Kd.R_reads' HO206.out).2.1); rintro e w' ⟨rfl, ⟨nd, rfl⟩⟩))
                        go_ret
                        exact ⟨by first | rfl | (simp [errW_none, errW_some] <;> rfl) | (simp only [← hji5]; first | rfl | (simp [errW_none, errW_some] <;> rfl)) | (simp [*, errW_none, errW_some] <;> rfl), by repeat (first | (with_reducible first | exact HB.out | apply below_alloc | apply pw_below_drewN | apply below_drew1) | exact HB.out)⟩
                      · rw [if_neg c33] at H
                        have c33b0 : (t195 == 0) = false := beq_eq_false_iff_ne.mpr c33
                        have c33b1 : (t195 != 0) = true := bne_iff_ne.mpr c33
                        obtain rfl := Option.some.inj H
                        go_wp2
                        go_ret
                        exact ⟨by first | rfl | (simp [errW_none, errW_some] <;> rfl) | (simp only [← hji5]; first | rfl | (simp [errW_none, errW_some] <;> rfl)) | (simp [*, errW_none, errW_some] <;> rfl), by repeat (first | (with_reducible first | exact HB.out | apply below_alloc | apply pw_below_drewN | apply below_drew1) | exact HB.out)⟩
        · rw [if_neg c9] at H
          exact absurd H (by simp)
      · rw [if_neg c8] at H
        exact absurd H (by simp)
  · replace c4 := Bool.eq_false_iff.mpr c4
    subst c4
    have H1 : (some false) = some r := by rw [if_neg (show ¬ (false = true) by decide)] at H; exact H
    clear H
    have H := H1
    clear H1
    obtain rfl := Option.some.inj H
    go_enter Try.func3, Try.ntmps3
    go_wp2_with (first | ((with_reducible refine gate_callee (f := 14) rfl ?_); refine goesL_ (some 11) rfl rfl Try.func14 (by kernel_rfl) rfl #[] rfl (by (try simp only [List.map_toArray, List.map_cons, List.map_nil]); first | done | rfl | (simp only [List.length_drop, List.length_take]; rfl)) ?_; (with_reducible refine (colophonlaw10_first.calls k  false _ A3.out).mono ?_); rintro e w39 ⟨rfl, hb⟩; refine ⟨_, rfl, ?_⟩; have n0_ := Aside0.mk (below_step (by repeat (first | (with_reducible first | exact HB.out | apply below_alloc | apply pw_below_drewN | apply below_drew1) | exact HB.out)) hb); clear HB; have HB := n0_; clear n0_; (try clear hb); (try clear hb2); (try clear hk); (try clear hi)))
    go_ret
    exact ⟨by first | rfl | (simp [errW_none, errW_some] <;> rfl) | (simp [*, errW_none, errW_some] <;> rfl), by repeat (first | (with_reducible first | exact HB.out | apply below_alloc | apply pw_below_drewN | apply below_drew1) | exact HB.out)⟩

/-- THE ONE PURE STATEMENT of colophonlaw10_LcpArrays. -/
def colophonlaw10_LcpArrays.Pure : Prop := ∀ (l0 : List Int) (l1 : List Int), l0.length ≤ maxLen → l0.length * 8 ≤ 140737488351232 → (∀ x ∈ l0, (Lit.int .i64 x).wf = true) → l1.length ≤ maxLen → l1.length * 8 ≤ 140737488351232 → (∀ x ∈ l1, (Lit.int .i64 x).wf = true) → ∃ k, colophonlaw10_LcpArrays.f k l0 l1 = some true
theorem colophonlaw10_LcpArrays.walk (P : colophonlaw10_LcpArrays.Pure) (a0 : Option Addr) (len0 cap0 : Nat) (z0 : List Int) (a1 : Option Addr) (len1 cap1 : Nat) (z1 : List Int) (w : World) (w0 : (a0 = none ∧ len0 = 0 ∧ cap0 = 0 ∧ z0 = []) ∨ ∃ x, a0 = some x ∧ len0 ≤ cap0 ∧ cap0 ≤ maxLen ∧ z0.length = cap0 ∧ (∀ i, i < z0.length → w.cell? (x.add i) = some (.int .i64 (z0.getD i 0))) ∧ ∀ n ∈ z0, (Lit.int .i64 n).wf = true) (y0 : len0 * 8 ≤ 140737488351232) (w1 : (a1 = none ∧ len1 = 0 ∧ cap1 = 0 ∧ z1 = []) ∨ ∃ x, a1 = some x ∧ len1 ≤ cap1 ∧ cap1 ≤ maxLen ∧ z1.length = cap1 ∧ (∀ i, i < z1.length → w.cell? (x.add i) = some (.int .i64 (z1.getD i 0))) ∧ ∀ n ∈ z1, (Lit.int .i64 n).wf = true) (y1 : len1 * 8 ≤ 140737488351232) :
    Calls Try.prog 3 #[.slice a0 len0 cap0, .slice a1 len1 cap1] w fun e w' => e = .returned (.bool true) ∧ Below w.heap.size w w' := by
  obtain ⟨l0, rfl, hr0, hm0, hw0, hc0⟩ := ReadsInt.ofRowC w0
  obtain ⟨l1, rfl, hr1, hm1, hw1, hc1⟩ := ReadsInt.ofRowC w1
  obtain ⟨k, h⟩ := P l0 l1 hm0 y0 hw0 hm1 y1 hw1
  refine (colophonlaw10_LcpArrays.calls k _ _ l0 _ _ l1 true w (Kd.C_of_reads (d := (0 : Int)) (h1 := fun _ => rfl) hr0) hc0 (Kd.C_of_reads (d := (0 : Int)) (h1 := fun _ => rfl) hr1) hc1 h).mono ?_
  rintro e w' ⟨rfl, hd⟩
  exact ⟨rfl, hd⟩

/-! ### colophonref09_Less: function 27 -/
mutual
def colophonref09_Less.l0 : Nat → List Int → Int → Int → Option (Bool)
  | 0, _, _, _ => none
  | k + 1, x0, x1, x2 => if x1 < (x0.length : Int) then (colophonref09_Less.j1 k x0 x1 x2 (decide (x2 < (x0.length : Int)))) else (colophonref09_Less.j1 k x0 x1 x2 false)
def colophonref09_Less.j1 : Nat → List Int → Int → Int → Bool → Option (Bool)
  | 0, _, _, _, _ => none
  | k + 1, x0, x1, x2, x16 => if x16 = true then (if 0 ≤ x1 then (if x1 < (x0.length : Int) then (if 0 ≤ x2 then (if x2 < (x0.length : Int) then (if (rd x0 x1) = (rd x0 x2) then (colophonref09_Less.l0 k x0 (wrap64 (x1 + 1)) (wrap64 (x2 + 1))) else (some (decide ((rd x0 x1) < (rd x0 x2))))) else (none)) else (none)) else (none)) else (none)) else (if x1 = (x0.length : Int) then (some (decide (x2 < (x0.length : Int)))) else (some false))
end
def colophonref09_Less.f (k : Nat) (l0 : List Int) (a1 : Int) (a2 : Int) : Option (Bool) := colophonref09_Less.l0 k l0 a1 a2
theorem colophonref09_Less.mono_l : ∀ k, (∀ y0 y1 y2, LeO (colophonref09_Less.l0 k y0 y1 y2) (colophonref09_Less.l0 (k + 1) y0 y1 y2)) ∧ (∀ y0 y1 y2 y3, LeO (colophonref09_Less.j1 k y0 y1 y2 y3) (colophonref09_Less.j1 (k + 1) y0 y1 y2 y3))
  | 0 => ⟨fun _ _ _ r h => by simp [colophonref09_Less.l0] at h, fun _ _ _ _ r h => by simp [colophonref09_Less.j1] at h⟩
  | k + 1 => by
    obtain ⟨ih0, ih1⟩ := colophonref09_Less.mono_l k
    refine ⟨?_, ?_⟩
    · intro y0 y1 y2
      unfold colophonref09_Less.l0
      repeat' first
      | (with_reducible exact ih0 _ _ _)
      | (with_reducible exact ih1 _ _ _ _)
      | (with_reducible exact LeO.refl _)
      | (with_reducible exact LeO.none _)
      | (with_reducible refine LeO.ite ?_ ?_)
      | (with_reducible refine LeO.bind ?_ (fun _ => ?_))
      | exact ih0 _ _ _
      | exact ih1 _ _ _ _
      | exact LeO.none _
      | refine LeO.ite ?_ ?_
      | refine LeO.bind ?_ (fun _ => ?_)
    · intro y0 y1 y2 y3
      unfold colophonref09_Less.j1
      repeat' first
      | (with_reducible exact ih0 _ _ _)
      | (with_reducible exact ih1 _ _ _ _)
      | (with_reducible exact LeO.refl _)
      | (with_reducible exact LeO.none _)
      | (with_reducible refine LeO.ite ?_ ?_)
      | (with_reducible refine LeO.bind ?_ (fun _ => ?_))
      | exact ih0 _ _ _
      | exact ih1 _ _ _ _
      | exact LeO.none _
      | refine LeO.ite ?_ ?_
      | refine LeO.bind ?_ (fun _ => ?_)
theorem colophonref09_Less.mono : ∀ a0 a1 a2 k, LeO (colophonref09_Less.f k a0 a1 a2) (colophonref09_Less.f (k + 1) a0 a1 a2) := by
  intro a0 a1 a2 k
  obtain ⟨ih0, ih1⟩ := colophonref09_Less.mono_l k
  unfold colophonref09_Less.f
  repeat' first
      | (with_reducible exact ih0 _ _ _)
      | (with_reducible exact ih1 _ _ _ _)
      | (with_reducible exact LeO.refl _)
      | (with_reducible exact LeO.none _)
      | (with_reducible refine LeO.ite ?_ ?_)
      | (with_reducible refine LeO.bind ?_ (fun _ => ?_))
      | exact ih0 _ _ _
      | exact ih1 _ _ _ _
      | exact LeO.none _
      | refine LeO.ite ?_ ?_
      | refine LeO.bind ?_ (fun _ => ?_)
set_option maxHeartbeats 8000000 in
set_option maxRecDepth 100000 in
theorem colophonref09_Less.calls (k : Nat) (A0 : Option Addr) (c0 : Nat) (l0 : List Int) (a1 : Int) (a2 : Int) (r : Bool) (w : World) (hr0 : Kd.C (Kd.int .i64) w A0 l0.length l0) (hc0 : l0.length ≤ c0) (h : colophonref09_Less.f k l0 a1 a2 = some r) :
    Calls Try.prog 27 #[.slice A0 l0.length c0, .int .i64 a1, .int .i64 a2] w fun e w' => e = .returned (.bool r) ∧ Drawn0 w w' := by
  have HR0 := Aside0.mk hr0
  have HC0 := Aside0.mk hc0
  clear hr0 hc0
  have H : (colophonref09_Less.l0 k l0 a1 a2) = some r := h
  clear h
  have H' := Aside0.mk H
  clear H
  go_enter Try.func27, Try.ntmps27
  go_wp2
  repeat (go_quiet (fail); try go_wp2)
  go_loopg [1, 2] k (fun kq v1 v2 w' => ∃ (x1_1 : Int) (x2_1 : Int), v1 = .int .i64 x1_1 ∧ v2 = .int .i64 x2_1 ∧ Aside0 (colophonref09_Less.l0 kq l0 x1_1 x2_1 = some r) ∧ Aside0 (kq ≤ k) ∧ Drawn0 w w')
  case atStart => exact ⟨(a1), (a2), (by first | rfl | (simp; done) | (simp [*]; done)), (by first | rfl | (simp; done) | (simp [*]; done)), H', ⟨Nat.le_refl _⟩, by repeat (first | exact Drawn0.refl _ | apply Drawn0.step)⟩
  case round =>
    clear H'
    try clear c2
    try clear p2
    obtain ⟨x1_1, x2_1, rfl, rfl, HA, HK1, ⟨m1, rfl⟩⟩ := hrel
    cases gk with
    | zero => exact absurd HA.out (by simp [colophonref09_Less.l0])
    | succ k1 =>
      have H := HA.out
      clear HA
      simp only [colophonref09_Less.l0] at H
      have HC4 := Aside0.mk H
      clear H
      go_upto_region 1 with (fail)
      repeat (go_quiet (fail); go_upto_region 1 with (fail))
      go_cut [16] (fun v16 wc => ∃ (kq : Nat) (x16_3 : Bool), v16 = .bool x16_3 ∧ Aside0 (colophonref09_Less.j1 kq l0 x1_1 x2_1 x16_3 = some r) ∧ Aside0 (kq ≤ k1) ∧ Drawn0 w wc)
      case first =>
        have H := HC4.out
        clear HC4
        by_cases c5 : x1_1 < (l0.length : Int)
        · rw [if_pos c5] at H
          have c5b0 : decide (x1_1 < (l0.length : Int)) = true := decide_eq_true c5
          clear c5
          (first | rw [c5b0] | (simp only [i64_w, i32_w]; rw [c5b0]) | skip)
          have H' := Aside0.mk H
          clear H
          go_wp2
          repeat (go_quiet (fail); try go_wp2)
          go_meet
          case rel => exact ⟨_, (decide (x2_1 < (l0.length : Int))), (by first | rfl | (simp; done) | (simp [*]; done)), H', ⟨by have := HK1.out; first | omega | exact Nat.le_refl _⟩, by repeat (first | exact Drawn0.refl _ | apply Drawn0.step)⟩
        · rw [if_neg c5] at H
          have c5b0 : decide (x1_1 < (l0.length : Int)) = false := decide_eq_false c5
          clear c5
          (first | rw [c5b0] | (simp only [i64_w, i32_w]; rw [c5b0]) | skip)
          have H' := Aside0.mk H
          clear H
          go_wp2
          repeat (go_quiet (fail); try go_wp2)
          go_meet
          case rel => exact ⟨_, (false), (by first | rfl | (simp; done) | (simp [*]; done)), H', ⟨by have := HK1.out; first | omega | exact Nat.le_refl _⟩, by repeat (first | exact Drawn0.refl _ | apply Drawn0.step)⟩
      case rest =>
        clear HC4
        try clear c2
        try clear p2
        try clear c5
        try clear c5b0
        try clear p2
        obtain ⟨kq, x16_3, rfl, HA, HJ3, ⟨mc3, rfl⟩⟩ := hcut
        cases kq with
        | zero => exact absurd HA.out (by simp [colophonref09_Less.j1])
        | succ kj3 =>
          have H := HA.out
          clear HA
          simp only [colophonref09_Less.j1] at H
          by_cases c6 : x16_3 = true
          · subst c6
            have H1 : (if 0 ≤ x1_1 then (if x1_1 < (l0.length : Int) then (if 0 ≤ x2_1 then (if x2_1 < (l0.length : Int) then (if (rd l0 x1_1) = (rd l0 x2_1) then (colophonref09_Less.l0 kj3 l0 (wrap64 (x1_1 + 1)) (wrap64 (x2_1 + 1))) else (some (decide ((rd l0 x1_1) < (rd l0 x2_1))))) else (none)) else (none)) else (none)) else (none)) = some r := by rw [if_pos rfl] at H; exact H
            clear H
            have H := H1
            clear H1
            by_cases c7 : 0 ≤ x1_1
            · rw [if_pos c7] at H
              have c7b0 : decide (0 ≤ x1_1) = true := decide_eq_true c7
              clear c7
              by_cases c8 : x1_1 < (l0.length : Int)
              · rw [if_pos c8] at H
                have c8b0 : decide (x1_1 < (l0.length : Int)) = true := decide_eq_true c8
                clear c8
                by_cases c9 : 0 ≤ x2_1
                · rw [if_pos c9] at H
                  have c9b0 : decide (0 ≤ x2_1) = true := decide_eq_true c9
                  clear c9
                  by_cases c10 : x2_1 < (l0.length : Int)
                  · rw [if_pos c10] at H
                    have c10b0 : decide (x2_1 < (l0.length : Int)) = true := decide_eq_true c10
                    clear c10
                    by_cases c11 : (rd l0 x1_1) = (rd l0 x2_1)
                    · rw [if_pos c11] at H
                      have c11b0 : ((rd l0 x1_1) == (rd l0 x2_1)) = true := beq_iff_eq.mpr c11
                      have c11b1 : ((rd l0 x1_1) != (rd l0 x2_1)) = false := bne_eq_false_iff_eq.mpr c11
                      clear c11
                      have H' := Aside0.mk H
                      clear H
                      have p208 : 0 ≤ (x1_1 : Int) := of_decide_eq_true (by first | (with_reducible assumption) | assumption)
                      have q208 : x1_1 < (l0.length : Int) := of_decide_eq_true (by first | (with_reducible assumption) | assumption)
                      obtain ⟨ad208, e208, hx208_0⟩ := Kd.at_int HR0.out x1_1 p208 q208
                      cases e208
                      replace p208 := eq_true p208
                      replace q208 := eq_true q208
                      have p209 : 0 ≤ (x2_1 : Int) := of_decide_eq_true (by first | (with_reducible assumption) | assumption)
                      have q209 : x2_1 < (l0.length : Int) := of_decide_eq_true (by first | (with_reducible assumption) | assumption)
                      obtain ⟨ad209, e209, hx209_0⟩ := Kd.at_int HR0.out x2_1 p209 q209
                      obtain rfl : ad208 = ad209 := (by injection e209)
                      replace p209 := eq_true p209
                      replace q209 := eq_true q209
                      go_wp2
                      repeat (go_quiet (fail); try go_wp2)
                      go_roundg kj3
                      case measure => have := HK1.out; have := HJ3.out; omega
                      case rel => exact ⟨(wrap64 (x1_1 + 1)), (wrap64 (x2_1 + 1)), (by first | rfl | (simp; done) | (simp [*]; done)), (by first | rfl | (simp; done) | (simp [*]; done)), H', ⟨by have := HK1.out; have := HJ3.out; omega⟩, by repeat (first | exact Drawn0.refl _ | apply Drawn0.step)⟩
                    · rw [if_neg c11] at H
                      have c11b0 : ((rd l0 x1_1) == (rd l0 x2_1)) = false := beq_eq_false_iff_ne.mpr c11
                      have c11b1 : ((rd l0 x1_1) != (rd l0 x2_1)) = true := bne_iff_ne.mpr c11
                      obtain rfl := Option.some.inj H
                      have p208 : 0 ≤ (x1_1 : Int) := of_decide_eq_true (by first | (with_reducible assumption) | assumption)
                      have q208 : x1_1 < (l0.length : Int) := of_decide_eq_true (by first | (with_reducible assumption) | assumption)
                      obtain ⟨ad208, e208, hx208_0⟩ := Kd.at_int HR0.out x1_1 p208 q208
                      cases e208
                      replace p208 := eq_true p208
                      replace q208 := eq_true q208
                      have p209 : 0 ≤ (x2_1 : Int) := of_decide_eq_true (by first | (with_reducible assumption) | assumption)
                      have q209 : x2_1 < (l0.length : Int) := of_decide_eq_true (by first | (with_reducible assumption) | assumption)
                      obtain ⟨ad209, e209, hx209_0⟩ := Kd.at_int HR0.out x2_1 p209 q209
                      obtain rfl : ad208 = ad209 := (by injection e209)
                      replace p209 := eq_true p209
                      replace q209 := eq_true q209
                      have p210 : 0 ≤ (x1_1 : Int) := of_decide_eq_true (by first | (with_reducible assumption) | assumption)
                      have q210 : x1_1 < (l0.length : Int) := of_decide_eq_true (by first | (with_reducible assumption) | assumption)
                      obtain ⟨ad210, e210, hx210_0⟩ := Kd.at_int HR0.out x1_1 p210 q210
                      obtain rfl : ad208 = ad210 := (by injection e210)
                      replace p210 := eq_true p210
                      replace q210 := eq_true q210
                      have p211 : 0 ≤ (x2_1 : Int) := of_decide_eq_true (by first | (with_reducible assumption) | assumption)
                      have q211 : x2_1 < (l0.length : Int) := of_decide_eq_true (by first | (with_reducible assumption) | assumption)
                      obtain ⟨ad211, e211, hx211_0⟩ := Kd.at_int HR0.out x2_1 p211 q211
                      obtain rfl : ad208 = ad211 := (by injection e211)
                      replace p211 := eq_true p211
                      replace q211 := eq_true q211
                      go_wp2
                      repeat (go_quiet (fail); try go_wp2)
                      go_ret
                      exact ⟨by first | rfl | (simp; done) | (simp [*]; done), by repeat (first | exact Drawn0.refl _ | apply Drawn0.step)⟩
                  · rw [if_neg c10] at H
                    exact absurd H (by simp)
                · rw [if_neg c9] at H
                  exact absurd H (by simp)
              · rw [if_neg c8] at H
                exact absurd H (by simp)
            · rw [if_neg c7] at H
              exact absurd H (by simp)
          · replace c6 := Bool.eq_false_iff.mpr c6
            subst c6
            have H1 : (if x1_1 = (l0.length : Int) then (some (decide (x2_1 < (l0.length : Int)))) else (some false)) = some r := by rw [if_neg (show ¬ (false = true) by decide)] at H; exact H
            clear H
            have H := H1
            clear H1
            by_cases c12 : x1_1 = (l0.length : Int)
            · rw [if_pos c12] at H
              have c12b0 : (x1_1 == (l0.length : Int)) = true := beq_iff_eq.mpr c12
              have c12b1 : (x1_1 != (l0.length : Int)) = false := bne_eq_false_iff_eq.mpr c12
              clear c12
              obtain rfl := Option.some.inj H
              go_wp2
              repeat (go_quiet (fail); try go_wp2)
              go_ret
              exact ⟨by first | rfl | (simp; done) | (simp [*]; done), by repeat (first | exact Drawn0.refl _ | apply Drawn0.step)⟩
            · rw [if_neg c12] at H
              have c12b0 : (x1_1 == (l0.length : Int)) = false := beq_eq_false_iff_ne.mpr c12
              have c12b1 : (x1_1 != (l0.length : Int)) = true := bne_iff_ne.mpr c12
              obtain rfl := Option.some.inj H
              go_wp2
              repeat (go_quiet (fail); try go_wp2)
              go_ret
              exact ⟨by first | rfl | (simp; done) | (simp [*]; done), by repeat (first | exact Drawn0.refl _ | apply Drawn0.step)⟩

end Go.Proofs.Yteagoinfepiilaa.Print
