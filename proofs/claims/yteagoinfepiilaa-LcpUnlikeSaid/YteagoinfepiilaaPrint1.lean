-- Laid by a program of this session's (wip/tools/mprint.py), out of the translation and of texts of ours. Not trusted: Lean checks it.
import Derived.Test.YteagoinfepiilaaPrint0
namespace Go.Proofs.Yteagoinfepiilaa.Print
open Go.RowKit Go.Proofs.YteagoinfepiilaaW.PrintWords Go.Proofs.YteagoinfepiilaaW.PrintLast Go.Proofs.YteagoinfepiilaaW.PrintMore
attribute [local go_sem] max2_int min2_int max_two min_two max_three min_three max_four min_four   -- for this text's walks alone
set_option linter.unusedVariables false
set_option linter.unusedSimpArgs false

/-! ### lcp_Common: function 22 -/
mutual
def lcp_Common.j0 : Nat → List Int → Int → Int → Bool → Option (Int)
  | 0, _, _, _, _ => none
  | k + 1, x0, x1, x2, x19 => if x19 = true then (some 0) else (lcp_Common.l0 k x0 x1 x2 0)
def lcp_Common.l0 : Nat → List Int → Int → Int → Int → Option (Int)
  | 0, _, _, _, _ => none
  | k + 1, x0, x1, x2, x7 => if (wrap64 ((mx x1 x2) + x7)) < (x0.length : Int) then (if 0 ≤ (wrap64 (x1 + x7)) then (if (wrap64 (x1 + x7)) < (x0.length : Int) then (if 0 ≤ (wrap64 (x2 + x7)) then (if (wrap64 (x2 + x7)) < (x0.length : Int) then (if (rd x0 (wrap64 (x1 + x7))) = (rd x0 (wrap64 (x2 + x7))) then (lcp_Common.l0 k x0 x1 x2 (wrap64 (x7 + 1))) else (some x7)) else (none)) else (none)) else (none)) else (none)) else (some x7)
end
def lcp_Common.f (k : Nat) (l0 : List Int) (a1 : Int) (a2 : Int) : Option (Int) := if (mn a1 a2) < 0 then (lcp_Common.j0 k l0 a1 a2 true) else (lcp_Common.j0 k l0 a1 a2 (decide ((mx a1 a2) ≥ (l0.length : Int))))
theorem lcp_Common.mono_l : ∀ k, (∀ y0 y1 y2 y3, LeO (lcp_Common.j0 k y0 y1 y2 y3) (lcp_Common.j0 (k + 1) y0 y1 y2 y3)) ∧ (∀ y0 y1 y2 y3, LeO (lcp_Common.l0 k y0 y1 y2 y3) (lcp_Common.l0 (k + 1) y0 y1 y2 y3))
  | 0 => ⟨fun _ _ _ _ r h => by simp [lcp_Common.j0] at h, fun _ _ _ _ r h => by simp [lcp_Common.l0] at h⟩
  | k + 1 => by
    obtain ⟨ih0, ih1⟩ := lcp_Common.mono_l k
    refine ⟨?_, ?_⟩
    · intro y0 y1 y2 y3
      unfold lcp_Common.j0
      repeat' first
      | (with_reducible exact ih0 _ _ _ _)
      | (with_reducible exact ih1 _ _ _ _)
      | (with_reducible exact LeO.refl _)
      | (with_reducible exact LeO.none _)
      | (with_reducible refine LeO.ite ?_ ?_)
      | (with_reducible refine LeO.bind ?_ (fun _ => ?_))
      | exact ih0 _ _ _ _
      | exact ih1 _ _ _ _
      | exact LeO.none _
      | refine LeO.ite ?_ ?_
      | refine LeO.bind ?_ (fun _ => ?_)
    · intro y0 y1 y2 y3
      unfold lcp_Common.l0
      repeat' first
      | (with_reducible exact ih0 _ _ _ _)
      | (with_reducible exact ih1 _ _ _ _)
      | (with_reducible exact LeO.refl _)
      | (with_reducible exact LeO.none _)
      | (with_reducible refine LeO.ite ?_ ?_)
      | (with_reducible refine LeO.bind ?_ (fun _ => ?_))
      | exact ih0 _ _ _ _
      | exact ih1 _ _ _ _
      | exact LeO.none _
      | refine LeO.ite ?_ ?_
      | refine LeO.bind ?_ (fun _ => ?_)
theorem lcp_Common.mono : ∀ a0 a1 a2 k, LeO (lcp_Common.f k a0 a1 a2) (lcp_Common.f (k + 1) a0 a1 a2) := by
  intro a0 a1 a2 k
  obtain ⟨ih0, ih1⟩ := lcp_Common.mono_l k
  unfold lcp_Common.f
  repeat' first
      | (with_reducible exact ih0 _ _ _ _)
      | (with_reducible exact ih1 _ _ _ _)
      | (with_reducible exact LeO.refl _)
      | (with_reducible exact LeO.none _)
      | (with_reducible refine LeO.ite ?_ ?_)
      | (with_reducible refine LeO.bind ?_ (fun _ => ?_))
      | exact ih0 _ _ _ _
      | exact ih1 _ _ _ _
      | exact LeO.none _
      | refine LeO.ite ?_ ?_
      | refine LeO.bind ?_ (fun _ => ?_)
set_option maxHeartbeats 8000000 in
set_option maxRecDepth 100000 in
theorem lcp_Common.calls (k : Nat) (A0 : Option Addr) (c0 : Nat) (l0 : List Int) (a1 : Int) (a2 : Int) (r : Int) (w : World) (hr0 : Kd.C (Kd.int .i64) w A0 l0.length l0) (hc0 : l0.length ≤ c0) (h : lcp_Common.f k l0 a1 a2 = some r) :
    Calls Try.prog 22 #[.slice A0 l0.length c0, .int .i64 a1, .int .i64 a2] w fun e w' => e = .returned (.int .i64 r) ∧ Below w.heap.size w w' := by
  have HR0 := Aside0.mk hr0
  have HC0 := Aside0.mk hc0
  clear hr0 hc0
  have HB := Aside0.mk (Below.refl w.heap.size w)
  have H : (if (mn a1 a2) < 0 then (lcp_Common.j0 k l0 a1 a2 true) else (lcp_Common.j0 k l0 a1 a2 (decide ((mx a1 a2) ≥ (l0.length : Int))))) = some r := h
  clear h
  have HC4 := Aside0.mk H
  clear H
  go_enter Try.func22, Try.ntmps22
  go_upto_region 1 with (fail)
  repeat (go_quiet (fail); go_upto_region 1 with (fail))
  go_cut [19] (fun v19 wc => ∃ (kq : Nat) (x19_3 : Bool), v19 = .bool x19_3 ∧ Aside0 (lcp_Common.j0 kq l0 a1 a2 x19_3 = some r) ∧ Aside0 (kq ≤ k) ∧ Aside0 (Below w.heap.size w wc))
  case first =>
    have H := HC4.out
    clear HC4
    obtain ⟨ji5, hji5⟩ : ∃ j_ : Int, (mn a1 a2) = j_ := ⟨_, rfl⟩
    replace H : (if (ji5) < 0 then (lcp_Common.j0 k l0 a1 a2 true) else (lcp_Common.j0 k l0 a1 a2 (decide ((mx a1 a2) ≥ (l0.length : Int))))) = some r := by first | (rw [hji5] at H; exact H) | (simp only [hji5] at H ⊢; exact H)
    have hji5_ : (if a2 < a1 then a2 else a1) = ji5 := hji5
    by_cases c6 : (ji5) < 0
    · rw [if_pos c6] at H
      have c6b0 : decide ((ji5) < 0) = true := decide_eq_true c6
      clear c6
      (first | rw [c6b0] | (simp only [i64_w, i32_w]; rw [c6b0]) | skip)
      have H' := Aside0.mk H
      clear H
      go_wp2
      repeat (go_quiet (fail); try go_wp2)
      go_meet
      case rel => exact ⟨_, (true), (by first | rfl | (simp; done) | (simp [*]; done)), H', ⟨by first | omega | exact Nat.le_refl _⟩, ⟨by repeat (first | (with_reducible first | exact HB.out | apply below_alloc | apply pw_below_drewN | apply below_drew1) | exact HB.out)⟩⟩
    · rw [if_neg c6] at H
      have c6b0 : decide ((ji5) < 0) = false := decide_eq_false c6
      clear c6
      (first | rw [c6b0] | (simp only [i64_w, i32_w]; rw [c6b0]) | skip)
      obtain ⟨ji7, hji7⟩ : ∃ j_ : Int, (mx a1 a2) = j_ := ⟨_, rfl⟩
      replace H : (lcp_Common.j0 k l0 a1 a2 (decide ((ji7) ≥ (l0.length : Int)))) = some r := by first | (rw [hji7] at H; exact H) | (simp only [hji7] at H ⊢; exact H)
      have hji7_ : (if a1 < a2 then a2 else a1) = ji7 := hji7
      have H' := Aside0.mk H
      clear H
      go_wp2
      repeat (go_quiet (fail); try go_wp2)
      go_meet
      case rel => exact ⟨_, (decide ((ji7) ≥ (l0.length : Int))), (by first | rfl | (simp; done) | (simp only [← hji7] <;> (first | rfl | simp)) | (simp [*]; done)), H', ⟨by first | omega | exact Nat.le_refl _⟩, ⟨by repeat (first | (with_reducible first | exact HB.out | apply below_alloc | apply pw_below_drewN | apply below_drew1) | exact HB.out)⟩⟩
  case rest =>
    clear HC4
    try clear c2
    try clear p2
    try clear c6
    try clear c6b0
    obtain ⟨kq, x19_3, rfl, HA, HJ3, HB⟩ := hcut
    cases kq with
    | zero => exact absurd HA.out (by simp [lcp_Common.j0])
    | succ kj3 =>
      have H := HA.out
      clear HA
      simp only [lcp_Common.j0] at H
      by_cases c8 : x19_3 = true
      · subst c8
        have H1 : (some 0) = some r := by rw [if_pos rfl] at H; exact H
        clear H
        have H := H1
        clear H1
        obtain rfl := Option.some.inj H
        go_wp2
        repeat (go_quiet (fail); try go_wp2)
        go_ret
        exact ⟨by first | rfl | (simp [errW_none, errW_some] <;> rfl) | (simp [*, errW_none, errW_some] <;> rfl), by repeat (first | (with_reducible first | exact HB.out | apply below_alloc | apply pw_below_drewN | apply below_drew1) | exact HB.out)⟩
      · replace c8 := Bool.eq_false_iff.mpr c8
        subst c8
        have H1 : (lcp_Common.l0 kj3 l0 a1 a2 0) = some r := by rw [if_neg (show ¬ (false = true) by decide)] at H; exact H
        clear H
        have H := H1
        clear H1
        have H' := Aside0.mk H
        clear H
        go_wp2
        repeat (go_quiet (fail); try go_wp2)
        go_loopg [7] kj3 (fun kq v7 w' => ∃ (x7_2 : Int), v7 = .int .i64 x7_2 ∧ Aside0 (lcp_Common.l0 kq l0 a1 a2 x7_2 = some r) ∧ Aside0 (kq ≤ kj3) ∧ Aside0 (Below w.heap.size w w'))
        case atStart => exact ⟨(0), (by first | rfl | (simp; done) | (simp [*]; done)), H', ⟨Nat.le_refl _⟩, ⟨by repeat (first | (with_reducible first | exact HB.out | apply below_alloc | apply pw_below_drewN | apply below_drew1) | exact HB.out)⟩⟩
        case round =>
          clear H'
          try clear c2
          try clear p2
          try clear c6
          try clear c6b0
          try clear c8
          try clear p2
          obtain ⟨x7_2, rfl, HA, HK2, HB⟩ := hrel
          cases gk with
          | zero => exact absurd HA.out (by simp [lcp_Common.l0])
          | succ k2 =>
            have H := HA.out
            clear HA
            simp only [lcp_Common.l0] at H
            obtain ⟨ji9, hji9⟩ : ∃ j_ : Int, (mx a1 a2) = j_ := ⟨_, rfl⟩
            replace H : (if (wrap64 ((ji9) + x7_2)) < (l0.length : Int) then (if 0 ≤ (wrap64 (a1 + x7_2)) then (if (wrap64 (a1 + x7_2)) < (l0.length : Int) then (if 0 ≤ (wrap64 (a2 + x7_2)) then (if (wrap64 (a2 + x7_2)) < (l0.length : Int) then (if (rd l0 (wrap64 (a1 + x7_2))) = (rd l0 (wrap64 (a2 + x7_2))) then (lcp_Common.l0 k2 l0 a1 a2 (wrap64 (x7_2 + 1))) else (some x7_2)) else (none)) else (none)) else (none)) else (none)) else (some x7_2)) = some r := by first | (rw [hji9] at H; exact H) | (simp only [hji9] at H ⊢; exact H)
            have hji9_ : (if a1 < a2 then a2 else a1) = ji9 := hji9
            by_cases c10 : (wrap64 ((ji9) + x7_2)) < (l0.length : Int)
            · rw [if_pos c10] at H
              have c10b0 : decide ((wrap64 ((ji9) + x7_2)) < (l0.length : Int)) = true := decide_eq_true c10
              clear c10
              obtain ⟨ji11, hji11⟩ : ∃ j_ : Int, (wrap64 (a1 + x7_2)) = j_ := ⟨_, rfl⟩
              replace H : (if 0 ≤ (ji11) then (if (ji11) < (l0.length : Int) then (if 0 ≤ (wrap64 (a2 + x7_2)) then (if (wrap64 (a2 + x7_2)) < (l0.length : Int) then (if (rd l0 (ji11)) = (rd l0 (wrap64 (a2 + x7_2))) then (lcp_Common.l0 k2 l0 a1 a2 (wrap64 (x7_2 + 1))) else (some x7_2)) else (none)) else (none)) else (none)) else (none)) = some r := by first | (rw [hji11] at H; exact H) | (simp only [hji11] at H ⊢; exact H)
              have hji11w : (IntKind.i64.wrap (a1 + x7_2)) = ji11 := (i64_w _).trans hji11
              by_cases c12 : 0 ≤ (ji11)
              · rw [if_pos c12] at H
                have c12b0 : decide (0 ≤ (ji11)) = true := decide_eq_true c12
                clear c12
                by_cases c13 : (ji11) < (l0.length : Int)
                · rw [if_pos c13] at H
                  have c13b0 : decide ((ji11) < (l0.length : Int)) = true := decide_eq_true c13
                  clear c13
                  obtain ⟨ji14, hji14⟩ : ∃ j_ : Int, (wrap64 (a2 + x7_2)) = j_ := ⟨_, rfl⟩
                  replace H : (if 0 ≤ (ji14) then (if (ji14) < (l0.length : Int) then (if (rd l0 (ji11)) = (rd l0 (ji14)) then (lcp_Common.l0 k2 l0 a1 a2 (wrap64 (x7_2 + 1))) else (some x7_2)) else (none)) else (none)) = some r := by first | (rw [hji14] at H; exact H) | (simp only [hji14] at H ⊢; exact H)
                  have hji14w : (IntKind.i64.wrap (a2 + x7_2)) = ji14 := (i64_w _).trans hji14
                  by_cases c15 : 0 ≤ (ji14)
                  · rw [if_pos c15] at H
                    have c15b0 : decide (0 ≤ (ji14)) = true := decide_eq_true c15
                    clear c15
                    by_cases c16 : (ji14) < (l0.length : Int)
                    · rw [if_pos c16] at H
                      have c16b0 : decide ((ji14) < (l0.length : Int)) = true := decide_eq_true c16
                      clear c16
                      by_cases c17 : (rd l0 (ji11)) = (rd l0 (ji14))
                      · rw [if_pos c17] at H
                        have c17b0 : ((rd l0 (ji11)) == (rd l0 (ji14))) = true := beq_iff_eq.mpr c17
                        have c17b1 : ((rd l0 (ji11)) != (rd l0 (ji14))) = false := bne_eq_false_iff_eq.mpr c17
                        clear c17
                        have H' := Aside0.mk H
                        clear H
                        have p101 : 0 ≤ ((ji11) : Int) := of_decide_eq_true (by first | (with_reducible assumption) | assumption)
                        have q101 : (ji11) < (l0.length : Int) := of_decide_eq_true (by first | (with_reducible assumption) | assumption)
                        obtain ⟨ad101, e101, hx101_0⟩ := Kd.at_int HR0.out (ji11) p101 q101
                        cases e101
                        replace hx101_0 := (HB.out.cell (World.block_lt_of_cell? w _ hx101_0)).trans hx101_0
                        replace p101 := eq_true p101
                        replace q101 := eq_true q101
                        have p102 : 0 ≤ ((ji14) : Int) := of_decide_eq_true (by first | (with_reducible assumption) | assumption)
                        have q102 : (ji14) < (l0.length : Int) := of_decide_eq_true (by first | (with_reducible assumption) | assumption)
                        obtain ⟨ad102, e102, hx102_0⟩ := Kd.at_int HR0.out (ji14) p102 q102
                        obtain rfl : ad101 = ad102 := (by injection e102)
                        replace hx102_0 := (HB.out.cell (World.block_lt_of_cell? w _ hx102_0)).trans hx102_0
                        replace p102 := eq_true p102
                        replace q102 := eq_true q102
                        go_wp2
                        repeat (go_quiet (fail); try go_wp2)
                        go_roundg k2
                        case measure => have := HJ3.out; have := HK2.out; omega
                        case rel => exact ⟨(wrap64 (x7_2 + 1)), (by first | rfl | (simp; done) | (simp [*]; done)), H', ⟨by have := HJ3.out; have := HK2.out; omega⟩, ⟨by repeat (first | (with_reducible first | exact HB.out | apply below_alloc | apply pw_below_drewN | apply below_drew1) | exact HB.out)⟩⟩
                      · rw [if_neg c17] at H
                        have c17b0 : ((rd l0 (ji11)) == (rd l0 (ji14))) = false := beq_eq_false_iff_ne.mpr c17
                        have c17b1 : ((rd l0 (ji11)) != (rd l0 (ji14))) = true := bne_iff_ne.mpr c17
                        obtain rfl := Option.some.inj H
                        have p101 : 0 ≤ ((ji11) : Int) := of_decide_eq_true (by first | (with_reducible assumption) | assumption)
                        have q101 : (ji11) < (l0.length : Int) := of_decide_eq_true (by first | (with_reducible assumption) | assumption)
                        obtain ⟨ad101, e101, hx101_0⟩ := Kd.at_int HR0.out (ji11) p101 q101
                        cases e101
                        replace hx101_0 := (HB.out.cell (World.block_lt_of_cell? w _ hx101_0)).trans hx101_0
                        replace p101 := eq_true p101
                        replace q101 := eq_true q101
                        have p102 : 0 ≤ ((ji14) : Int) := of_decide_eq_true (by first | (with_reducible assumption) | assumption)
                        have q102 : (ji14) < (l0.length : Int) := of_decide_eq_true (by first | (with_reducible assumption) | assumption)
                        obtain ⟨ad102, e102, hx102_0⟩ := Kd.at_int HR0.out (ji14) p102 q102
                        obtain rfl : ad101 = ad102 := (by injection e102)
                        replace hx102_0 := (HB.out.cell (World.block_lt_of_cell? w _ hx102_0)).trans hx102_0
                        replace p102 := eq_true p102
                        replace q102 := eq_true q102
                        go_wp2
                        repeat (go_quiet (fail); try go_wp2)
                        go_ret
                        exact ⟨by first | rfl | (simp [errW_none, errW_some] <;> rfl) | (simp only [← hji9, ← hji11, ← hji14]; first | rfl | (simp [errW_none, errW_some] <;> rfl)) | (simp [*, errW_none, errW_some] <;> rfl), by repeat (first | (with_reducible first | exact HB.out | apply below_alloc | apply pw_below_drewN | apply below_drew1) | exact HB.out)⟩
                    · rw [if_neg c16] at H
                      exact absurd H (by simp)
                  · rw [if_neg c15] at H
                    exact absurd H (by simp)
                · rw [if_neg c13] at H
                  exact absurd H (by simp)
              · rw [if_neg c12] at H
                exact absurd H (by simp)
            · rw [if_neg c10] at H
              have c10b0 : decide ((wrap64 ((ji9) + x7_2)) < (l0.length : Int)) = false := decide_eq_false c10
              clear c10
              obtain rfl := Option.some.inj H
              go_wp2
              repeat (go_quiet (fail); try go_wp2)
              go_ret
              exact ⟨by first | rfl | (simp [errW_none, errW_some] <;> rfl) | (simp only [← hji9]; first | rfl | (simp [errW_none, errW_some] <;> rfl)) | (simp [*, errW_none, errW_some] <;> rfl), by repeat (first | (with_reducible first | exact HB.out | apply below_alloc | apply pw_below_drewN | apply below_drew1) | exact HB.out)⟩

/-! ### suffix_Turn: function 26 -/
mutual
def suffix_Turn.l0 : Nat → List Int → List Int → Int → Int → Option (List Int × Int)
  | 0, _, _, _, _ => none
  | k + 1, x0, x4, x12, x13 => if x13 < x12 then (if 0 ≤ x13 then (if x13 < (x4.length : Int) then (suffix_Turn.l0 k x0 (x4.set (x13 : Int).toNat (-1)) x12 (wrap64 (x13 + 1))) else (none)) else (none)) else (suffix_Turn.l1 k x0 x4 x0 (x0.length : Int) 0)
def suffix_Turn.l1 : Nat → List Int → List Int → List Int → Int → Int → Option (List Int × Int)
  | 0, _, _, _, _, _ => none
  | k + 1, x0, x4, x20, x21, x22 => if x22 < x21 then (if 0 ≤ x22 then (if x22 < (x20.length : Int) then (if (rd x20 x22) < 0 then (some (([] : List Int), 2)) else (if (rd x20 x22) ≥ (x0.length : Int) then (some (([] : List Int), 2)) else (if 0 ≤ (rd x20 x22) then (if (rd x20 x22) < (x4.length : Int) then (if (rd x4 (rd x20 x22)) ≥ 0 then (some (([] : List Int), 2)) else (suffix_Turn.l1 k x0 (x4.set ((rd x20 x22) : Int).toNat x22) x20 x21 (wrap64 (x22 + 1)))) else (none)) else (none)))) else (none)) else (none)) else (some (x4, 0))
end
def suffix_Turn.f (k : Nat) (l0 : List Int) : Option (List Int × Int) := if 0 ≤ (l0.length : Int) then (if ((l0.length : Int) : Int).toNat ≤ 35184372088832 then ((some (List.replicate ((l0.length : Int) : Int).toNat 0 : List Int)).bind fun y103 => (suffix_Turn.l0 k l0 y103 (y103.length : Int) 0)) else (none)) else (none)
theorem suffix_Turn.mono_l : ∀ k, (∀ y0 y1 y2 y3, LeO (suffix_Turn.l0 k y0 y1 y2 y3) (suffix_Turn.l0 (k + 1) y0 y1 y2 y3)) ∧ (∀ y0 y1 y2 y3 y4, LeO (suffix_Turn.l1 k y0 y1 y2 y3 y4) (suffix_Turn.l1 (k + 1) y0 y1 y2 y3 y4))
  | 0 => ⟨fun _ _ _ _ r h => by simp [suffix_Turn.l0] at h, fun _ _ _ _ _ r h => by simp [suffix_Turn.l1] at h⟩
  | k + 1 => by
    obtain ⟨ih0, ih1⟩ := suffix_Turn.mono_l k
    refine ⟨?_, ?_⟩
    · intro y0 y1 y2 y3
      unfold suffix_Turn.l0
      repeat' first
      | (with_reducible exact ih0 _ _ _ _)
      | (with_reducible exact ih1 _ _ _ _ _)
      | (with_reducible exact LeO.refl _)
      | (with_reducible exact LeO.none _)
      | (with_reducible refine LeO.ite ?_ ?_)
      | (with_reducible refine LeO.bind ?_ (fun _ => ?_))
      | exact ih0 _ _ _ _
      | exact ih1 _ _ _ _ _
      | exact LeO.none _
      | refine LeO.ite ?_ ?_
      | refine LeO.bind ?_ (fun _ => ?_)
    · intro y0 y1 y2 y3 y4
      unfold suffix_Turn.l1
      repeat' first
      | (with_reducible exact ih0 _ _ _ _)
      | (with_reducible exact ih1 _ _ _ _ _)
      | (with_reducible exact LeO.refl _)
      | (with_reducible exact LeO.none _)
      | (with_reducible refine LeO.ite ?_ ?_)
      | (with_reducible refine LeO.bind ?_ (fun _ => ?_))
      | exact ih0 _ _ _ _
      | exact ih1 _ _ _ _ _
      | exact LeO.none _
      | refine LeO.ite ?_ ?_
      | refine LeO.bind ?_ (fun _ => ?_)
theorem suffix_Turn.mono : ∀ a0 k, LeO (suffix_Turn.f k a0) (suffix_Turn.f (k + 1) a0) := by
  intro a0 k
  obtain ⟨ih0, ih1⟩ := suffix_Turn.mono_l k
  unfold suffix_Turn.f
  repeat' first
      | (with_reducible exact ih0 _ _ _ _)
      | (with_reducible exact ih1 _ _ _ _ _)
      | (with_reducible exact LeO.refl _)
      | (with_reducible exact LeO.none _)
      | (with_reducible refine LeO.ite ?_ ?_)
      | (with_reducible refine LeO.bind ?_ (fun _ => ?_))
      | exact ih0 _ _ _ _
      | exact ih1 _ _ _ _ _
      | exact LeO.none _
      | refine LeO.ite ?_ ?_
      | refine LeO.bind ?_ (fun _ => ?_)
set_option maxHeartbeats 8000000 in
set_option maxRecDepth 100000 in
theorem suffix_Turn.calls (k : Nat) (A0 : Option Addr) (c0 : Nat) (l0 : List Int) (r1 : List Int) (r2 : Int) (w : World) (hr0 : Kd.C (Kd.int .i64) w A0 l0.length l0) (hc0 : l0.length ≤ c0) (h : suffix_Turn.f k l0 = some (r1, r2)) :
    Calls Try.prog 26 #[.slice A0 l0.length c0] w fun e w' => ∃ v0_ : Value, e = .returned (.tuple #[v0_, .int .i64 r2]) ∧ Kd.R (Kd.int .i64) 3 w' w.heap.size (fun _ => True) v0_ r1 ∧ Below w.heap.size w w' := by
  have HR0 := Aside0.mk hr0
  have HC0 := Aside0.mk hc0
  clear hr0 hc0
  have HB := Aside0.mk (Below.refl w.heap.size w)
  have H : (if 0 ≤ (l0.length : Int) then (if ((l0.length : Int) : Int).toNat ≤ 35184372088832 then ((some (List.replicate ((l0.length : Int) : Int).toNat 0 : List Int)).bind fun y103 => (suffix_Turn.l0 k l0 y103 (y103.length : Int) 0)) else (none)) else (none)) = some (r1, r2) := h
  clear h
  by_cases c2 : 0 ≤ (l0.length : Int)
  · rw [if_pos c2] at H
    have c2b0 := eq_true c2
    have c2b1 : decide (0 ≤ (l0.length : Int)) = true := decide_eq_true c2
    clear c2
    by_cases c3 : ((l0.length : Int) : Int).toNat ≤ 35184372088832
    · rw [if_pos c3] at H
      have c3b0 := eq_true c3
      have c3b1 : decide (((l0.length : Int) : Int).toNat ≤ 35184372088832) = true := decide_eq_true c3
      clear c3
      obtain ⟨y103, hy103⟩ : ∃ y_ : List Int, y_ = (List.replicate ((l0.length : Int) : Int).toNat 0) := ⟨_, rfl⟩
      replace H : (suffix_Turn.l0 k l0 y103 (y103.length : Int) 0) = some (r1, r2) := by first | (rw [hy103]; with_reducible exact H) | (have H2_ := (Option.bind_some _ _).symm.trans H; rw [hy103]; with_reducible exact H2_) | (have H2_ := (Option.bind_some _ _).symm.trans H; with_reducible exact H2_) | with_reducible exact H | (rw [hy103]; exact H) | exact H
      have Ny103 := Aside0.mk hy103
      clear hy103
      have H' := Aside0.mk H
      clear H
      go_enter Try.func26, Try.ntmps26
      go_wp2_with (first | ((with_reducible refine gate_dst (N := 10) rfl ?_); (try (refine gate_guard (by rfl) ?_; dsimp only)); refine Kd.R_make (Kd.int .i64) _ 3 rfl (N := 10) rfl 22 _ _ rfl (l0.length : Int) rfl rfl Try.underlying22 (.int .i64 0) 8 info3 rfl (by decide) (by omega) 0 (ok := fun _ => True) (okp := fun _ => True) rfl (fun _ hk => hk) trivial (of_decide_eq_true (by first | (with_reducible assumption) | assumption)) (Nat.le_trans (Nat.mul_le_mul_right _ (of_decide_eq_true (by first | (with_reducible assumption) | assumption) : (l0.length : Int).toNat ≤ 35184372088832)) (by omega)) (Below.refl _ _) (Nat.le_refl _) ?_; intro v104 w4 ho5 hb hg_ hnew_; clear hg_ hnew_; (first | rw [← Ny103.out] at ho5 | (simp only [Int.reduceToNat] at ho5; rw [← Ny103.out] at ho5)); have n0_ := Aside0.mk (Kd.R_lower ho5 (below_size (by repeat (first | (with_reducible first | exact HB.out | apply below_alloc | apply pw_below_drewN | apply below_drew1) | exact HB.out)))); have n1_ := Aside0.mk (below_step (by repeat (first | (with_reducible first | exact HB.out | apply below_alloc | apply pw_below_drewN | apply below_drew1) | exact HB.out)) hb); clear HB; have HO105 := n0_; have HB := n1_; clear n0_ n1_; clear hb ho5; obtain ⟨Ao6, co6, eo6⟩ := Kd.R_slice HO105.out; subst eo6))
      go_loopg [13] k (fun kq v13 w' => ∃ (x4_1 : List Int) (x13_1 : Int), v13 = .int .i64 x13_1 ∧ Aside0 (suffix_Turn.l0 kq l0 x4_1 (y103.length : Int) x13_1 = some (r1, r2)) ∧ Aside0 (kq ≤ k) ∧ Aside0 (Kd.R (Kd.int .i64) 3 w' w.heap.size (fun _ => True) (.slice Ao6 y103.length co6) x4_1) ∧ Aside0 (Below w.heap.size w w'))
      case atStart => exact ⟨(y103), (0), (by first | rfl | (simp; done) | (simp [*]; done)), H', ⟨Nat.le_refl _⟩, ⟨by (with_reducible repeat (first | apply Kd.R_alloc | apply Kd.R_drewN | apply Kd.R_drew)); exact HO105.out⟩, ⟨by repeat (first | (with_reducible first | exact HB.out | apply below_alloc | apply pw_below_drewN | apply below_drew1) | exact HB.out)⟩⟩
      case round =>
        clear H'
        try clear c2
        try clear c2b0
        try clear c2b1
        try clear p2
        try clear c3
        try clear c3b0
        try clear c3b1
        obtain ⟨x4_1, x13_1, rfl, HA, HK1, HO_4, HB⟩ := hrel
        have hl4_1 := (Kd.R_reads' HO_4.out).1
        rw [hl4_1] at HO_4
        (try simp only [hl4_1])
        cases gk with
        | zero => exact absurd HA.out (by simp [suffix_Turn.l0])
        | succ k1 =>
          have H := HA.out
          clear HA
          simp only [suffix_Turn.l0] at H
          by_cases c7 : x13_1 < (y103.length : Int)
          · rw [if_pos c7] at H
            have c7b0 : decide (x13_1 < (y103.length : Int)) = true := decide_eq_true c7
            clear c7
            by_cases c8 : 0 ≤ x13_1
            · rw [if_pos c8] at H
              have c8b0 : decide (0 ≤ x13_1) = true := decide_eq_true c8
              clear c8
              by_cases c9 : x13_1 < (x4_1.length : Int)
              · rw [if_pos c9] at H
                have c9b0 : decide (x13_1 < (x4_1.length : Int)) = true := decide_eq_true c9
                clear c9
                obtain ⟨y106, hy106⟩ : ∃ y_ : List Int, y_ = (x4_1.set (x13_1 : Int).toNat (-1)) := ⟨_, rfl⟩
                replace H : (suffix_Turn.l0 k1 l0 y106 (y103.length : Int) (wrap64 (x13_1 + 1))) = some (r1, r2) := by first | (rw [hy106]; with_reducible exact H) | (have H2_ := (Option.bind_some _ _).symm.trans H; rw [hy106]; with_reducible exact H2_) | (have H2_ := (Option.bind_some _ _).symm.trans H; with_reducible exact H2_) | with_reducible exact H | (rw [hy106]; exact H) | exact H
                have Ny106 := Aside0.mk hy106
                clear hy106
                have H' := Aside0.mk H
                clear H
                have p10 : 0 ≤ (x13_1 : Int) := of_decide_eq_true (by first | (with_reducible assumption) | assumption)
                have q10 : (x13_1 : Int) < ((x4_1.length : Int) : Int) := of_decide_eq_true (by first | (with_reducible assumption) | assumption)
                obtain ⟨go10, co10, eo10, gb10, gl10, cl10, HG10⟩ := Kd.R_form HO_4.out (by omega)
                (first | cases eo10 | (injection eo10 with ea_ en_ ec_; (first | subst ea_ | (injection ea_ with ea_; subst ea_)); subst ec_; clear en_))
                have GB10 := Aside0.mk gb10
                have GG10 := Aside0.mk HG10
                clear gb10 gl10 HG10
                obtain ⟨hx10_0, hf10_0⟩ := Kd.R_celln 0 HO_4.out (x13_1 : Int) p10 q10
                replace p10 := eq_true p10
                replace q10 := eq_true q10
                have HP11 := Kd.R_putg HO_4.out (x13_1 : Int) (-1)
                go_wp2_with (first | ((with_reducible refine gate_store (t := 3) (p := 18) rfl ?_); refine store_event (t := 3) (p := 18) (v := ?vo_w12) (w1 := (wr.setCell ⟨go10, (x13_1 : Int).toNat, none⟩ (.int .i64 (-1)))) ?hg ?ho ?hn ?hr ?_; (case ho => rfl); (case hg => rfl); (case hn => rfl); (case hr => first | (go_simp; done) | (go_simp; rfl)); intro w12 hw; have hg : wr.grownBy w12 (some go10) := (by rw [hw]; exact HP11.2); have hp_ : Kd.R (Kd.int .i64) 3 w12 w.heap.size (fun _ => True) (.slice (some ⟨go10, 0, none⟩) x4_1.length co6) y106 := (by rw [hw, Ny106.out]; exact HP11.1); clear HP11; have n0_ := Aside0.mk (hp_); have n1_ := Aside0.mk ((by rw [hw]; exact below_set (HB.out) GB10.out : Below w.heap.size w w12)); clear HO_4; clear HB; have HO_4 := n0_; have HB := n1_; clear n0_ n1_; clear hg hw hp_))
                (try simp only [← hl4_1])
                go_roundg k1
                case measure => have := HK1.out; omega
                case rel => exact ⟨(y106), (wrap64 (x13_1 + 1)), (by first | rfl | (simp; done) | (simp [*]; done)), H', ⟨by have := HK1.out; omega⟩, ⟨by (try simp only [hl4_1]); (with_reducible repeat (first | apply Kd.R_alloc | apply Kd.R_drewN | apply Kd.R_drew)); exact HO_4.out⟩, ⟨by repeat (first | (with_reducible first | exact HB.out | apply below_alloc | apply pw_below_drewN | apply below_drew1) | exact HB.out)⟩⟩
              · rw [if_neg c9] at H
                exact absurd H (by simp)
            · rw [if_neg c8] at H
              exact absurd H (by simp)
          · rw [if_neg c7] at H
            have c7b0 : decide (x13_1 < (y103.length : Int)) = false := decide_eq_false c7
            (try simp only [hl4_1] at c7b0)
            clear c7
            have H' := Aside0.mk H
            clear H
            go_wp2
            go_loopg [22] k1 (fun kq v22 w' => ∃ (x4_2 : List Int) (x22_2 : Int), v22 = .int .i64 x22_2 ∧ Aside0 (suffix_Turn.l1 kq l0 x4_2 l0 (l0.length : Int) x22_2 = some (r1, r2)) ∧ Aside0 (kq ≤ k1) ∧ Aside0 (Kd.R (Kd.int .i64) 3 w' w.heap.size (fun _ => True) (.slice Ao6 x4_1.length co6) x4_2) ∧ Aside0 (Below w.heap.size w w'))
            case atStart => exact ⟨(x4_1), (0), (by first | rfl | (simp; done) | (simp [*]; done)), H', ⟨Nat.le_refl _⟩, ⟨by (try simp only [hl4_1]); (with_reducible repeat (first | apply Kd.R_alloc | apply Kd.R_drewN | apply Kd.R_drew)); exact HO_4.out⟩, ⟨by repeat (first | (with_reducible first | exact HB.out | apply below_alloc | apply pw_below_drewN | apply below_drew1) | exact HB.out)⟩⟩
            case round =>
              clear H'
              try clear p1
              try clear q1
              try clear hx1
              try clear hf1
              try clear c2
              try clear c2b0
              try clear c2b1
              try clear p2
              try clear c3
              try clear c3b0
              try clear c3b1
              try clear p6
              try clear c7
              try clear c7b0
              try clear c8
              try clear c8b0
              try clear c9
              try clear c9b0
              try clear p10
              try clear q10
              try clear hx10
              try clear hf10
              try clear hx10_0
              try clear p10
              try clear p2
              try clear q10
              obtain ⟨x4_2, x22_2, rfl, HA, HK2, HO_4, HB⟩ := hrel
              have hl4_2 := (Kd.R_reads' HO_4.out).1
              rw [hl4_2] at HO_4
              (try simp only [hl4_2])
              cases gk with
              | zero => exact absurd HA.out (by simp [suffix_Turn.l1])
              | succ k2 =>
                have H := HA.out
                clear HA
                simp only [suffix_Turn.l1] at H
                by_cases c13 : x22_2 < (l0.length : Int)
                · rw [if_pos c13] at H
                  have c13b0 : decide (x22_2 < (l0.length : Int)) = true := decide_eq_true c13
                  clear c13
                  by_cases c14 : 0 ≤ x22_2
                  · rw [if_pos c14] at H
                    have c14b0 : decide (0 ≤ x22_2) = true := decide_eq_true c14
                    clear c14
                    by_cases c15 : x22_2 < (l0.length : Int)
                    · rw [if_pos c15] at H
                      have c15b0 : decide (x22_2 < (l0.length : Int)) = true := decide_eq_true c15
                      clear c15
                      by_cases c16 : (rd l0 x22_2) < 0
                      · rw [if_pos c16] at H
                        have c16b0 : decide ((rd l0 x22_2) < 0) = true := decide_eq_true c16
                        clear c16
                        simp only [Option.some.injEq, Prod.mk.injEq] at H
                        obtain ⟨rfl, rfl⟩ := H
                        have p107 : 0 ≤ (x22_2 : Int) := of_decide_eq_true (by first | (with_reducible assumption) | assumption)
                        have q107 : x22_2 < (l0.length : Int) := of_decide_eq_true (by first | (with_reducible assumption) | assumption)
                        obtain ⟨ad107, e107, hx107_0⟩ := Kd.at_int HR0.out x22_2 p107 q107
                        cases e107
                        replace hx107_0 := (HB.out.cell (World.block_lt_of_cell? w _ hx107_0)).trans hx107_0
                        replace p107 := eq_true p107
                        replace q107 := eq_true q107
                        go_wp2
                        go_ret2
                        exact ⟨_, by first | rfl | (simp [errW_none, errW_some] <;> rfl) | (simp [*, errW_none, errW_some] <;> rfl), by first | exact Kd.R_nil _ _ _ _ _ | exact Kd.N_nil _ _ _ _ _ | exact Kd.V_nil _ _ _ _ _ | exact Kd.Q_nil _ _ _ _ _ | exact Kd.S_nil _ _ _ _ _, by repeat (first | (with_reducible first | exact HB.out | apply below_alloc | apply pw_below_drewN | apply below_drew1) | exact HB.out)⟩
                      · rw [if_neg c16] at H
                        have c16b0 : decide ((rd l0 x22_2) < 0) = false := decide_eq_false c16
                        (try simp only [hl4_1, hl4_2] at c16b0)
                        clear c16
                        by_cases c17 : (rd l0 x22_2) ≥ (l0.length : Int)
                        · rw [if_pos c17] at H
                          have c17b0 : decide ((l0.length : Int) ≤ (rd l0 x22_2)) = true := decide_eq_true c17
                          clear c17
                          simp only [Option.some.injEq, Prod.mk.injEq] at H
                          obtain ⟨rfl, rfl⟩ := H
                          have p107 : 0 ≤ (x22_2 : Int) := of_decide_eq_true (by first | (with_reducible assumption) | assumption)
                          have q107 : x22_2 < (l0.length : Int) := of_decide_eq_true (by first | (with_reducible assumption) | assumption)
                          obtain ⟨ad107, e107, hx107_0⟩ := Kd.at_int HR0.out x22_2 p107 q107
                          cases e107
                          replace hx107_0 := (HB.out.cell (World.block_lt_of_cell? w _ hx107_0)).trans hx107_0
                          replace p107 := eq_true p107
                          replace q107 := eq_true q107
                          go_wp2
                          go_ret2
                          exact ⟨_, by first | rfl | (simp [errW_none, errW_some] <;> rfl) | (simp [*, errW_none, errW_some] <;> rfl), by first | exact Kd.R_nil _ _ _ _ _ | exact Kd.N_nil _ _ _ _ _ | exact Kd.V_nil _ _ _ _ _ | exact Kd.Q_nil _ _ _ _ _ | exact Kd.S_nil _ _ _ _ _, by repeat (first | (with_reducible first | exact HB.out | apply below_alloc | apply pw_below_drewN | apply below_drew1) | exact HB.out)⟩
                        · rw [if_neg c17] at H
                          have c17b0 : decide ((l0.length : Int) ≤ (rd l0 x22_2)) = false := decide_eq_false c17
                          (try simp only [hl4_1, hl4_2] at c17b0)
                          clear c17
                          by_cases c18 : 0 ≤ (rd l0 x22_2)
                          · rw [if_pos c18] at H
                            have c18b0 : decide (0 ≤ (rd l0 x22_2)) = true := decide_eq_true c18
                            clear c18
                            by_cases c19 : (rd l0 x22_2) < (x4_2.length : Int)
                            · rw [if_pos c19] at H
                              have c19b0 : decide ((rd l0 x22_2) < (x4_2.length : Int)) = true := decide_eq_true c19
                              clear c19
                              by_cases c20 : (rd x4_2 (rd l0 x22_2)) ≥ 0
                              · rw [if_pos c20] at H
                                have c20b0 : decide (0 ≤ (rd x4_2 (rd l0 x22_2))) = true := decide_eq_true c20
                                clear c20
                                simp only [Option.some.injEq, Prod.mk.injEq] at H
                                obtain ⟨rfl, rfl⟩ := H
                                have p107 : 0 ≤ (x22_2 : Int) := of_decide_eq_true (by first | (with_reducible assumption) | assumption)
                                have q107 : x22_2 < (l0.length : Int) := of_decide_eq_true (by first | (with_reducible assumption) | assumption)
                                obtain ⟨ad107, e107, hx107_0⟩ := Kd.at_int HR0.out x22_2 p107 q107
                                cases e107
                                replace hx107_0 := (HB.out.cell (World.block_lt_of_cell? w _ hx107_0)).trans hx107_0
                                replace p107 := eq_true p107
                                replace q107 := eq_true q107
                                have p108 : 0 ≤ ((rd l0 x22_2) : Int) := of_decide_eq_true (by first | (with_reducible assumption) | assumption)
                                have q108 : (rd l0 x22_2) < (x4_2.length : Int) := of_decide_eq_true (by first | (with_reducible assumption) | assumption)
                                obtain ⟨ad108, e108, hx108_0⟩ := Kd.at_int (Kd.R_reads' HO_4.out).2.2 (rd l0 x22_2) p108 q108
                                cases e108
                                replace p108 := eq_true p108
                                replace q108 := eq_true q108
                                go_wp2
                                go_ret2
                                exact ⟨_, by first | rfl | (simp [errW_none, errW_some] <;> rfl) | (simp [*, errW_none, errW_some] <;> rfl), by first | exact Kd.R_nil _ _ _ _ _ | exact Kd.N_nil _ _ _ _ _ | exact Kd.V_nil _ _ _ _ _ | exact Kd.Q_nil _ _ _ _ _ | exact Kd.S_nil _ _ _ _ _, by repeat (first | (with_reducible first | exact HB.out | apply below_alloc | apply pw_below_drewN | apply below_drew1) | exact HB.out)⟩
                              · rw [if_neg c20] at H
                                have c20b0 : decide (0 ≤ (rd x4_2 (rd l0 x22_2))) = false := decide_eq_false c20
                                (try simp only [hl4_1, hl4_2] at c20b0)
                                clear c20
                                obtain ⟨y109, hy109⟩ : ∃ y_ : List Int, y_ = (x4_2.set ((rd l0 x22_2) : Int).toNat x22_2) := ⟨_, rfl⟩
                                replace H : (suffix_Turn.l1 k2 l0 y109 l0 (l0.length : Int) (wrap64 (x22_2 + 1))) = some (r1, r2) := by first | (rw [hy109]; with_reducible exact H) | (have H2_ := (Option.bind_some _ _).symm.trans H; rw [hy109]; with_reducible exact H2_) | (have H2_ := (Option.bind_some _ _).symm.trans H; with_reducible exact H2_) | with_reducible exact H | (rw [hy109]; exact H) | exact H
                                have Ny109 := Aside0.mk hy109
                                clear hy109
                                have H' := Aside0.mk H
                                clear H
                                have p107 : 0 ≤ (x22_2 : Int) := of_decide_eq_true (by first | (with_reducible assumption) | assumption)
                                have q107 : x22_2 < (l0.length : Int) := of_decide_eq_true (by first | (with_reducible assumption) | assumption)
                                obtain ⟨ad107, e107, hx107_0⟩ := Kd.at_int HR0.out x22_2 p107 q107
                                cases e107
                                replace hx107_0 := (HB.out.cell (World.block_lt_of_cell? w _ hx107_0)).trans hx107_0
                                replace p107 := eq_true p107
                                replace q107 := eq_true q107
                                have p108 : 0 ≤ ((rd l0 x22_2) : Int) := of_decide_eq_true (by first | (with_reducible assumption) | assumption)
                                have q108 : (rd l0 x22_2) < (x4_2.length : Int) := of_decide_eq_true (by first | (with_reducible assumption) | assumption)
                                obtain ⟨ad108, e108, hx108_0⟩ := Kd.at_int (Kd.R_reads' HO_4.out).2.2 (rd l0 x22_2) p108 q108
                                cases e108
                                replace p108 := eq_true p108
                                replace q108 := eq_true q108
                                have p21 : 0 ≤ ((rd l0 x22_2) : Int) := of_decide_eq_true (by first | (with_reducible assumption) | assumption)
                                have q21 : ((rd l0 x22_2) : Int) < ((x4_2.length : Int) : Int) := of_decide_eq_true (by first | (with_reducible assumption) | assumption)
                                obtain ⟨go21, co21, eo21, gb21, gl21, cl21, HG21⟩ := Kd.R_form HO_4.out (by omega)
                                (first | cases eo21 | (injection eo21 with ea_ en_ ec_; (first | subst ea_ | (injection ea_ with ea_; subst ea_)); subst ec_; clear en_))
                                have GB21 := Aside0.mk gb21
                                have GG21 := Aside0.mk HG21
                                clear gb21 gl21 HG21
                                (first | simp only [add_plain] at hx108_0 | skip)
                                obtain ⟨hx21_0, hf21_0⟩ := Kd.R_celln 0 HO_4.out ((rd l0 x22_2) : Int) p21 q21
                                replace p21 := eq_true p21
                                replace q21 := eq_true q21
                                have HP22 := Kd.R_putg HO_4.out ((rd l0 x22_2) : Int) x22_2
                                go_wp2_with (first | ((with_reducible refine gate_store (t := 3) (p := 45) rfl ?_); refine store_event (t := 3) (p := 45) (v := ?vo_w23) (w1 := (wr.setCell ⟨go21, ((rd l0 x22_2) : Int).toNat, none⟩ (.int .i64 x22_2))) ?hg ?ho ?hn ?hr ?_; (case ho => rfl); (case hg => rfl); (case hn => rfl); (case hr => first | (go_simp; done) | (go_simp; rfl)); intro w23 hw; have hg : wr.grownBy w23 (some go21) := (by rw [hw]; exact HP22.2); have hp_ : Kd.R (Kd.int .i64) 3 w23 w.heap.size (fun _ => True) (.slice (some ⟨go21, 0, none⟩) x4_2.length co6) y109 := (by rw [hw, Ny109.out]; exact HP22.1); clear HP22; have n0_ := Aside0.mk (hp_); have n1_ := Aside0.mk ((by rw [hw]; exact below_set (HB.out) GB21.out : Below w.heap.size w w23)); clear HO_4; clear HB; have HO_4 := n0_; have HB := n1_; clear n0_ n1_; clear hg hw hp_))
                                (try simp only [← hl4_2])
                                go_roundg k2
                                case measure => have := HK1.out; have := HK2.out; omega
                                case rel => exact ⟨(y109), (wrap64 (x22_2 + 1)), (by first | rfl | (simp; done) | (simp [*]; done)), H', ⟨by have := HK1.out; have := HK2.out; omega⟩, ⟨by (try simp only [hl4_1]); (try simp only [hl4_2]); (with_reducible repeat (first | apply Kd.R_alloc | apply Kd.R_drewN | apply Kd.R_drew)); exact HO_4.out⟩, ⟨by repeat (first | (with_reducible first | exact HB.out | apply below_alloc | apply pw_below_drewN | apply below_drew1) | exact HB.out)⟩⟩
                            · rw [if_neg c19] at H
                              exact absurd H (by simp)
                          · rw [if_neg c18] at H
                            exact absurd H (by simp)
                    · rw [if_neg c15] at H
                      exact absurd H (by simp)
                  · rw [if_neg c14] at H
                    exact absurd H (by simp)
                · rw [if_neg c13] at H
                  have c13b0 : decide (x22_2 < (l0.length : Int)) = false := decide_eq_false c13
                  (try simp only [hl4_1, hl4_2] at c13b0)
                  clear c13
                  simp only [Option.some.injEq, Prod.mk.injEq] at H
                  obtain ⟨rfl, rfl⟩ := H
                  go_wp2
                  go_ret2
                  exact ⟨_, by first | rfl | (simp [errW_none, errW_some] <;> rfl) | (simp [*, errW_none, errW_some] <;> rfl), by (with_reducible repeat (first | apply Kd.R_alloc | apply Kd.R_drewN | apply Kd.R_drew)); exact HO_4.out, by repeat (first | (with_reducible first | exact HB.out | apply below_alloc | apply pw_below_drewN | apply below_drew1) | exact HB.out)⟩
    · rw [if_neg c3] at H
      exact absurd H (by simp)
  · rw [if_neg c2] at H
    exact absurd H (by simp)

/-! ### lcp_rising: function 29 -/
theorem lcp_rising.rank_end (bt ba : Nat) (A0 A2 : Option Addr) (c0 c2 : Nat) (l0 l2 : List Int) (p : Int) (w : World)
    (h0 : w.cell? ⟨bt, 0, none⟩ = some (.slice A0 l0.length c0)) (h2 : w.cell? ⟨ba, 0, none⟩ = some (.slice A2 l2.length c2))
    (hp : (p == (l0.length : Int)) = true) :
    Calls Try.prog 35 #[.int .i64 p, .pointer (some ⟨bt, 0, none⟩), .pointer (some ⟨ba, 0, none⟩)] w fun e w' => e = .returned (.int .i64 (-1)) ∧ w' = w := by
  go_enter Try.func35, Try.ntmps35
  go_wp2
  go_ret
  exact ⟨rfl, rfl⟩

theorem lcp_rising.rank_in (bt ba : Nat) (A0 A2 : Option Addr) (c0 c2 : Nat) (l0 l2 : List Int) (p : Int) (w : World)
    (h0 : w.cell? ⟨bt, 0, none⟩ = some (.slice A0 l0.length c0)) (h2 : w.cell? ⟨ba, 0, none⟩ = some (.slice A2 l2.length c2))
    (hr : Kd.C (Kd.int .i64) w A2 l2.length l2)
    (hp : (p == (l0.length : Int)) = false) (hp0 : 0 ≤ p) (hp1 : p < l2.length) :
    Calls Try.prog 35 #[.int .i64 p, .pointer (some ⟨bt, 0, none⟩), .pointer (some ⟨ba, 0, none⟩)] w fun e w' => e = .returned (.int .i64 (rd l2 p)) ∧ w' = w := by
  obtain ⟨ad, rfl, hx⟩ := Kd.at_int hr p hp0 hp1
  clear hr
  go_enter Try.func35, Try.ntmps35
  go_wp2
  go_ret
  exact ⟨rfl, rfl⟩

theorem lcp_rising.quiet_add_same {P : Program} {f : FuncId} {args : Array Value} {w : World} {a n : Nat} {v : Value}
    (h : Calls P f args (w.drewN (a + n)) fun e w' => e = .returned v ∧ w' = w.drewN (a + n)) :
    Calls P f args (w.drewN (a + n)) fun e w'' => e = .returned v ∧ ∃ m, w'' = w.drewN (a + m) :=
  h.mono fun _ _ ⟨he, hm⟩ => ⟨he, n, hm⟩
def lcp_rising.rankO (t at_ : List Int) (p : Int) : Option Int := if p = (t.length : Int) then some (-1) else if 0 ≤ p then if p < (at_.length : Int) then some (rd at_ p) else none else none
theorem lcp_rising.rank_any (bt ba : Nat) (A0 A2 : Option Addr) (c0 c2 : Nat) (l0 l2 : List Int) (p r : Int) (w : World)
    (h0 : w.cell? ⟨bt, 0, none⟩ = some (.slice A0 l0.length c0)) (h2 : w.cell? ⟨ba, 0, none⟩ = some (.slice A2 l2.length c2))
    (hr : Kd.C (Kd.int .i64) w A2 l2.length l2) (h : lcp_rising.rankO l0 l2 p = some r) :
    Calls Try.prog 35 #[.int .i64 p, .pointer (some ⟨bt, 0, none⟩), .pointer (some ⟨ba, 0, none⟩)] w fun e w' => e = .returned (.int .i64 r) ∧ w' = w := by
  unfold lcp_rising.rankO at h
  by_cases hp : p = (l0.length : Int)
  · rw [if_pos hp] at h
    obtain rfl := Option.some.inj h
    exact lcp_rising.rank_end bt ba A0 A2 c0 c2 l0 l2 p w h0 h2 (beq_iff_eq.2 hp)
  · rw [if_neg hp] at h
    by_cases h3 : 0 ≤ p
    · rw [if_pos h3] at h
      by_cases h4 : p < (l2.length : Int)
      · rw [if_pos h4] at h
        obtain rfl := Option.some.inj h
        exact lcp_rising.rank_in bt ba A0 A2 c0 c2 l0 l2 p w h0 h2 hr (beq_eq_false_iff_ne.2 hp) h3 h4
      · rw [if_neg h4] at h; exact absurd h (by simp)
    · rw [if_neg h3] at h; exact absurd h (by simp)

/-- rounds left, index -/
def lcp_rising.l (t sa at_ : List Int) : Nat → Int → Option Bool
  | 0, _ => some true
  | m + 1, i =>
    if 0 ≤ rd sa (i - 1) then if rd sa (i - 1) < (t.length : Int) then if 0 ≤ rd sa i then if rd sa i < (t.length : Int) then
      if rd t (rd sa i) < rd t (rd sa (i - 1)) then some false
      else if rd t (rd sa (i - 1)) = rd t (rd sa i) then
        (lcp_rising.rankO t at_ (rd sa (i - 1) + 1)).bind fun x => (lcp_rising.rankO t at_ (rd sa i + 1)).bind fun y => if y < x then some false else lcp_rising.l t sa at_ m (i + 1)
      else lcp_rising.l t sa at_ m (i + 1)
    else none else none else none else none
def lcp_rising.f (l0 l1 l2 : List Int) : Option Bool := lcp_rising.l l0 l1 l2 (l1.length - 1) 1

set_option maxHeartbeats 2000000 in
set_option maxRecDepth 100000 in
theorem lcp_rising.calls (A0 : Option Addr) (c0 : Nat) (l0 : List Int) (A1 : Option Addr) (c1 : Nat) (l1 : List Int) (A2 : Option Addr) (c2 : Nat) (l2 : List Int) (r : Bool) (w : World) (hr0 : Kd.C (Kd.int .i64) w A0 l0.length l0) (hc0 : l0.length ≤ c0) (hr1 : Kd.C (Kd.int .i64) w A1 l1.length l1) (hc1 : l1.length ≤ c1) (hr2 : Kd.C (Kd.int .i64) w A2 l2.length l2) (hc2 : l2.length ≤ c2) (h : lcp_rising.f l0 l1 l2 = some r) :
    Calls Try.prog 29 #[.slice A0 l0.length c0, .slice A1 l1.length c1, .slice A2 l2.length c2] w fun e w' => e = .returned (.bool r) ∧ Below w.heap.size w w' := by
  have hm1 : l1.length ≤ 9223372036854775807 := hr1.2.1
  have hm0 : l0.length ≤ 9223372036854775807 := hr0.2.1
  have HR0 := Aside0.mk hr0
  have HR1 := Aside0.mk hr1
  have HR2 := Aside0.mk hr2
  clear hr0 hr1 hr2
  have H : lcp_rising.l l0 l1 l2 (l1.length - 1) 1 = some r := h
  clear h
  have H' := Aside0.mk H
  clear H
  go_enter Try.func29, Try.ntmps29
  go_wp2
  go_loopg [8] (l1.length - 1) (fun kq v8 w' => ∃ i : Int, v8 = .int .i64 i ∧ Aside0 (lcp_rising.l l0 l1 l2 kq i = some r) ∧ Aside0 (1 ≤ i ∧ (kq = l1.length - i.toNat)) ∧ Aside0 (Below w.heap.size w w') ∧ Aside0 (w'.cell? ⟨w.heap.size, 0, none⟩ = some (.slice A0 l0.length c0)) ∧ Aside0 (w'.cell? ⟨w.heap.size + 1, 0, none⟩ = some (.slice A2 l2.length c2)))
  case atStart =>
    refine ⟨1, rfl, H', ⟨by omega⟩, ⟨?_⟩, ⟨by go_simp⟩, ⟨by go_simp⟩⟩
    exact below_alloc (below_alloc (Below.refl _ _) _) _
  case round =>
    clear H'
    obtain ⟨i, rfl, HA, HK, HB, hbt, hba⟩ := hrel
    have hbt := hbt.out
    have hba := hba.out
    cases gk with
    | zero =>
      have hlt : decide (i < (l1.length : Int)) = false := decide_eq_false (by have := HK.out; omega)
      have H := HA.out
      simp only [lcp_rising.l] at H
      obtain rfl := Option.some.inj H
      go_wp2
      go_ret
      exact ⟨rfl, HB.out⟩
    | succ m =>
      have hlt : decide (i < (l1.length : Int)) = true := decide_eq_true (by have := HK.out; omega)
      have h1 : 1 ≤ i := HK.out.1
      have h2 : i < (l1.length : Int) := by have := HK.out; omega
      have H := HA.out
      clear HA
      simp only [lcp_rising.l] at H
      split at H
      case isFalse => exact absurd H (by simp)
      split at H
      case isFalse => exact absurd H (by simp)
      split at H
      case isFalse => exact absurd H (by simp)
      split at H
      case isFalse => exact absurd H (by simp)
      rename_i q1 q2 q3 q4
      obtain ⟨ad1, e1, x1⟩ := Kd.at_int HR1.out (i - 1) (by omega) (by omega)
      cases e1
      obtain ⟨ad1', e1, x2⟩ := Kd.at_int HR1.out i (by omega) (by omega)
      cases e1
      obtain ⟨ad0, e0, y1⟩ := Kd.at_int HR0.out (rd l1 (i - 1)) q1 q2
      cases e0
      obtain ⟨ad0', e0, y2⟩ := Kd.at_int HR0.out (rd l1 i) q3 q4
      cases e0
      replace x1 := (HB.out.cell (World.block_lt_of_cell? w _ x1)).trans x1
      replace x2 := (HB.out.cell (World.block_lt_of_cell? w _ x2)).trans x2
      replace y1 := (HB.out.cell (World.block_lt_of_cell? w _ y1)).trans y1
      replace y2 := (HB.out.cell (World.block_lt_of_cell? w _ y2)).trans y2
      obtain ⟨a, ha⟩ : ∃ a, rd l1 (i - 1) = a := ⟨_, rfl⟩
      obtain ⟨b, hb⟩ : ∃ b, rd l1 i = b := ⟨_, rfl⟩
      rw [ha] at H q1 q2 x1 y1
      rw [hb] at H q3 q4 x2 y2
      clear ha hb
      have HRD : ∀ n, Kd.C (Kd.int .i64) (wr.drewN n) A2 l2.length l2 := fun n => Kd.C_below HR2.out (pw_below_drewN HB.out n)
      replace HRD := Aside0.mk HRD
      obtain ⟨j, hj⟩ : ∃ j, i - 1 = j := ⟨_, rfl⟩
      have hjw : IntKind.i64.wrap (i - 1) = j := by rw [← hj]; exact IntWalk.i64_in _ (by omega)
      have j1 : 0 ≤ j := by omega
      have j2 : j < (l1.length : Int) := by omega
      have i1 : 0 ≤ i := by omega
      have i3 : IntKind.i64.wrap (i + 1) = i + 1 := IntWalk.i64_in _ (by omega)
      rw [hj] at x1
      clear hj h1
      replace j1 := eq_true j1
      replace j2 := eq_true j2
      replace i1 := eq_true i1
      replace h2 := eq_true h2
      have ea : IntKind.i64.wrap (a + 1) = a + 1 := IntWalk.i64_in _ (by omega)
      have eb : IntKind.i64.wrap (b + 1) = b + 1 := IntWalk.i64_in _ (by omega)
      replace q1 := eq_true q1
      replace q2 := eq_true q2
      replace q3 := eq_true q3
      replace q4 := eq_true q4
      by_cases c1 : rd l0 b < rd l0 a
      · rw [if_pos c1] at H
        have c1b : decide (rd l0 b < rd l0 a) = true := decide_eq_true c1
        clear c1
        obtain rfl := Option.some.inj H
        go_wp2
        repeat (go_quiet (fail); try go_wp2)
        go_ret
        exact ⟨rfl, by repeat (first | exact HB.out | apply pw_below_drewN)⟩
      · rw [if_neg c1] at H
        have c1b : decide (rd l0 b < rd l0 a) = false := decide_eq_false c1
        clear c1
        by_cases c2 : rd l0 a = rd l0 b
        · rw [if_pos c2] at H
          have c2b : (rd l0 a == rd l0 b) = true := beq_iff_eq.2 c2
          clear c2
          obtain ⟨x, hx, H⟩ := Option.bind_eq_some_iff.mp H
          obtain ⟨y, hy, H⟩ := Option.bind_eq_some_iff.mp H
          have HX := Aside0.mk hx
          have HY := Aside0.mk hy
          clear hx hy
          by_cases c3 : y < x
          · rw [if_pos c3] at H
            have c3b : decide (y < x) = true := decide_eq_true c3
            clear c3
            obtain rfl := Option.some.inj H
            go_wp2
            go_quiet (fail)
            go_wp2
            go_quiet ((go_at_call 35; exact lcp_rising.quiet_add_same (lcp_rising.rank_any _ _ (some ad0) A2 c0 c2 l0 l2 _ _ _ (by go_simp) (by go_simp) (HRD.out _) (by first | (with_reducible exact HX.out) | (with_reducible exact HY.out)))))
            go_wp2
            go_ret
            exact ⟨rfl, by repeat (first | exact HB.out | apply pw_below_drewN)⟩
          · rw [if_neg c3] at H
            have c3b : decide (y < x) = false := decide_eq_false c3
            clear c3
            have H' := Aside0.mk H
            clear H
            go_wp2
            go_quiet (fail)
            go_wp2
            go_quiet ((go_at_call 35; exact lcp_rising.quiet_add_same (lcp_rising.rank_any _ _ (some ad0) A2 c0 c2 l0 l2 _ _ _ (by go_simp) (by go_simp) (HRD.out _) (by first | (with_reducible exact HX.out) | (with_reducible exact HY.out)))))
            go_wp2
            go_roundg m
            case measure => omega
            case rel => exact ⟨i + 1, by first | rfl | go_num, H', ⟨by have := HK.out; omega⟩, ⟨by repeat (first | exact HB.out | apply pw_below_drewN)⟩, ⟨by go_simp⟩, ⟨by go_simp⟩⟩
        · rw [if_neg c2] at H
          have c2b : (rd l0 a == rd l0 b) = false := beq_eq_false_iff_ne.2 c2
          clear c2
          have H' := Aside0.mk H
          clear H
          go_wp2
          repeat (go_quiet (fail); try go_wp2)
          go_roundg m
          case measure => omega
          case rel => exact ⟨i + 1, by first | rfl | go_num, H', ⟨by have := HK.out; omega⟩, ⟨by repeat (first | exact HB.out | apply pw_below_drewN)⟩, ⟨by go_simp⟩, ⟨by go_simp⟩⟩

end Go.Proofs.Yteagoinfepiilaa.Print
