-- Laid by a program of this session's (wip/tools/mprint.py), out of the translation and of texts of ours. Not trusted: Lean checks it.
import Derived.Test.YteagoinfepiilaaPrint0
namespace Go.Proofs.Yteagoinfepiilaa.Print
open Go.RowKit Go.Proofs.YteagoinfepiilaaW.PrintWords Go.Proofs.YteagoinfepiilaaW.PrintLast Go.Proofs.YteagoinfepiilaaW.PrintMore
attribute [local go_sem] max2_int min2_int max_two min_two max_three min_three max_four min_four   -- for this text's walks alone
set_option linter.unusedVariables false
set_option linter.unusedSimpArgs false

/-! ### colophonref10_Common: function 21 -/
mutual
def colophonref10_Common.j0 : Nat → List Int → Int → Int → Bool → Option (Int)
  | 0, _, _, _, _ => none
  | k + 1, x0, x1, x2, x26 => if x26 = true then (some 0) else (if 0 ≤ x1 then (if x1 < (x0.length : Int) then (if 0 ≤ x2 then (if x2 < (x0.length : Int) then (if (rd x0 x1) = (rd x0 x2) then (colophonref10_Common.l0 k x0 x2 1 (wrap64 (x1 + 1))) else (some 0)) else (none)) else (none)) else (none)) else (none))
def colophonref10_Common.l0 : Nat → List Int → Int → Int → Int → Option (Int)
  | 0, _, _, _, _ => none
  | k + 1, x0, x2, x7, x8 => if x8 < (x0.length : Int) then (colophonref10_Common.j2 k x0 x2 x7 x8 (decide ((wrap64 (x2 + x7)) < (x0.length : Int)))) else (colophonref10_Common.j2 k x0 x2 x7 x8 false)
def colophonref10_Common.j2 : Nat → List Int → Int → Int → Int → Bool → Option (Int)
  | 0, _, _, _, _, _ => none
  | k + 1, x0, x2, x7, x8, x49 => if x49 = true then (if 0 ≤ x8 then (if x8 < (x0.length : Int) then (if 0 ≤ (wrap64 (x2 + x7)) then (if (wrap64 (x2 + x7)) < (x0.length : Int) then (if (rd x0 x8) = (rd x0 (wrap64 (x2 + x7))) then (colophonref10_Common.l0 k x0 x2 (wrap64 (x7 + 1)) (wrap64 (x8 + 1))) else (some x7)) else (none)) else (none)) else (none)) else (none)) else (some x7)
end
def colophonref10_Common.f (k : Nat) (l0 : List Int) (a1 : Int) (a2 : Int) : Option (Int) := if a1 < 0 then (colophonref10_Common.j0 k l0 a1 a2 true) else (if a2 < 0 then (colophonref10_Common.j0 k l0 a1 a2 true) else (if a1 ≥ (l0.length : Int) then (colophonref10_Common.j0 k l0 a1 a2 true) else (colophonref10_Common.j0 k l0 a1 a2 (decide (a2 ≥ (l0.length : Int))))))
theorem colophonref10_Common.mono_l : ∀ k, (∀ y0 y1 y2 y3, LeO (colophonref10_Common.j0 k y0 y1 y2 y3) (colophonref10_Common.j0 (k + 1) y0 y1 y2 y3)) ∧ (∀ y0 y1 y2 y3, LeO (colophonref10_Common.l0 k y0 y1 y2 y3) (colophonref10_Common.l0 (k + 1) y0 y1 y2 y3)) ∧ (∀ y0 y1 y2 y3 y4, LeO (colophonref10_Common.j2 k y0 y1 y2 y3 y4) (colophonref10_Common.j2 (k + 1) y0 y1 y2 y3 y4))
  | 0 => ⟨fun _ _ _ _ r h => by simp [colophonref10_Common.j0] at h, fun _ _ _ _ r h => by simp [colophonref10_Common.l0] at h, fun _ _ _ _ _ r h => by simp [colophonref10_Common.j2] at h⟩
  | k + 1 => by
    obtain ⟨ih0, ih1, ih2⟩ := colophonref10_Common.mono_l k
    refine ⟨?_, ?_, ?_⟩
    · intro y0 y1 y2 y3
      unfold colophonref10_Common.j0
      repeat' first
      | (with_reducible exact ih0 _ _ _ _)
      | (with_reducible exact ih1 _ _ _ _)
      | (with_reducible exact ih2 _ _ _ _ _)
      | (with_reducible exact LeO.refl _)
      | (with_reducible exact LeO.none _)
      | (with_reducible refine LeO.ite ?_ ?_)
      | (with_reducible refine LeO.bind ?_ (fun _ => ?_))
      | exact ih0 _ _ _ _
      | exact ih1 _ _ _ _
      | exact ih2 _ _ _ _ _
      | exact LeO.none _
      | refine LeO.ite ?_ ?_
      | refine LeO.bind ?_ (fun _ => ?_)
    · intro y0 y1 y2 y3
      unfold colophonref10_Common.l0
      repeat' first
      | (with_reducible exact ih0 _ _ _ _)
      | (with_reducible exact ih1 _ _ _ _)
      | (with_reducible exact ih2 _ _ _ _ _)
      | (with_reducible exact LeO.refl _)
      | (with_reducible exact LeO.none _)
      | (with_reducible refine LeO.ite ?_ ?_)
      | (with_reducible refine LeO.bind ?_ (fun _ => ?_))
      | exact ih0 _ _ _ _
      | exact ih1 _ _ _ _
      | exact ih2 _ _ _ _ _
      | exact LeO.none _
      | refine LeO.ite ?_ ?_
      | refine LeO.bind ?_ (fun _ => ?_)
    · intro y0 y1 y2 y3 y4
      unfold colophonref10_Common.j2
      repeat' first
      | (with_reducible exact ih0 _ _ _ _)
      | (with_reducible exact ih1 _ _ _ _)
      | (with_reducible exact ih2 _ _ _ _ _)
      | (with_reducible exact LeO.refl _)
      | (with_reducible exact LeO.none _)
      | (with_reducible refine LeO.ite ?_ ?_)
      | (with_reducible refine LeO.bind ?_ (fun _ => ?_))
      | exact ih0 _ _ _ _
      | exact ih1 _ _ _ _
      | exact ih2 _ _ _ _ _
      | exact LeO.none _
      | refine LeO.ite ?_ ?_
      | refine LeO.bind ?_ (fun _ => ?_)
theorem colophonref10_Common.mono : ∀ a0 a1 a2 k, LeO (colophonref10_Common.f k a0 a1 a2) (colophonref10_Common.f (k + 1) a0 a1 a2) := by
  intro a0 a1 a2 k
  obtain ⟨ih0, ih1, ih2⟩ := colophonref10_Common.mono_l k
  unfold colophonref10_Common.f
  repeat' first
      | (with_reducible exact ih0 _ _ _ _)
      | (with_reducible exact ih1 _ _ _ _)
      | (with_reducible exact ih2 _ _ _ _ _)
      | (with_reducible exact LeO.refl _)
      | (with_reducible exact LeO.none _)
      | (with_reducible refine LeO.ite ?_ ?_)
      | (with_reducible refine LeO.bind ?_ (fun _ => ?_))
      | exact ih0 _ _ _ _
      | exact ih1 _ _ _ _
      | exact ih2 _ _ _ _ _
      | exact LeO.none _
      | refine LeO.ite ?_ ?_
      | refine LeO.bind ?_ (fun _ => ?_)
set_option maxHeartbeats 8000000 in
set_option maxRecDepth 100000 in
theorem colophonref10_Common.calls (k : Nat) (A0 : Option Addr) (c0 : Nat) (l0 : List Int) (a1 : Int) (a2 : Int) (r : Int) (w : World) (hr0 : Kd.C (Kd.int .i64) w A0 l0.length l0) (hc0 : l0.length ≤ c0) (h : colophonref10_Common.f k l0 a1 a2 = some r) :
    Calls Try.prog 21 #[.slice A0 l0.length c0, .int .i64 a1, .int .i64 a2] w fun e w' => e = .returned (.int .i64 r) ∧ Drawn0 w w' := by
  have HR0 := Aside0.mk hr0
  have HC0 := Aside0.mk hc0
  clear hr0 hc0
  have H : (if a1 < 0 then (colophonref10_Common.j0 k l0 a1 a2 true) else (if a2 < 0 then (colophonref10_Common.j0 k l0 a1 a2 true) else (if a1 ≥ (l0.length : Int) then (colophonref10_Common.j0 k l0 a1 a2 true) else (colophonref10_Common.j0 k l0 a1 a2 (decide (a2 ≥ (l0.length : Int))))))) = some r := h
  clear h
  have HC4 := Aside0.mk H
  clear H
  go_enter Try.func21, Try.ntmps21
  go_upto_region 1 with (fail)
  repeat (go_quiet (fail); go_upto_region 1 with (fail))
  go_cut [26] (fun v26 wc => ∃ (kq : Nat) (x26_3 : Bool), v26 = .bool x26_3 ∧ Aside0 (colophonref10_Common.j0 kq l0 a1 a2 x26_3 = some r) ∧ Aside0 (kq ≤ k) ∧ Drawn0 w wc)
  case first =>
    have H := HC4.out
    clear HC4
    by_cases c5 : a1 < 0
    · rw [if_pos c5] at H
      have c5b0 : decide (a1 < 0) = true := decide_eq_true c5
      clear c5
      (first | rw [c5b0] | (simp only [i64_w, i32_w]; rw [c5b0]) | skip)
      have H' := Aside0.mk H
      clear H
      go_wp2
      repeat (go_quiet (fail); try go_wp2)
      go_meet
      case rel => exact ⟨_, (true), (by first | rfl | (simp; done) | (simp [*]; done)), H', ⟨by first | omega | exact Nat.le_refl _⟩, by repeat (first | exact Drawn0.refl _ | apply Drawn0.step)⟩
    · rw [if_neg c5] at H
      have c5b0 : decide (a1 < 0) = false := decide_eq_false c5
      clear c5
      (first | rw [c5b0] | (simp only [i64_w, i32_w]; rw [c5b0]) | skip)
      by_cases c6 : a2 < 0
      · rw [if_pos c6] at H
        have c6b0 : decide (a2 < 0) = true := decide_eq_true c6
        clear c6
        have H' := Aside0.mk H
        clear H
        go_wp2
        repeat (go_quiet (fail); try go_wp2)
        go_meet
        case rel => exact ⟨_, (true), (by first | rfl | (simp; done) | (simp [*]; done)), H', ⟨by first | omega | exact Nat.le_refl _⟩, by repeat (first | exact Drawn0.refl _ | apply Drawn0.step)⟩
      · rw [if_neg c6] at H
        have c6b0 : decide (a2 < 0) = false := decide_eq_false c6
        clear c6
        by_cases c7 : a1 ≥ (l0.length : Int)
        · rw [if_pos c7] at H
          have c7b0 : decide ((l0.length : Int) ≤ a1) = true := decide_eq_true c7
          clear c7
          have H' := Aside0.mk H
          clear H
          go_wp2
          repeat (go_quiet (fail); try go_wp2)
          go_meet
          case rel => exact ⟨_, (true), (by first | rfl | (simp; done) | (simp [*]; done)), H', ⟨by first | omega | exact Nat.le_refl _⟩, by repeat (first | exact Drawn0.refl _ | apply Drawn0.step)⟩
        · rw [if_neg c7] at H
          have c7b0 : decide ((l0.length : Int) ≤ a1) = false := decide_eq_false c7
          clear c7
          have H' := Aside0.mk H
          clear H
          go_wp2
          repeat (go_quiet (fail); try go_wp2)
          go_meet
          case rel => exact ⟨_, (decide (a2 ≥ (l0.length : Int))), (by first | rfl | (simp; done) | (simp [*]; done)), H', ⟨by first | omega | exact Nat.le_refl _⟩, by repeat (first | exact Drawn0.refl _ | apply Drawn0.step)⟩
  case rest =>
    clear HC4
    try clear c2
    try clear p2
    try clear c5
    try clear c5b0
    try clear c6
    try clear c6b0
    try clear c7
    try clear c7b0
    obtain ⟨kq, x26_3, rfl, HA, HJ3, ⟨mc3, rfl⟩⟩ := hcut
    cases kq with
    | zero => exact absurd HA.out (by simp [colophonref10_Common.j0])
    | succ kj3 =>
      have H := HA.out
      clear HA
      simp only [colophonref10_Common.j0] at H
      by_cases c8 : x26_3 = true
      · subst c8
        have H1 : (some 0) = some r := by rw [if_pos rfl] at H; exact H
        clear H
        have H := H1
        clear H1
        obtain rfl := Option.some.inj H
        go_wp2
        repeat (go_quiet (fail); try go_wp2)
        go_ret
        exact ⟨by first | rfl | (simp; done) | (simp [*]; done), by repeat (first | exact Drawn0.refl _ | apply Drawn0.step)⟩
      · replace c8 := Bool.eq_false_iff.mpr c8
        subst c8
        have H1 : (if 0 ≤ a1 then (if a1 < (l0.length : Int) then (if 0 ≤ a2 then (if a2 < (l0.length : Int) then (if (rd l0 a1) = (rd l0 a2) then (colophonref10_Common.l0 kj3 l0 a2 1 (wrap64 (a1 + 1))) else (some 0)) else (none)) else (none)) else (none)) else (none)) = some r := by rw [if_neg (show ¬ (false = true) by decide)] at H; exact H
        clear H
        have H := H1
        clear H1
        by_cases c9 : 0 ≤ a1
        · rw [if_pos c9] at H
          have c9b0 : decide (0 ≤ a1) = true := decide_eq_true c9
          clear c9
          by_cases c10 : a1 < (l0.length : Int)
          · rw [if_pos c10] at H
            have c10b0 : decide (a1 < (l0.length : Int)) = true := decide_eq_true c10
            clear c10
            by_cases c11 : 0 ≤ a2
            · rw [if_pos c11] at H
              have c11b0 : decide (0 ≤ a2) = true := decide_eq_true c11
              clear c11
              by_cases c12 : a2 < (l0.length : Int)
              · rw [if_pos c12] at H
                have c12b0 : decide (a2 < (l0.length : Int)) = true := decide_eq_true c12
                clear c12
                by_cases c13 : (rd l0 a1) = (rd l0 a2)
                · rw [if_pos c13] at H
                  have c13b0 : ((rd l0 a1) == (rd l0 a2)) = true := beq_iff_eq.mpr c13
                  have c13b1 : ((rd l0 a1) != (rd l0 a2)) = false := bne_eq_false_iff_eq.mpr c13
                  clear c13
                  have H' := Aside0.mk H
                  clear H
                  have p168 : 0 ≤ (a1 : Int) := of_decide_eq_true (by first | (with_reducible assumption) | assumption)
                  have q168 : a1 < (l0.length : Int) := of_decide_eq_true (by first | (with_reducible assumption) | assumption)
                  obtain ⟨ad168, e168, hx168_0⟩ := Kd.at_int HR0.out a1 p168 q168
                  cases e168
                  replace p168 := eq_true p168
                  replace q168 := eq_true q168
                  have p169 : 0 ≤ (a2 : Int) := of_decide_eq_true (by first | (with_reducible assumption) | assumption)
                  have q169 : a2 < (l0.length : Int) := of_decide_eq_true (by first | (with_reducible assumption) | assumption)
                  obtain ⟨ad169, e169, hx169_0⟩ := Kd.at_int HR0.out a2 p169 q169
                  obtain rfl : ad168 = ad169 := (by injection e169)
                  replace p169 := eq_true p169
                  replace q169 := eq_true q169
                  go_wp2
                  repeat (go_quiet (fail); try go_wp2)
                  go_loopg [7, 8] kj3 (fun kq v7 v8 w' => ∃ (x7_2 : Int) (x8_2 : Int), v7 = .int .i64 x7_2 ∧ v8 = .int .i64 x8_2 ∧ Aside0 (colophonref10_Common.l0 kq l0 a2 x7_2 x8_2 = some r) ∧ Aside0 (kq ≤ kj3) ∧ Drawn0 w w')
                  case atStart => exact ⟨(1), (wrap64 (a1 + 1)), (by first | rfl | (simp; done) | (simp [*]; done)), (by first | rfl | (simp; done) | (simp [*]; done)), H', ⟨Nat.le_refl _⟩, by repeat (first | exact Drawn0.refl _ | apply Drawn0.step)⟩
                  case round =>
                    clear H'
                    try clear c1
                    try clear p1
                    try clear q1
                    try clear hx1
                    try clear c2
                    try clear p2
                    try clear c3
                    try clear c5
                    try clear c5b0
                    try clear c6
                    try clear c6b0
                    try clear p6
                    try clear c7
                    try clear c7b0
                    try clear c8
                    try clear c9
                    try clear c9b0
                    try clear c10
                    try clear c10b0
                    try clear c11
                    try clear c11b0
                    try clear c12
                    try clear c12b0
                    try clear c13
                    try clear c13b0
                    try clear c13b1
                    try clear hx168_0
                    try clear hx169_0
                    try clear p168
                    try clear p169
                    try clear p2
                    try clear q168
                    try clear q169
                    obtain ⟨x7_2, x8_2, rfl, rfl, HA, HK2, ⟨m2, rfl⟩⟩ := hrel
                    cases gk with
                    | zero => exact absurd HA.out (by simp [colophonref10_Common.l0])
                    | succ k2 =>
                      have H := HA.out
                      clear HA
                      simp only [colophonref10_Common.l0] at H
                      have HC14 := Aside0.mk H
                      clear H
                      go_upto_region 7 with (fail)
                      repeat (go_quiet (fail); go_upto_region 7 with (fail))
                      go_cut [49] (fun v49 wc => ∃ (kq : Nat) (x49_13 : Bool), v49 = .bool x49_13 ∧ Aside0 (colophonref10_Common.j2 kq l0 a2 x7_2 x8_2 x49_13 = some r) ∧ Aside0 (kq ≤ k2) ∧ Drawn0 w wc)
                      case first =>
                        have H := HC14.out
                        clear HC14
                        by_cases c15 : x8_2 < (l0.length : Int)
                        · rw [if_pos c15] at H
                          have c15b0 : decide (x8_2 < (l0.length : Int)) = true := decide_eq_true c15
                          clear c15
                          (first | rw [c15b0] | (simp only [i64_w, i32_w]; rw [c15b0]) | skip)
                          have H' := Aside0.mk H
                          clear H
                          go_wp2
                          repeat (go_quiet (fail); try go_wp2)
                          go_meet
                          case rel => exact ⟨_, (decide ((wrap64 (a2 + x7_2)) < (l0.length : Int))), (by first | rfl | (simp; done) | (simp [*]; done)), H', ⟨by have := HJ3.out; have := HK2.out; first | omega | exact Nat.le_refl _⟩, by repeat (first | exact Drawn0.refl _ | apply Drawn0.step)⟩
                        · rw [if_neg c15] at H
                          have c15b0 : decide (x8_2 < (l0.length : Int)) = false := decide_eq_false c15
                          clear c15
                          (first | rw [c15b0] | (simp only [i64_w, i32_w]; rw [c15b0]) | skip)
                          have H' := Aside0.mk H
                          clear H
                          go_wp2
                          repeat (go_quiet (fail); try go_wp2)
                          go_meet
                          case rel => exact ⟨_, (false), (by first | rfl | (simp; done) | (simp [*]; done)), H', ⟨by have := HJ3.out; have := HK2.out; first | omega | exact Nat.le_refl _⟩, by repeat (first | exact Drawn0.refl _ | apply Drawn0.step)⟩
                      case rest =>
                        clear HC14
                        try clear c1
                        try clear p1
                        try clear q1
                        try clear hx1
                        try clear c2
                        try clear p2
                        try clear c3
                        try clear c5
                        try clear c5b0
                        try clear c6
                        try clear c6b0
                        try clear p6
                        try clear c7
                        try clear c7b0
                        try clear c8
                        try clear c9
                        try clear c9b0
                        try clear c10
                        try clear c10b0
                        try clear c11
                        try clear c11b0
                        try clear c12
                        try clear c12b0
                        try clear c13
                        try clear c13b0
                        try clear c13b1
                        try clear c15
                        try clear c15b0
                        try clear hx168_0
                        try clear hx169_0
                        try clear p1
                        try clear p168
                        try clear p169
                        try clear p2
                        try clear p6
                        try clear q1
                        try clear q168
                        try clear q169
                        obtain ⟨kq, x49_13, rfl, HA, HJ13, ⟨mc13, rfl⟩⟩ := hcut
                        cases kq with
                        | zero => exact absurd HA.out (by simp [colophonref10_Common.j2])
                        | succ kj13 =>
                          have H := HA.out
                          clear HA
                          simp only [colophonref10_Common.j2] at H
                          by_cases c16 : x49_13 = true
                          · subst c16
                            have H1 : (if 0 ≤ x8_2 then (if x8_2 < (l0.length : Int) then (if 0 ≤ (wrap64 (a2 + x7_2)) then (if (wrap64 (a2 + x7_2)) < (l0.length : Int) then (if (rd l0 x8_2) = (rd l0 (wrap64 (a2 + x7_2))) then (colophonref10_Common.l0 kj13 l0 a2 (wrap64 (x7_2 + 1)) (wrap64 (x8_2 + 1))) else (some x7_2)) else (none)) else (none)) else (none)) else (none)) = some r := by rw [if_pos rfl] at H; exact H
                            clear H
                            have H := H1
                            clear H1
                            by_cases c17 : 0 ≤ x8_2
                            · rw [if_pos c17] at H
                              have c17b0 : decide (0 ≤ x8_2) = true := decide_eq_true c17
                              clear c17
                              by_cases c18 : x8_2 < (l0.length : Int)
                              · rw [if_pos c18] at H
                                have c18b0 : decide (x8_2 < (l0.length : Int)) = true := decide_eq_true c18
                                clear c18
                                obtain ⟨ji19, hji19⟩ : ∃ j_ : Int, (wrap64 (a2 + x7_2)) = j_ := ⟨_, rfl⟩
                                replace H : (if 0 ≤ (ji19) then (if (ji19) < (l0.length : Int) then (if (rd l0 x8_2) = (rd l0 (ji19)) then (colophonref10_Common.l0 kj13 l0 a2 (wrap64 (x7_2 + 1)) (wrap64 (x8_2 + 1))) else (some x7_2)) else (none)) else (none)) = some r := by first | (rw [hji19] at H; exact H) | (simp only [hji19] at H ⊢; exact H)
                                have hji19w : (IntKind.i64.wrap (a2 + x7_2)) = ji19 := (i64_w _).trans hji19
                                by_cases c20 : 0 ≤ (ji19)
                                · rw [if_pos c20] at H
                                  have c20b0 : decide (0 ≤ (ji19)) = true := decide_eq_true c20
                                  clear c20
                                  by_cases c21 : (ji19) < (l0.length : Int)
                                  · rw [if_pos c21] at H
                                    have c21b0 : decide ((ji19) < (l0.length : Int)) = true := decide_eq_true c21
                                    clear c21
                                    by_cases c22 : (rd l0 x8_2) = (rd l0 (ji19))
                                    · rw [if_pos c22] at H
                                      have c22b0 : ((rd l0 x8_2) == (rd l0 (ji19))) = true := beq_iff_eq.mpr c22
                                      have c22b1 : ((rd l0 x8_2) != (rd l0 (ji19))) = false := bne_eq_false_iff_eq.mpr c22
                                      clear c22
                                      have H' := Aside0.mk H
                                      clear H
                                      have p170 : 0 ≤ (x8_2 : Int) := of_decide_eq_true (by first | (with_reducible assumption) | assumption)
                                      have q170 : x8_2 < (l0.length : Int) := of_decide_eq_true (by first | (with_reducible assumption) | assumption)
                                      obtain ⟨ad170, e170, hx170_0⟩ := Kd.at_int HR0.out x8_2 p170 q170
                                      obtain rfl : ad168 = ad170 := (by injection e170)
                                      replace p170 := eq_true p170
                                      replace q170 := eq_true q170
                                      have p171 : 0 ≤ ((ji19) : Int) := of_decide_eq_true (by first | (with_reducible assumption) | assumption)
                                      have q171 : (ji19) < (l0.length : Int) := of_decide_eq_true (by first | (with_reducible assumption) | assumption)
                                      obtain ⟨ad171, e171, hx171_0⟩ := Kd.at_int HR0.out (ji19) p171 q171
                                      obtain rfl : ad168 = ad171 := (by injection e171)
                                      replace p171 := eq_true p171
                                      replace q171 := eq_true q171
                                      go_wp2
                                      repeat (go_quiet (fail); try go_wp2)
                                      go_roundg kj13
                                      case measure => have := HJ3.out; have := HK2.out; have := HJ13.out; omega
                                      case rel => exact ⟨(wrap64 (x7_2 + 1)), (wrap64 (x8_2 + 1)), (by first | rfl | (simp; done) | (simp [*]; done)), (by first | rfl | (simp; done) | (simp [*]; done)), H', ⟨by have := HJ3.out; have := HK2.out; have := HJ13.out; omega⟩, by repeat (first | exact Drawn0.refl _ | apply Drawn0.step)⟩
                                    · rw [if_neg c22] at H
                                      have c22b0 : ((rd l0 x8_2) == (rd l0 (ji19))) = false := beq_eq_false_iff_ne.mpr c22
                                      have c22b1 : ((rd l0 x8_2) != (rd l0 (ji19))) = true := bne_iff_ne.mpr c22
                                      obtain rfl := Option.some.inj H
                                      have p170 : 0 ≤ (x8_2 : Int) := of_decide_eq_true (by first | (with_reducible assumption) | assumption)
                                      have q170 : x8_2 < (l0.length : Int) := of_decide_eq_true (by first | (with_reducible assumption) | assumption)
                                      obtain ⟨ad170, e170, hx170_0⟩ := Kd.at_int HR0.out x8_2 p170 q170
                                      obtain rfl : ad168 = ad170 := (by injection e170)
                                      replace p170 := eq_true p170
                                      replace q170 := eq_true q170
                                      have p171 : 0 ≤ ((ji19) : Int) := of_decide_eq_true (by first | (with_reducible assumption) | assumption)
                                      have q171 : (ji19) < (l0.length : Int) := of_decide_eq_true (by first | (with_reducible assumption) | assumption)
                                      obtain ⟨ad171, e171, hx171_0⟩ := Kd.at_int HR0.out (ji19) p171 q171
                                      obtain rfl : ad168 = ad171 := (by injection e171)
                                      replace p171 := eq_true p171
                                      replace q171 := eq_true q171
                                      go_wp2
                                      repeat (go_quiet (fail); try go_wp2)
                                      go_ret
                                      exact ⟨by first | rfl | (simp; done) | (simp only [← hji19] <;> (first | rfl | simp)) | (simp [*]; done), by repeat (first | exact Drawn0.refl _ | apply Drawn0.step)⟩
                                  · rw [if_neg c21] at H
                                    exact absurd H (by simp)
                                · rw [if_neg c20] at H
                                  exact absurd H (by simp)
                              · rw [if_neg c18] at H
                                exact absurd H (by simp)
                            · rw [if_neg c17] at H
                              exact absurd H (by simp)
                          · replace c16 := Bool.eq_false_iff.mpr c16
                            subst c16
                            have H1 : (some x7_2) = some r := by rw [if_neg (show ¬ (false = true) by decide)] at H; exact H
                            clear H
                            have H := H1
                            clear H1
                            obtain rfl := Option.some.inj H
                            go_wp2
                            repeat (go_quiet (fail); try go_wp2)
                            go_ret
                            exact ⟨by first | rfl | (simp; done) | (simp [*]; done), by repeat (first | exact Drawn0.refl _ | apply Drawn0.step)⟩
                · rw [if_neg c13] at H
                  have c13b0 : ((rd l0 a1) == (rd l0 a2)) = false := beq_eq_false_iff_ne.mpr c13
                  have c13b1 : ((rd l0 a1) != (rd l0 a2)) = true := bne_iff_ne.mpr c13
                  obtain rfl := Option.some.inj H
                  have p168 : 0 ≤ (a1 : Int) := of_decide_eq_true (by first | (with_reducible assumption) | assumption)
                  have q168 : a1 < (l0.length : Int) := of_decide_eq_true (by first | (with_reducible assumption) | assumption)
                  obtain ⟨ad168, e168, hx168_0⟩ := Kd.at_int HR0.out a1 p168 q168
                  cases e168
                  replace p168 := eq_true p168
                  replace q168 := eq_true q168
                  have p169 : 0 ≤ (a2 : Int) := of_decide_eq_true (by first | (with_reducible assumption) | assumption)
                  have q169 : a2 < (l0.length : Int) := of_decide_eq_true (by first | (with_reducible assumption) | assumption)
                  obtain ⟨ad169, e169, hx169_0⟩ := Kd.at_int HR0.out a2 p169 q169
                  obtain rfl : ad168 = ad169 := (by injection e169)
                  replace p169 := eq_true p169
                  replace q169 := eq_true q169
                  go_wp2
                  repeat (go_quiet (fail); try go_wp2)
                  go_ret
                  exact ⟨by first | rfl | (simp; done) | (simp [*]; done), by repeat (first | exact Drawn0.refl _ | apply Drawn0.step)⟩
              · rw [if_neg c12] at H
                exact absurd H (by simp)
            · rw [if_neg c11] at H
              exact absurd H (by simp)
          · rw [if_neg c10] at H
            exact absurd H (by simp)
        · rw [if_neg c9] at H
          exact absurd H (by simp)

/-! ### colophonref10_Array: function 18 -/
def colophonref10_Array.l0 : Nat → List Int → List Int → List Int → List Int → Int → Int → Option (List Int)
  | 0, _, _, _, _, _, _ => none
  | k + 1, x0, x1, x5, x8, x9, x10 => if x10 < x9 then (if 0 ≤ x10 then (if x10 < (x8.length : Int) then (if x10 = 0 then (if x5.length < 17592186044416 then (colophonref10_Array.l0 k x0 x1 (x5 ++ [0]) x8 x9 (wrap64 (x10 + 1))) else (none)) else (if 0 ≤ (wrap64 (x10 - 1)) then (if (wrap64 (x10 - 1)) < (x1.length : Int) then ((colophonref10_Common.f k x0 (rd x1 (wrap64 (x10 - 1))) (rd x8 x10)).bind fun t177 => (if x5.length < 17592186044416 then (colophonref10_Array.l0 k x0 x1 (x5 ++ [t177]) x8 x9 (wrap64 (x10 + 1))) else (none))) else (none)) else (none))) else (none)) else (none)) else (some x5)
def colophonref10_Array.f (k : Nat) (l0 : List Int) (l1 : List Int) : Option (List Int) := colophonref10_Array.l0 k l0 l1 ([] : List Int) l1 (l1.length : Int) 0
theorem colophonref10_Array.mono_l : ∀ k, (∀ y0 y1 y2 y3 y4 y5, LeO (colophonref10_Array.l0 k y0 y1 y2 y3 y4 y5) (colophonref10_Array.l0 (k + 1) y0 y1 y2 y3 y4 y5))
  | 0 => fun _ _ _ _ _ _ r h => by simp [colophonref10_Array.l0] at h
  | k + 1 => by
    have ih0 := colophonref10_Array.mono_l k
    · intro y0 y1 y2 y3 y4 y5
      unfold colophonref10_Array.l0
      repeat' first
      | (with_reducible exact ih0 _ _ _ _ _ _)
      | (with_reducible exact colophonref10_Common.mono _ _ _ _)
      | (with_reducible exact LeO.refl _)
      | (with_reducible exact LeO.none _)
      | (with_reducible refine LeO.ite ?_ ?_)
      | (with_reducible refine LeO.bind ?_ (fun _ => ?_))
      | exact ih0 _ _ _ _ _ _
      | exact colophonref10_Common.mono _ _ _ _
      | exact LeO.none _
      | refine LeO.ite ?_ ?_
      | refine LeO.bind ?_ (fun _ => ?_)
theorem colophonref10_Array.mono : ∀ a0 a1 k, LeO (colophonref10_Array.f k a0 a1) (colophonref10_Array.f (k + 1) a0 a1) := by
  intro a0 a1 k
  have ih0 := colophonref10_Array.mono_l k
  unfold colophonref10_Array.f
  repeat' first
      | (with_reducible exact ih0 _ _ _ _ _ _)
      | (with_reducible exact colophonref10_Common.mono _ _ _ _)
      | (with_reducible exact LeO.refl _)
      | (with_reducible exact LeO.none _)
      | (with_reducible refine LeO.ite ?_ ?_)
      | (with_reducible refine LeO.bind ?_ (fun _ => ?_))
      | exact ih0 _ _ _ _ _ _
      | exact colophonref10_Common.mono _ _ _ _
      | exact LeO.none _
      | refine LeO.ite ?_ ?_
      | refine LeO.bind ?_ (fun _ => ?_)
set_option maxHeartbeats 8000000 in
set_option maxRecDepth 100000 in
theorem colophonref10_Array.calls (k : Nat) (A0 : Option Addr) (c0 : Nat) (l0 : List Int) (A1 : Option Addr) (c1 : Nat) (l1 : List Int) (r : List Int) (w : World) (hr0 : Kd.C (Kd.int .i64) w A0 l0.length l0) (hc0 : l0.length ≤ c0) (hr1 : Kd.C (Kd.int .i64) w A1 l1.length l1) (hc1 : l1.length ≤ c1) (h : colophonref10_Array.f k l0 l1 = some r) :
    Calls Try.prog 18 #[.slice A0 l0.length c0, .slice A1 l1.length c1] w fun e w' => ∃ v0_ : Value, e = .returned (v0_) ∧ Kd.R (Kd.int .i64) 3 w' w.heap.size (fun _ => True) v0_ r ∧ Below w.heap.size w w' := by
  have HR0 := Aside0.mk hr0
  have HC0 := Aside0.mk hc0
  clear hr0 hc0
  have HR1 := Aside0.mk hr1
  have HC1 := Aside0.mk hc1
  clear hr1 hc1
  have HB := Aside0.mk (Below.refl w.heap.size w)
  have H : (colophonref10_Array.l0 k l0 l1 ([] : List Int) l1 (l1.length : Int) 0) = some r := h
  clear h
  have H' := Aside0.mk H
  clear H
  go_enter Try.func18, Try.ntmps18
  go_wp2
  go_loopg [5, 10] k (fun kq v5 v10 w' => ∃ (x5_1 : List Int) (x10_1 : Int), v10 = .int .i64 x10_1 ∧ Aside0 (colophonref10_Array.l0 kq l0 l1 x5_1 l1 (l1.length : Int) x10_1 = some r) ∧ Aside0 (kq ≤ k) ∧ Aside0 (Kd.R (Kd.int .i64) 3 w' w.heap.size (fun _ => True) v5 x5_1) ∧ Aside0 (Below w.heap.size w w'))
  case atStart => exact ⟨(([] : List Int)), (0), (by first | rfl | (simp; done) | (simp [*]; done)), H', ⟨Nat.le_refl _⟩, ⟨by first | exact Kd.R_nil _ _ _ _ _ | exact Kd.N_nil _ _ _ _ _ | exact Kd.V_nil _ _ _ _ _ | exact Kd.Q_nil _ _ _ _ _ | exact Kd.S_nil _ _ _ _ _⟩, ⟨by repeat (first | (with_reducible first | exact HB.out | apply below_alloc | apply pw_below_drewN | apply below_drew1) | exact HB.out)⟩⟩
  case round =>
    clear H'
    try clear c1
    try clear p2
    obtain ⟨x5_1, x10_1, rfl, HA, HK1, HO_5, HB⟩ := hrel
    cases gk with
    | zero => exact absurd HA.out (by simp [colophonref10_Array.l0])
    | succ k1 =>
      have H := HA.out
      clear HA
      simp only [colophonref10_Array.l0] at H
      by_cases c3 : x10_1 < (l1.length : Int)
      · rw [if_pos c3] at H
        have c3b0 : decide (x10_1 < (l1.length : Int)) = true := decide_eq_true c3
        clear c3
        by_cases c4 : 0 ≤ x10_1
        · rw [if_pos c4] at H
          have c4b0 : decide (0 ≤ x10_1) = true := decide_eq_true c4
          clear c4
          by_cases c5 : x10_1 < (l1.length : Int)
          · rw [if_pos c5] at H
            have c5b0 : decide (x10_1 < (l1.length : Int)) = true := decide_eq_true c5
            clear c5
            by_cases c6 : x10_1 = 0
            · rw [if_pos c6] at H
              have c6b0 : (x10_1 == 0) = true := beq_iff_eq.mpr c6
              have c6b1 : (x10_1 != 0) = false := bne_eq_false_iff_eq.mpr c6
              clear c6
              by_cases c7 : x5_1.length < 17592186044416
              · rw [if_pos c7] at H
                have LMc7 := Aside0.mk c7
                clear c7
                obtain ⟨y173, hy173⟩ : ∃ y_ : List Int, y_ = (x5_1 ++ [0]) := ⟨_, rfl⟩
                replace H : (colophonref10_Array.l0 k1 l0 l1 y173 l1 (l1.length : Int) (wrap64 (x10_1 + 1))) = some r := by first | (rw [hy173]; with_reducible exact H) | (have H2_ := (Option.bind_some _ _).symm.trans H; rw [hy173]; with_reducible exact H2_) | (have H2_ := (Option.bind_some _ _).symm.trans H; with_reducible exact H2_) | with_reducible exact H | (rw [hy173]; exact H) | exact H
                have Ny173 := Aside0.mk hy173
                clear hy173
                have H' := Aside0.mk H
                clear H
                have p172 : 0 ≤ (x10_1 : Int) := of_decide_eq_true (by first | (with_reducible assumption) | assumption)
                have q172 : x10_1 < (l1.length : Int) := of_decide_eq_true (by first | (with_reducible assumption) | assumption)
                obtain ⟨ad172, e172, hx172_0⟩ := Kd.at_int HR1.out x10_1 p172 q172
                cases e172
                replace hx172_0 := (HB.out.cell (World.block_lt_of_cell? w _ hx172_0)).trans hx172_0
                replace p172 := eq_true p172
                replace q172 := eq_true q172
                go_wp2_with (first | ((with_reducible refine gate_builtin (b := .append) (xs := #[.tmp 17, .tmp 18]) rfl ?_); at_builtin; refine Kd.R_append (Kd.int .i64) (w0 := w) w.heap.size rfl (.tmp 17) (.tmp 18) 22 3 (.int .i64 0) 8 rfl Try.underlying22 info3 rfl (by decide) (by omega) u5 x5_1 0 [.int .i64 0] (fun _ => True) (fun _ => False) rfl rfl ?aP (fun _ hk => hk.elim) ?aF ?aO ?aB ?aS ?aL ?_; (case aP => exact rfl); (case aB => exact (by repeat (first | (with_reducible first | exact HB.out | apply below_alloc | apply pw_below_drewN | apply below_drew1) | exact HB.out))); (case aF => exact (fun _ _ => trivial)); (case aO => exact (by (with_reducible repeat (first | apply Kd.R_alloc | apply Kd.R_drewN | apply Kd.R_drew)); exact HO_5.out)); (case aS => exact (below_size (by repeat (first | (with_reducible first | exact HB.out | apply below_alloc | apply pw_below_drewN | apply below_drew1) | exact HB.out)))); (case aL => have := LMc7.out; omega); intro v174 w8 ho hb hg hat; rw [← Ny173.out] at ho; have n0_ := Aside0.mk (hb); have n1_ := Aside0.mk (ho); clear HB; clear HO_5; have HB := n0_; have HO175 := n1_; clear n0_ n1_; clear ho hb hg hat))
                go_roundg k1
                case measure => have := HK1.out; omega
                case rel => exact ⟨(y173), (wrap64 (x10_1 + 1)), (by first | rfl | (simp; done) | (simp [*]; done)), H', ⟨by have := HK1.out; omega⟩, ⟨by (with_reducible repeat (first | apply Kd.R_alloc | apply Kd.R_drewN | apply Kd.R_drew)); exact HO175.out⟩, ⟨by repeat (first | (with_reducible first | exact HB.out | apply below_alloc | apply pw_below_drewN | apply below_drew1) | exact HB.out)⟩⟩
              · rw [if_neg c7] at H
                exact absurd H (by simp)
            · rw [if_neg c6] at H
              have c6b0 : (x10_1 == 0) = false := beq_eq_false_iff_ne.mpr c6
              have c6b1 : (x10_1 != 0) = true := bne_iff_ne.mpr c6
              obtain ⟨ji9, hji9⟩ : ∃ j_ : Int, (wrap64 (x10_1 - 1)) = j_ := ⟨_, rfl⟩
              replace H : (if 0 ≤ (ji9) then (if (ji9) < (l1.length : Int) then ((colophonref10_Common.f k1 l0 (rd l1 (ji9)) (rd l1 x10_1)).bind fun t177 => (if x5_1.length < 17592186044416 then (colophonref10_Array.l0 k1 l0 l1 (x5_1 ++ [t177]) l1 (l1.length : Int) (wrap64 (x10_1 + 1))) else (none))) else (none)) else (none)) = some r := by first | (rw [hji9] at H; exact H) | (simp only [hji9] at H ⊢; exact H)
              have hji9w : (IntKind.i64.wrap (x10_1 - 1)) = ji9 := (i64_w _).trans hji9
              by_cases c10 : 0 ≤ (ji9)
              · rw [if_pos c10] at H
                have c10b0 : decide (0 ≤ (ji9)) = true := decide_eq_true c10
                clear c10
                by_cases c11 : (ji9) < (l1.length : Int)
                · rw [if_pos c11] at H
                  have c11b0 : decide ((ji9) < (l1.length : Int)) = true := decide_eq_true c11
                  clear c11
                  replace H := Option.bind_eq_some_iff.mp H
                  obtain ⟨t177, A120, H⟩ := H
                  replace H : (if x5_1.length < 17592186044416 then (colophonref10_Array.l0 k1 l0 l1 (x5_1 ++ [t177]) l1 (l1.length : Int) (wrap64 (x10_1 + 1))) else (none)) = some r := H
                  have A12 := Aside0.mk A120
                  clear A120
                  by_cases c13 : x5_1.length < 17592186044416
                  · rw [if_pos c13] at H
                    have LMc13 := Aside0.mk c13
                    clear c13
                    obtain ⟨y178, hy178⟩ : ∃ y_ : List Int, y_ = (x5_1 ++ [t177]) := ⟨_, rfl⟩
                    replace H : (colophonref10_Array.l0 k1 l0 l1 y178 l1 (l1.length : Int) (wrap64 (x10_1 + 1))) = some r := by first | (rw [hy178]; with_reducible exact H) | (have H2_ := (Option.bind_some _ _).symm.trans H; rw [hy178]; with_reducible exact H2_) | (have H2_ := (Option.bind_some _ _).symm.trans H; with_reducible exact H2_) | with_reducible exact H | (rw [hy178]; exact H) | exact H
                    have Ny178 := Aside0.mk hy178
                    clear hy178
                    have H' := Aside0.mk H
                    clear H
                    have p172 : 0 ≤ (x10_1 : Int) := of_decide_eq_true (by first | (with_reducible assumption) | assumption)
                    have q172 : x10_1 < (l1.length : Int) := of_decide_eq_true (by first | (with_reducible assumption) | assumption)
                    obtain ⟨ad172, e172, hx172_0⟩ := Kd.at_int HR1.out x10_1 p172 q172
                    cases e172
                    replace hx172_0 := (HB.out.cell (World.block_lt_of_cell? w _ hx172_0)).trans hx172_0
                    replace p172 := eq_true p172
                    replace q172 := eq_true q172
                    have p176 : 0 ≤ ((ji9) : Int) := of_decide_eq_true (by first | (with_reducible assumption) | assumption)
                    have q176 : (ji9) < (l1.length : Int) := of_decide_eq_true (by first | (with_reducible assumption) | assumption)
                    obtain ⟨ad176, e176, hx176_0⟩ := Kd.at_int HR1.out (ji9) p176 q176
                    obtain rfl : ad172 = ad176 := (by injection e176)
                    replace hx176_0 := (HB.out.cell (World.block_lt_of_cell? w _ hx176_0)).trans hx176_0
                    replace p176 := eq_true p176
                    replace q176 := eq_true q176
                    go_wp2_with (first | ((with_reducible refine gate_callee (f := 21) rfl ?_); refine goesL_ (some 28) rfl rfl Try.func21 (by kernel_rfl) rfl #[.slice A0 l0.length c0, .int .i64 (rd l1 (ji9)), .int .i64 (rd l1 x10_1)] rfl (by (try simp only [List.map_toArray, List.map_cons, List.map_nil]); first | done | (simp only [hji9]; rfl) | rfl | (simp only [List.length_drop, List.length_take]; rfl)) ?_; (with_reducible refine (colophonref10_Common.calls k1 _ _ l0 (rd l1 (ji9)) (rd l1 x10_1) t177 _ ?side1 ?side2 A12.out).mono ?_); (case side1 => repeat (first | exact (Kd.C_below HR0.out HB.out) | (with_reducible refine Kd.C_alloc ?_ _) | (with_reducible refine Kd.C_drewN ?_ _) | (with_reducible refine Kd.C_drew ?_))); (case side2 => exact HC0.out); rintro e w' ⟨rfl, ⟨nd, rfl⟩⟩; refine ⟨_, rfl, ?_⟩) | ((with_reducible refine gate_builtin (b := .append) (xs := #[.tmp 20, .tmp 29]) rfl ?_); at_builtin; refine Kd.R_append (Kd.int .i64) (w0 := w) w.heap.size rfl (.tmp 20) (.tmp 29) 22 3 (.int .i64 0) 8 rfl Try.underlying22 info3 rfl (by decide) (by omega) u5 x5_1 t177 [.int .i64 t177] (fun _ => True) (fun _ => False) rfl rfl ?aP (fun _ hk => hk.elim) ?aF ?aO ?aB ?aS ?aL ?_; (case aP => exact rfl); (case aB => exact (by repeat (first | (with_reducible first | exact HB.out | apply below_alloc | apply pw_below_drewN | apply below_drew1) | exact HB.out))); (case aF => exact (fun _ _ => trivial)); (case aO => exact (by (with_reducible repeat (first | apply Kd.R_alloc | apply Kd.R_drewN | apply Kd.R_drew)); exact HO_5.out)); (case aS => exact (below_size (by repeat (first | (with_reducible first | exact HB.out | apply below_alloc | apply pw_below_drewN | apply below_drew1) | exact HB.out)))); (case aL => have := LMc13.out; omega); intro v179 w14 ho hb hg hat; rw [← Ny178.out] at ho; have n0_ := Aside0.mk (hb); have n1_ := Aside0.mk (ho); clear HB; clear HO_5; have HB := n0_; have HO180 := n1_; clear n0_ n1_; clear ho hb hg hat))
                    go_roundg k1
                    case measure => have := HK1.out; omega
                    case rel => exact ⟨(y178), (wrap64 (x10_1 + 1)), (by first | rfl | (simp; done) | (simp [*]; done)), H', ⟨by have := HK1.out; omega⟩, ⟨by (with_reducible repeat (first | apply Kd.R_alloc | apply Kd.R_drewN | apply Kd.R_drew)); exact HO180.out⟩, ⟨by repeat (first | (with_reducible first | exact HB.out | apply below_alloc | apply pw_below_drewN | apply below_drew1) | exact HB.out)⟩⟩
                  · rw [if_neg c13] at H
                    exact absurd H (by simp)
                · rw [if_neg c11] at H
                  exact absurd H (by simp)
              · rw [if_neg c10] at H
                exact absurd H (by simp)
          · rw [if_neg c5] at H
            exact absurd H (by simp)
        · rw [if_neg c4] at H
          exact absurd H (by simp)
      · rw [if_neg c3] at H
        have c3b0 : decide (x10_1 < (l1.length : Int)) = false := decide_eq_false c3
        clear c3
        obtain rfl := Option.some.inj H
        go_wp2
        go_ret
        exact ⟨_, by first | rfl | (simp [errW_none, errW_some] <;> rfl) | (simp [*, errW_none, errW_some] <;> rfl), by (with_reducible repeat (first | apply Kd.R_alloc | apply Kd.R_drewN | apply Kd.R_drew)); exact HO_5.out, by repeat (first | (with_reducible first | exact HB.out | apply below_alloc | apply pw_below_drewN | apply below_drew1) | exact HB.out)⟩

end Go.Proofs.Yteagoinfepiilaa.Print
