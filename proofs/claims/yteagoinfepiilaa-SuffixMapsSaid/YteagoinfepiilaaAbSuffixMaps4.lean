/- A part of the proof of the law SuffixMaps: lemmas alone; what each says stands at it. No conditions. -/
import Derived.Test.YteagoinfepiilaaAbSuffixMaps3
import Derived.Test.YteagoinfepiilaaAbSuffixMaps2
import Derived.SizedLaws
import Derived.ChangeSlices
import Derived.OpenShut
/- The law SuffixMaps. -/
namespace Go.Ab
open Go Go.Proofs Go.Ab.Wd Go.Ab.Bs Go.Ab.Sai
set_option linter.unusedVariables false
set_option linter.unusedSimpArgs false
theorem wfb {x : Int} (h : IntKind.min .u8 ≤ x ∧ x ≤ IntKind.max .u8) : 0 ≤ x ∧ x ≤ 255 := by
  have e1 : IntKind.min .u8 = 0 := by decide
  have e2 : IntKind.max .u8 = 255 := by decide
  omega
theorem wfi {x : Int} (h : IntKind.min .i64 ≤ x ∧ x ≤ IntKind.max .i64) : -9223372036854775808 ≤ x ∧ x ≤ 9223372036854775807 := by
  have e1 : IntKind.min .i64 = -9223372036854775808 := by decide
  have e2 : IntKind.max .i64 = 9223372036854775807 := by decide
  omega
theorem numsL_drop (k : IntKind) (l : List Int) (n : Nat) : (numsL k l).drop n = numsL k (l.drop n) := by simp [numsL, List.map_drop]
theorem numsL_take (k : IntKind) (l : List Int) (n : Nat) : (numsL k l).take n = numsL k (l.take n) := by simp [numsL, List.map_take]
theorem okT_of {t : List Int} {al : Int} (h0 : 0 ≤ al) (h1 : al ≤ 4194304) (h2 : t.length ≤ 4194304) (h3 : ∀ x ∈ t, 0 ≤ x ∧ x < al) : okT t al = true := okT_iff.2 ⟨h0, h1, h2, h3⟩
theorem maps_loop {σ : Store} {hf : Hdl} {f : List Int} {k : Int} (hF : Store.Nums .u8 σ hf f) (hp : σ.prot ≤ σ.objs.length) (hn : f.length ≤ 400) (hw : ∀ x ∈ f, 0 ≤ x ∧ x ≤ 255) (hk : 1 ≤ k ∧ k ≤ 7) :
    ∃ a b c σ', EvI (fun kk s => stepF Try.prog (gm Try.prog kk) drawn kk Try.f12 [1, 1, 1, 1, 1, 0, 1, 0] [31, 30, 29, 9, 8, 7, 6, 5] s)
      ([.int .i64 0, .int .i64 f.length, .slice hf, .slice Hdl.nil, .slice Hdl.nil, .slice Hdl.nil, .int .i64 k, .slice hf], σ) (AX.exit 0, [(9, .slice c), (8, .slice b), (7, .slice a), (5, .slice hf)], σ') ∧
      Kp σ.objs.length σ σ' ∧ GrowI σ' σ.objs.length a f ∧ GrowI σ' σ.objs.length b (f.map fun x => k * x + 3) ∧ GrowI σ' σ.objs.length c (f.map fun x => x + 1) := by
  have lf := nums_len hF
  obtain ⟨r, e, a, b, c, σ', rfl, h1, h2, h3, h4⟩ := EvI.up (f := fun kk s => stepF Try.prog (gm Try.prog kk) drawn kk Try.f12 [1, 1, 1, 1, 1, 0, 1, 0] [31, 30, 29, 9, 8, 7, 6, 5] s) f.length
    (fun i s => ∃ a b c s1, s = ([.int .i64 i, .int .i64 f.length, .slice hf, .slice c, .slice b, .slice a, .int .i64 k, .slice hf], s1) ∧ Kp σ.objs.length σ s1 ∧ GrowI s1 σ.objs.length a (f.take i) ∧ GrowI s1 σ.objs.length b ((f.take i).map fun x => k * x + 3) ∧ GrowI s1 σ.objs.length c ((f.take i).map fun x => x + 1) ∧
      (∀ x, a.row = some x → b.row ≠ some x ∧ c.row ≠ some x) ∧ ∀ x, b.row = some x → c.row ≠ some x)
    (fun r => ∃ a b c s1, r = (AX.exit 0, [(9, .slice c), (8, .slice b), (7, .slice a), (5, .slice hf)], s1) ∧ Kp σ.objs.length σ s1 ∧ GrowI s1 σ.objs.length a f ∧ GrowI s1 σ.objs.length b (f.map fun x => k * x + 3) ∧ GrowI s1 σ.objs.length c (f.map fun x => x + 1))
    (by
      rintro i s hi ⟨a, b, c, s1, rfl, kk, ga, gb, gc, d1, d2⟩
      have i0 : (0 : Int) ≤ i := by omega
      have i1 : (i : Int) < f.length := by omega
      have w := wsucc hi (by omega)
      have rx := nums_rd (Store.Sl.kp hF kk) i0 i1
      obtain ⟨x0, x1⟩ := hw _ (rd_mem i0 i1)
      have b1 : 0 ≤ k * rd f i := Int.mul_nonneg (by omega) x0
      have b2 : k * rd f i ≤ 7 * 255 := Int.mul_le_mul (by omega) x1 x0 (by omega)
      have w1 : IntKind.wrap .i64 (rd f i) = rd f i := wrap64 (by omega) (by omega)
      have w2 : IntKind.wrap .i64 (k * rd f i) = k * rd f i := wrap64 (by omega) (by omega)
      have w3 : IntKind.wrap .i64 (k * rd f i + 3) = k * rd f i + 3 := wrap64 (by omega) (by omega)
      have w4 : IntKind.wrap .i64 (rd f i + 1) = rd f i + 1 := wrap64 (by omega) (by omega)
      have p1 : s1.prot ≤ σ.objs.length := by rw [kk.prot]; exact hp
      obtain ⟨a', s2, e2, k2, ga', fr2, ra⟩ := growN_appX (k := .i64) (bs := 8) ga p1 kk.len (rd f i) (by omega) (by omega) (by simp; omega)
      have l2 := k2.len
      have gb2 : GrowI s2 σ.objs.length b _ := gb.keepX fun x hx => fr2 x (gb.has x hx) fun e => (d1 x e).1 hx
      have gc2 : GrowI s2 σ.objs.length c _ := gc.keepX fun x hx => fr2 x (gc.has x hx) fun e => (d1 x e).2 hx
      have q1 : ∀ x, a'.row = some x → b.row ≠ some x ∧ c.row ≠ some x := fun x hx => by
        rcases ra with h | h
        · exact d1 x (h ▸ hx)
        · have := h x hx
          exact ⟨fun e => by have := gb.has x e; omega, fun e => by have := gc.has x e; omega⟩
      obtain ⟨b', s3, e3, k3, gb', fr3, rb⟩ := growN_appX (k := .i64) (bs := 8) gb2 (by rw [k2.prot]; exact p1) (by have := kk.len; have := (kk.trans k2).len; omega) (k * rd f i + 3) (by omega) (by omega) (by simp; omega)
      have ga3 : GrowI s3 σ.objs.length a' _ := ga'.keepX fun x hx => fr3 x (ga'.has x hx) fun e => (q1 x hx).1 e
      have gc3 : GrowI s3 σ.objs.length c _ := gc2.keepX fun x hx => fr3 x (gc2.has x hx) fun e => d2 x e hx
      have q2 : ∀ x, a'.row = some x → b'.row ≠ some x := fun x hx => by
        rcases rb with h | h
        · rw [h]; exact (q1 x hx).1
        · intro e; have := h x e; have := ga'.has x hx; omega
      have q3 : ∀ x, b'.row = some x → c.row ≠ some x := fun x hx => by
        rcases rb with h | h
        · exact d2 x (h ▸ hx)
        · intro e; have := h x hx; have := gc2.has x e; omega
      obtain ⟨c', s4, e4, k4, gc', fr4, rc⟩ := growN_appX (k := .i64) (bs := 8) gc3 (by rw [k3.prot, k2.prot]; exact p1) (by have := kk.len; have := ((kk.trans k2).trans k3).len; omega) (rd f i + 1) (by omega) (by omega) (by simp; omega)
      have ga4 : GrowI s4 σ.objs.length a' _ := ga3.keepX fun x hx => fr4 x (ga3.has x hx) fun e => (q1 x hx).2 e
      have gb4 : GrowI s4 σ.objs.length b' _ := gb'.keepX fun x hx => fr4 x (gb'.has x hx) fun e => q3 x hx e
      refine ⟨_, Ev.of fun m => by simp only [f12_L11111010]; simp only [Option.bind_some, decide_eq_true_eq, decide_eq_false_iff_not, Bool.not_eq_true', Bool.not_true, Bool.not_false, Bool.false_eq_true, Bool.true_eq_false, Bool.not_eq_eq_eq_not, beq_self_eq_true, beqFT, beqTF, decide_true, decide_false, not_false_eq_true, not_true_eq_false, ne_eq, true_and, and_true, false_and, and_false, and_self, if_true, if_false, ite_true, ite_false, Bool.and_true, Bool.and_false, Bool.true_and, Bool.false_and, Bool.or_true, Bool.true_or, Bool.or_false, Bool.false_or, or_true, true_or, or_false, false_or, or_self, AV.asInt, AV.asBool, AV.asSl, AV.asPtr, AV.asFn, AV.asStr, AV.asMap, AV.asIfc, AV.item, List.length_cons, List.length_nil, List.getElem?_cons_zero, List.getElem?_cons_succ, Nat.zero_add, lf, i0, i1, rx, w1, w2, w3, w4, read1, e2, e3, e4, w], a', b', c', s4, rfl, ((kk.trans k2).trans k3).trans k4, ?_, ?_, ?_, fun x hx => ⟨q2 x hx, ?_⟩, fun x hx => ?_⟩
      · rw [take_rd hi]; exact ga4
      · rw [take_rd hi, List.map_append]; exact gb4
      · rw [take_rd hi, List.map_append]; exact gc'
      · rcases rc with h | h
        · rw [h]; exact (q1 x hx).2
        · intro e; have := h x e; have := ga3.has x hx; omega
      · rcases rc with h | h
        · rw [h]; exact q3 x hx
        · intro e; have := h x e; have := gb'.has x hx; omega)
    (by
      rintro s ⟨a, b, c, s1, rfl, kk, ga, gb, gc, d1, d2⟩
      rw [List.take_length] at ga gb gc
      exact ⟨(AX.exit 0, [(9, .slice c), (8, .slice b), (7, .slice a), (5, .slice hf)], s1), Ev.of fun m => by simp only [f12_L11111010]; simp only [Option.bind_some, decide_eq_true_eq, decide_eq_false_iff_not, Bool.not_eq_true', Bool.not_true, Bool.not_false, Bool.false_eq_true, Bool.true_eq_false, Bool.not_eq_eq_eq_not, beq_self_eq_true, beqFT, beqTF, decide_true, decide_false, not_false_eq_true, not_true_eq_false, ne_eq, true_and, and_true, false_and, and_false, and_self, if_true, if_false, ite_true, ite_false, Bool.and_true, Bool.and_false, Bool.true_and, Bool.false_and, Bool.or_true, Bool.true_or, Bool.or_false, Bool.false_or, or_true, true_or, or_false, false_or, or_self, AV.asInt, AV.asBool, AV.asSl, AV.asPtr, AV.asFn, AV.asStr, AV.asMap, AV.asIfc, AV.item, List.length_cons, List.length_nil, List.getElem?_cons_zero, List.getElem?_cons_succ, Nat.zero_add, Int.lt_irrefl], a, b, c, s1, rfl, kk, ga, gb, gc⟩)
    (s := ([.int .i64 0, .int .i64 f.length, .slice hf, .slice Hdl.nil, .slice Hdl.nil, .slice Hdl.nil, .int .i64 k, .slice hf], σ))
    ⟨Hdl.nil, Hdl.nil, Hdl.nil, σ, rfl, Kp.refl _ _, Grow.nil _ _ _, Grow.nil _ _ _, Grow.nil _ _ _, fun x hx => by simp [Hdl.row, Hdl.nil] at hx, fun x hx => by simp [Hdl.row, Hdl.nil] at hx⟩
  exact ⟨a, b, c, σ', e, h1, h2, h3, h4⟩
theorem law_SuffixMaps {σ : Store} {h : Hdl} {t : List Int} {y : Int} (hT : Store.Nums .u8 σ h t) (hH : σ.Has h) (hn : t.length < 2 ^ 47) (hw : ∀ n ∈ t, IntKind.min .u8 ≤ n ∧ n ≤ IntKind.max .u8) (hy : IntKind.min .u8 ≤ y ∧ y ≤ IntKind.max .u8) (hp : σ.prot ≤ σ.objs.length) :
    ∃ σ', Runs Try.prog 12 [.slice h, .int .u8 y] σ (.bool true) σ' := by
  have ll := nums_len hT
  obtain ⟨k0, r0⟩ := first_told σ
  obtain ⟨y0, y1⟩ := wfb hy
  have em : mn2 (Int.ofNat h.len) 400 = ((min t.length 400 : Nat) : Int) := by unfold mn2; simp only [Int.ofNat_eq_natCast]; split <;> omega
  obtain ⟨hf, e1, s1, H1, _⟩ := sub_spec (lo := none) (hi := some ((min t.length 400 : Nat) : Int)) hT hH (by simp) (by simp) (by simp; omega)
  simp only [Option.getD_some, Option.getD_none, Int.toNat_natCast, numsL_take, Int.toNat_zero, List.drop_zero] at s1
  obtain ⟨f, hf_⟩ : ∃ f, f = t.take (min t.length 400) := ⟨_, rfl⟩
  rw [← hf_] at s1
  have lf := nums_len s1
  have lf4 : f.length ≤ 400 := by rw [hf_]; simp; omega
  have hwf : ∀ x ∈ f, 0 ≤ x ∧ x ≤ 255 := fun x hx => wfb (hw x (List.mem_of_mem_take (hf_ ▸ hx)))
  have m1 : Int.tmod y 7 = y % 7 := by rw [Int.tmod_eq_emod_of_nonneg y0]
  have wk : IntKind.wrap .i64 (1 + IntKind.wrap .i64 (Int.tmod y 7)) = 1 + y % 7 := by rw [m1, wrap64 (x := y % 7) (by omega) (by omega), wrap64 (by omega) (by omega)]
  obtain ⟨a, b, c, σ1, e2, K1, ga, gb, gc⟩ := maps_loop (k := 1 + y % 7) s1 hp lf4 hwf (by omega)
  have hp1 : σ1.prot ≤ σ1.objs.length := by rw [K1.prot]; have := K1.len; omega
  have oka : okT f 256 = true := okT_of (by omega) (by omega) (by omega) fun x hx => by have := hwf x hx; omega
  have okb : okT (f.map fun x => (1 + y % 7) * x + 3) 2000 = true := okT_of (by omega) (by omega) (by simp; omega) fun x hx => by
    obtain ⟨u, hu, rfl⟩ := List.mem_map.1 hx
    have := hwf u hu
    have b1 : 0 ≤ (1 + y % 7) * u := Int.mul_nonneg (by omega) this.1
    have b2 : (1 + y % 7) * u ≤ 7 * 255 := Int.mul_le_mul (by omega) this.2 this.1 (by omega)
    omega
  have okc : okT ((f.map fun x => x + 1) ++ [0]) 257 = true := okT_of (by omega) (by omega) (by simp; omega) fun x hx => by
    rcases List.mem_append.1 hx with hx | hx
    · obtain ⟨u, hu, rfl⟩ := List.mem_map.1 hx
      have := hwf u hu; omega
    · rw [List.mem_singleton] at hx; omega
  obtain ⟨ha, σ2, ⟨k2, r2⟩, K2, I2, H2, N2⟩ := array_run (al := 256) ga.ints ga.has hp1 (by omega)
  have hp2 : σ2.prot ≤ σ2.objs.length := by rw [K2.prot]; have := K2.len; omega
  obtain ⟨hb, σ3, ⟨k3, r3⟩, K3, I3, H3, N3⟩ := array_run (al := 2000) (gb.kp K2).ints (gb.kp K2).has hp2 (by simp; omega)
  have hp3 : σ3.prot ≤ σ3.objs.length := by rw [K3.prot]; have := K3.len; omega
  have n13 : σ.objs.length ≤ σ3.objs.length := by have := K1.len; have := K2.len; have := K3.len; omega
  obtain ⟨c', σ4, e4, K4, gc4, fr4, _⟩ := growN_appX (k := .i64) (bs := 8) ((gc.kp K2).kp K3) (by rw [K3.prot, K2.prot, K1.prot]; exact hp) n13 0 (by omega) (by omega) (by simp; omega)
  have hp4 : σ4.prot ≤ σ4.objs.length := by rw [K4.prot]; have := K4.len; have := K3.prot; have := K2.prot; have := K1.prot; omega
  obtain ⟨hc, σ5, ⟨k5, r5⟩, K5, I5, H5, N5⟩ := array_run (al := 257) gc4.nums gc4.has hp4 (by simp; omega)
  rw [oka] at r2 I2
  rw [okb] at r3 I3
  rw [okc] at r5 I5
  rw [if_pos rfl] at I2 I3 I5
  rw [saOf_map (f := fun x => (1 + y % 7) * x + 3) (fun u v => by
    constructor
    · intro hlt
      have hlt' : (1 + y % 7) * u + 3 < (1 + y % 7) * v + 3 := hlt
      have : (1 + y % 7) * u < (1 + y % 7) * v := by omega
      exact Int.lt_of_mul_lt_mul_left this (by omega)
    · intro hlt
      have := Int.mul_lt_mul_of_pos_left hlt (show 0 < 1 + y % 7 by omega)
      show (1 + y % 7) * u + 3 < (1 + y % 7) * v + 3
      omega)] at I3
  rw [saOf_snoc (fun x hx => by
    obtain ⟨u, hu, rfl⟩ := List.mem_map.1 hx
    have := hwf u hu; omega), saOf_map (f := fun x => x + 1) (fun u v => by show u + 1 < v + 1 ↔ u < v; omega), List.length_map] at I5
  -- what was read stays
  have rc := fun b hb => (gc.has b hb)
  have J2 : σ5.Ints ha (saOf f) := Store.Sl.kp (Store.Sl.keep (Store.Sl.kp I2 K3) fun b o e => by
    have hr : ha.row = some b := by simp [Hdl.row, e]
    have h1 := H2 b hr
    have h2 := N2 b hr
    have := K3.len
    exact fr4 b (by omega) fun e => by have := rc b e; omega) K5
  have J3 : σ5.Ints hb (saOf f) := Store.Sl.kp (Store.Sl.keep I3 fun b o e => by
    have hr : hb.row = some b := by simp [Hdl.row, e]
    have h1 := H3 b hr
    have h2 := N3 b hr
    have := K2.len
    exact fr4 b (by omega) fun e => by have := rc b e; omega) K5
  have l5 := I5.ilen
  obtain ⟨k6, r6⟩ := same_self J2 J3 (by rw [saOf_len]; omega)
  have z := I5.rd (i := 0) (by omega) (by simp)
  obtain ⟨hd, e7, s7, H7, _⟩ := sub_spec (lo := some 1) (hi := none) I5 H5 (by simp) (by simp [l5]; omega) (by simp)
  simp only [Option.getD_some, Option.getD_none, Int.toNat_natCast, l5] at s7
  rw [List.take_of_length_le (by simp), intsL_drop] at s7
  have s7' : σ5.Ints hd (saOf f) := by simpa using s7
  obtain ⟨k7, r7⟩ := same_self s7' J2 (by rw [saOf_len]; omega)
  refine ⟨σ5, Runs.intro (fn := Try.f12) (by kernel_rfl) (by kernel_rfl) ?_⟩
  obtain ⟨n2, e2⟩ := loopF_ev e2
  refine ⟨k0 + n2 + k2 + k3 + k5 + k6 + k7, fun k hk => ?_⟩
  have r0 := r0 k (by omega)
  have e2 := e2 k (by omega)
  have r2 := r2 k (by omega)
  have r3 := r3 k (by omega)
  have r5 := r5 k (by omega)
  have r6 := r6 k (by omega)
  have r7 := r7 k (by omega)
  simp only [Option.bind_some, decide_eq_true_eq, decide_eq_false_iff_not, Bool.not_eq_true', Bool.not_true, Bool.not_false, Bool.false_eq_true, Bool.true_eq_false, Bool.not_eq_eq_eq_not, beq_self_eq_true, beqFT, beqTF, decide_true, decide_false, not_false_eq_true, not_true_eq_false, ne_eq, true_and, and_true, false_and, and_false, and_self, if_true, if_false, ite_true, ite_false, Bool.and_true, Bool.and_false, Bool.true_and, Bool.false_and, Bool.or_true, Bool.true_or, Bool.or_false, Bool.false_or, or_true, true_or, or_false, false_or, or_self, AV.asInt, AV.asBool, AV.asSl, AV.asPtr, AV.asFn, AV.asStr, AV.asMap, AV.asIfc, AV.item, List.length_cons, List.length_nil, List.getElem?_cons_zero, List.getElem?_cons_succ, Nat.zero_add] at r0 e2 r2 r3 r5 r6 r7
  simp only [f12_eq]
  have c1 : ((0 : Int) < hc.len) := by rw [l5]; simp
  have z' : rd ((f.length : Int) :: saOf f) 0 = f.length := by simp [rd]
  simp only [Option.bind_some, decide_eq_true_eq, decide_eq_false_iff_not, Bool.not_eq_true', Bool.not_true, Bool.not_false, Bool.false_eq_true, Bool.true_eq_false, Bool.not_eq_eq_eq_not, beq_self_eq_true, beqFT, beqTF, decide_true, decide_false, not_false_eq_true, not_true_eq_false, ne_eq, true_and, and_true, false_and, and_false, and_self, if_true, if_false, ite_true, ite_false, Bool.and_true, Bool.and_false, Bool.true_and, Bool.false_and, Bool.or_true, Bool.true_or, Bool.or_false, Bool.false_or, or_true, true_or, or_false, false_or, or_self, AV.asInt, AV.asBool, AV.asSl, AV.asPtr, AV.asFn, AV.asStr, AV.asMap, AV.asIfc, AV.item, List.length_cons, List.length_nil, List.getElem?_cons_zero, List.getElem?_cons_succ, Nat.zero_add, r0, em, e1, lf, wk, e2]
  rw [f12_X11111010_1]
  simp only [Option.bind_some, decide_eq_true_eq, decide_eq_false_iff_not, Bool.not_eq_true', Bool.not_true, Bool.not_false, Bool.false_eq_true, Bool.true_eq_false, Bool.not_eq_eq_eq_not, beq_self_eq_true, beqFT, beqTF, decide_true, decide_false, not_false_eq_true, not_true_eq_false, ne_eq, true_and, and_true, false_and, and_false, and_self, if_true, if_false, ite_true, ite_false, Bool.and_true, Bool.and_false, Bool.true_and, Bool.false_and, Bool.or_true, Bool.true_or, Bool.or_false, Bool.false_or, or_true, true_or, or_false, false_or, or_self, AV.asInt, AV.asBool, AV.asSl, AV.asPtr, AV.asFn, AV.asStr, AV.asMap, AV.asIfc, AV.item, List.length_cons, List.length_nil, List.getElem?_cons_zero, List.getElem?_cons_succ, Nat.zero_add, r2, r3, read1, e4, r5, r6, c1, z, z', lf, e7, r7, Int.le_refl]
end Go.Ab

/- What is told of first holds. -/
namespace Go.Ab
open Go Go.Proofs
theorem toldOk (hm : Try.prog.follows .mixedOrders = true) : SpS Try.prog (Told.sp Try.prog) ∧ SpK (Told.sp Try.prog) :=
  tell_sound hm fun g hg => by
    rw [List.mem_singleton] at hg; subst hg
    exact ⟨Try.f23, 40, by kernel_rfl, by kernel_rfl, by kernel_rfl, by kernel_rfl⟩
end Go.Ab

/- How long a law's slices are. -/
namespace Go.Ab
open Go Go.ChangeShapes Go.WideShapes
/-- A slice of numbers among a law's arguments: its cells, and how long it is. -/
theorem open_nums {H : Type} {enc : TypeId × Value → H} {P : Program} {W : World} {base : Nat} {held : Bool} {t e : TypeId} {k : IntKind} {a : Option Addr} {len cap : Nat} {d : DataW H} {ps : List MemPlace} {ts : List TypeId} {ds : List (DataW H)} {j : Nat}
    (hsz : (DataW.weightsEach P ts ds).all (· ≤ reachBytes) = true) (ht : ts[j]? = some t) (hd : ds[j]? = some d) (hu : P.underlying t = some (.slice e)) (he : P.underlying e = some (.int k)) (hc : P.cellsOf e = 1) {B : Nat} (hB : P.bytesOf e = B)
    (h : DataW.Trod enc P W base (fun _ => true) held t (.slice a len cap) d ps) : (∃ zs, IsRow k W a len cap zs) ∧ len * B ≤ 140737488351232 := by
  obtain ⟨fuel, hf⟩ := h
  rcases open_ints hu he hc hf with ⟨hcs, _⟩ | ⟨x, l, c, zs, hcs, _, hl, hm, hz, hx, hcell, hwz⟩
  · simp [Value.cells] at hcs
    obtain ⟨rfl, rfl, rfl⟩ := hcs
    exact ⟨⟨[], .inl ⟨rfl, rfl, rfl, rfl⟩⟩, by simp⟩
  · simp [Value.cells] at hcs
    obtain ⟨rfl, rfl, rfl⟩ := hcs
    refine ⟨⟨zs, .inr ⟨_, rfl, hl, hm, by simpa using hz, hcell, hwz⟩⟩, ?_⟩
    obtain ⟨hx, _⟩ := Prod.mk.inj hx
    subst hx
    have z := sized_slice hsz ht hd hu
    rw [hB] at z
    have hz' : zs.length = cap := by simpa using hz
    have h1 : (lits (H := H) k (zs.take len)).length + (lits (H := H) k (zs.drop len)).length = zs.length := by
      simp [lits]
      omega
    rw [h1] at z
    exact Nat.le_trans (Nat.mul_le_mul_right _ (by omega)) z
theorem wf_int {k : IntKind} {n : Int} (h : (Lit.int k n).wf = true) : k.min ≤ n ∧ n ≤ k.max := by
  simpa [Lit.wf] using h
end Go.Ab
