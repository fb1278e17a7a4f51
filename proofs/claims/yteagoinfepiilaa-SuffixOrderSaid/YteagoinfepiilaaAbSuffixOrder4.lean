/- A part of the proof of the law SuffixOrder: lemmas alone; what each says stands at it. No conditions. -/
import Derived.Test.YteagoinfepiilaaAbSuffixOrder3
import Derived.Test.YteagoinfepiilaaAbSuffixOrder2
import Derived.SizedLaws
import Derived.ChangeSlices
import Derived.OpenShut
/- The order of suffixes: of lists put by others, of tails. Plain Lean, no program. -/
namespace Go.Ab.Bs
open Go.Ab.Wd
set_option linter.unusedVariables false
set_option linter.unusedSimpArgs false
theorem llt_map {f : Int → Int} (hf : ∀ x y, f x < f y ↔ x < y) : ∀ a b : List Int, llt (a.map f) (b.map f) ↔ llt a b
  | [], [] => by simp [llt]
  | [], _ :: _ => by simp [llt]
  | _ :: _, [] => by simp [llt]
  | x :: xs, y :: ys => by
    have he : f x = f y ↔ x = y := ⟨fun h => by
      rcases Int.lt_trichotomy x y with c | c | c
      · have := (hf x y).2 c; omega
      · exact c
      · have := (hf y x).2 c; omega, fun h => by rw [h]⟩
    simp only [List.map_cons, llt, hf, he, llt_map hf xs ys]
theorem sl_map {f : Int → Int} (hf : ∀ x y, f x < f y ↔ x < y) (t : List Int) (p q : Int) : sl (t.map f) p q ↔ sl t p q := by
  unfold sl; rw [← List.map_drop, ← List.map_drop, llt_map hf]
theorem saOf_map {f : Int → Int} (hf : ∀ x y, f x < f y ↔ x < y) (t : List Int) : saOf (t.map f) = saOf t := by
  have h := saOf_spec t
  refine saOf_eq ⟨by rw [List.length_map]; exact h.perm, ?_⟩
  exact h.ord.imp fun {p q} hs => (sl_map hf t p q).2 hs
theorem llt_snoc {z : Int} : ∀ a b : List Int, (∀ x ∈ a, z < x) → (∀ x ∈ b, z < x) → (llt (a ++ [z]) (b ++ [z]) ↔ llt a b)
  | [], [], _, _ => by simp [llt]
  | [], y :: ys, _, hb => by have := hb y (by simp); simp [llt, this]
  | x :: xs, [], ha, _ => by have := ha x (by simp); simp [llt]; omega
  | x :: xs, y :: ys, ha, hb => by
    simp only [List.cons_append, llt]
    rw [llt_snoc xs ys (fun u hu => ha u (by simp [hu])) (fun u hu => hb u (by simp [hu]))]
theorem sl_snoc {t : List Int} {z : Int} (hz : ∀ x ∈ t, z < x) {p q : Int} (p0 : 0 ≤ p) (p1 : p < t.length) (q0 : 0 ≤ q) (q1 : q < t.length) : sl (t ++ [z]) p q ↔ sl t p q := by
  unfold sl
  rw [List.drop_append_of_le_length (by omega), List.drop_append_of_le_length (by omega)]
  exact llt_snoc _ _ (fun x hx => hz x (List.mem_of_mem_drop hx)) (fun x hx => hz x (List.mem_of_mem_drop hx))
theorem saOf_snoc {t : List Int} {z : Int} (hz : ∀ x ∈ t, z < x) : saOf (t ++ [z]) = (t.length : Int) :: saOf t := by
  have h := saOf_spec t
  refine saOf_eq ⟨⟨by simp [h.perm.len], fun p hp => ?_, ?_⟩, ?_⟩
  · rcases List.mem_cons.1 hp with rfl | hp
    · simp; omega
    · have := h.perm.rng p hp; simp; omega
  · refine List.nodup_cons.2 ⟨fun hm => ?_, h.perm.nd⟩
    have := h.perm.rng _ hm; omega
  · refine List.pairwise_cons.2 ⟨fun q hq => ?_, h.ord.imp_of_mem fun {p q} hp hq hs => ?_⟩
    · have rq := h.perm.rng q hq
      unfold sl
      rw [List.drop_append_of_le_length (by omega), List.drop_append_of_le_length (by omega)]
      rw [List.drop_eq_nil_of_le (by omega), drop_cons rq.1 rq.2]
      exact .inl (hz _ (rd_mem rq.1 rq.2))
    · have rp := h.perm.rng p hp
      have rq := h.perm.rng q hq
      exact (sl_snoc hz rp.1 rp.2 rq.1 rq.2).2 hs
theorem sl_drop (t : List Int) (k : Nat) {p q : Int} (p0 : 0 ≤ p) (q0 : 0 ≤ q) : sl (t.drop k) p q ↔ sl t (p + k) (q + k) := by
  unfold sl
  rw [List.drop_drop, List.drop_drop, show (p + k).toNat = k + p.toNat by omega, show (q + k).toNat = k + q.toNat by omega]
/-- Of a tail. -/
theorem saOf_drop (t : List Int) (k : Nat) (hk : k ≤ t.length) : saOf (t.drop k) = ((saOf t).filter fun p => decide ((k : Int) ≤ p)).map fun p => p - (k : Int) := by
  have h := saOf_spec t
  refine saOf_eq ⟨?_, ?_⟩
  · have hnd : (((saOf t).filter fun p => decide ((k : Int) ≤ p)).map fun p => p - (k : Int)).Nodup :=
      nodup_map_inj (fun a b h => by omega) (h.perm.nd.filter _)
    have hrng : ∀ p ∈ ((saOf t).filter fun p => decide ((k : Int) ≤ p)).map fun p => p - (k : Int), 0 ≤ p ∧ p < ((t.drop k).length : Nat) := fun p hp => by
      obtain ⟨q, hq, rfl⟩ := List.mem_map.1 hp
      rw [List.mem_filter, decide_eq_true_eq] at hq
      have := h.perm.rng q hq.1
      simp; omega
    refine IsPerm.of_perm ?_
    refine (List.perm_ext_iff_of_nodup hnd (nodup_places _)).2 fun p => ⟨fun hp => mem_places.2 (hrng p hp), fun hp => ?_⟩
    have hp := mem_places.1 hp
    simp only [List.length_drop] at hp
    exact List.mem_map.2 ⟨p + k, List.mem_filter.2 ⟨h.perm.mem (by omega) (by omega), by simp; omega⟩, by omega⟩
  · rw [List.pairwise_map]
    refine (h.ord.filter _).imp_of_mem fun {p q} hp hq hs => ?_
    rw [List.mem_filter, decide_eq_true_eq] at hp hq
    rw [sl_drop t k (by omega) (by omega), show p - (k : Int) + k = p by omega, show q - (k : Int) + k = q by omega]
    exact hs
end Go.Ab.Bs

/- The law SuffixMaps. -/
namespace Go.Ab
open Go Go.Proofs Go.Ab.Wd Go.Ab.Bs Go.Ab.Sai
set_option linter.unusedVariables false
set_option linter.unusedSimpArgs false
theorem wfb {x : Int} (h : IntKind.min .u8 ≤ x ∧ x ≤ IntKind.max .u8) : 0 ≤ x ∧ x ≤ 255 := by
  have e1 : IntKind.min .u8 = 0 := by decide
  have e2 : IntKind.max .u8 = 255 := by decide
  omega
theorem wfi {x : Int} (h : IntKind.min .i64 ≤ x ∧ x ≤ IntKind.max .i64) : -9223372036854775808 ≤ x ∧ x ≤ 9223372036854775807 := by
  have e1 : IntKind.min .i64 = -9223372036854775808 := by decide
  have e2 : IntKind.max .i64 = 9223372036854775807 := by decide
  omega
theorem numsL_drop (k : IntKind) (l : List Int) (n : Nat) : (numsL k l).drop n = numsL k (l.drop n) := by simp [numsL, List.map_drop]
theorem numsL_take (k : IntKind) (l : List Int) (n : Nat) : (numsL k l).take n = numsL k (l.take n) := by simp [numsL, List.map_take]
theorem okT_of {t : List Int} {al : Int} (h0 : 0 ≤ al) (h1 : al ≤ 4194304) (h2 : t.length ≤ 4194304) (h3 : ∀ x ∈ t, 0 ≤ x ∧ x < al) : okT t al = true := okT_iff.2 ⟨h0, h1, h2, h3⟩
theorem maps_loop {σ : Store} {hf : Hdl} {f : List Int} {k : Int} (hF : Store.Nums .u8 σ hf f) (hp : σ.prot ≤ σ.objs.length) (hn : f.length ≤ 400) (hw : ∀ x ∈ f, 0 ≤ x ∧ x ≤ 255) (hk : 1 ≤ k ∧ k ≤ 7) :
    ∃ a b c σ', EvI (fun kk s => stepF Try.prog (gm Try.prog kk) drawn kk Try.f12 [1, 1, 1, 1, 1, 0, 1, 0] [31, 30, 29, 9, 8, 7, 6, 5] s)
      ([.int .i64 0, .int .i64 f.length, .slice hf, .slice Hdl.nil, .slice Hdl.nil, .slice Hdl.nil, .int .i64 k, .slice hf], σ) (AX.exit 0, [(9, .slice c), (8, .slice b), (7, .slice a), (5, .slice hf)], σ') ∧
      Kp σ.objs.length σ σ' ∧ GrowI σ' σ.objs.length a f ∧ GrowI σ' σ.objs.length b (f.map fun x => k * x + 3) ∧ GrowI σ' σ.objs.length c (f.map fun x => x + 1) := by
  have lf := nums_len hF
  obtain ⟨r, e, a, b, c, σ', rfl, h1, h2, h3, h4⟩ := EvI.up (f := fun kk s => stepF Try.prog (gm Try.prog kk) drawn kk Try.f12 [1, 1, 1, 1, 1, 0, 1, 0] [31, 30, 29, 9, 8, 7, 6, 5] s) f.length
    (fun i s => ∃ a b c s1, s = ([.int .i64 i, .int .i64 f.length, .slice hf, .slice c, .slice b, .slice a, .int .i64 k, .slice hf], s1) ∧ Kp σ.objs.length σ s1 ∧ GrowI s1 σ.objs.length a (f.take i) ∧ GrowI s1 σ.objs.length b ((f.take i).map fun x => k * x + 3) ∧ GrowI s1 σ.objs.length c ((f.take i).map fun x => x + 1) ∧
      (∀ x, a.row = some x → b.row ≠ some x ∧ c.row ≠ some x) ∧ ∀ x, b.row = some x → c.row ≠ some x)
    (fun r => ∃ a b c s1, r = (AX.exit 0, [(9, .slice c), (8, .slice b), (7, .slice a), (5, .slice hf)], s1) ∧ Kp σ.objs.length σ s1 ∧ GrowI s1 σ.objs.length a f ∧ GrowI s1 σ.objs.length b (f.map fun x => k * x + 3) ∧ GrowI s1 σ.objs.length c (f.map fun x => x + 1))
    (by
      rintro i s hi ⟨a, b, c, s1, rfl, kk, ga, gb, gc, d1, d2⟩
      have i0 : (0 : Int) ≤ i := by omega
      have i1 : (i : Int) < f.length := by omega
      have w := wsucc hi (by omega)
      have rx := nums_rd (Store.Sl.kp hF kk) i0 i1
      obtain ⟨x0, x1⟩ := hw _ (rd_mem i0 i1)
      have b1 : 0 ≤ k * rd f i := Int.mul_nonneg (by omega) x0
      have b2 : k * rd f i ≤ 7 * 255 := Int.mul_le_mul (by omega) x1 x0 (by omega)
      have w1 : IntKind.wrap .i64 (rd f i) = rd f i := wrap64 (by omega) (by omega)
      have w2 : IntKind.wrap .i64 (k * rd f i) = k * rd f i := wrap64 (by omega) (by omega)
      have w3 : IntKind.wrap .i64 (k * rd f i + 3) = k * rd f i + 3 := wrap64 (by omega) (by omega)
      have w4 : IntKind.wrap .i64 (rd f i + 1) = rd f i + 1 := wrap64 (by omega) (by omega)
      have p1 : s1.prot ≤ σ.objs.length := by rw [kk.prot]; exact hp
      obtain ⟨a', s2, e2, k2, ga', fr2, ra⟩ := growN_appX (k := .i64) (bs := 8) ga p1 kk.len (rd f i) (by omega) (by omega) (by simp; omega)
      have l2 := k2.len
      have gb2 : GrowI s2 σ.objs.length b _ := gb.keepX fun x hx => fr2 x (gb.has x hx) fun e => (d1 x e).1 hx
      have gc2 : GrowI s2 σ.objs.length c _ := gc.keepX fun x hx => fr2 x (gc.has x hx) fun e => (d1 x e).2 hx
      have q1 : ∀ x, a'.row = some x → b.row ≠ some x ∧ c.row ≠ some x := fun x hx => by
        rcases ra with h | h
        · exact d1 x (h ▸ hx)
        · have := h x hx
          exact ⟨fun e => by have := gb.has x e; omega, fun e => by have := gc.has x e; omega⟩
      obtain ⟨b', s3, e3, k3, gb', fr3, rb⟩ := growN_appX (k := .i64) (bs := 8) gb2 (by rw [k2.prot]; exact p1) (by have := kk.len; have := (kk.trans k2).len; omega) (k * rd f i + 3) (by omega) (by omega) (by simp; omega)
      have ga3 : GrowI s3 σ.objs.length a' _ := ga'.keepX fun x hx => fr3 x (ga'.has x hx) fun e => (q1 x hx).1 e
      have gc3 : GrowI s3 σ.objs.length c _ := gc2.keepX fun x hx => fr3 x (gc2.has x hx) fun e => d2 x e hx
      have q2 : ∀ x, a'.row = some x → b'.row ≠ some x := fun x hx => by
        rcases rb with h | h
        · rw [h]; exact (q1 x hx).1
        · intro e; have := h x e; have := ga'.has x hx; omega
      have q3 : ∀ x, b'.row = some x → c.row ≠ some x := fun x hx => by
        rcases rb with h | h
        · exact d2 x (h ▸ hx)
        · intro e; have := h x hx; have := gc2.has x e; omega
      obtain ⟨c', s4, e4, k4, gc', fr4, rc⟩ := growN_appX (k := .i64) (bs := 8) gc3 (by rw [k3.prot, k2.prot]; exact p1) (by have := kk.len; have := ((kk.trans k2).trans k3).len; omega) (rd f i + 1) (by omega) (by omega) (by simp; omega)
      have ga4 : GrowI s4 σ.objs.length a' _ := ga3.keepX fun x hx => fr4 x (ga3.has x hx) fun e => (q1 x hx).2 e
      have gb4 : GrowI s4 σ.objs.length b' _ := gb'.keepX fun x hx => fr4 x (gb'.has x hx) fun e => q3 x hx e
      refine ⟨_, Ev.of fun m => by simp only [f12_L11111010]; simp only [Option.bind_some, decide_eq_true_eq, decide_eq_false_iff_not, Bool.not_eq_true', Bool.not_true, Bool.not_false, Bool.false_eq_true, Bool.true_eq_false, Bool.not_eq_eq_eq_not, beq_self_eq_true, beqFT, beqTF, decide_true, decide_false, not_false_eq_true, not_true_eq_false, ne_eq, true_and, and_true, false_and, and_false, and_self, if_true, if_false, ite_true, ite_false, Bool.and_true, Bool.and_false, Bool.true_and, Bool.false_and, Bool.or_true, Bool.true_or, Bool.or_false, Bool.false_or, or_true, true_or, or_false, false_or, or_self, AV.asInt, AV.asBool, AV.asSl, AV.asPtr, AV.asFn, AV.asStr, AV.asMap, AV.asIfc, AV.item, List.length_cons, List.length_nil, List.getElem?_cons_zero, List.getElem?_cons_succ, Nat.zero_add, lf, i0, i1, rx, w1, w2, w3, w4, read1, e2, e3, e4, w], a', b', c', s4, rfl, ((kk.trans k2).trans k3).trans k4, ?_, ?_, ?_, fun x hx => ⟨q2 x hx, ?_⟩, fun x hx => ?_⟩
      · rw [take_rd hi]; exact ga4
      · rw [take_rd hi, List.map_append]; exact gb4
      · rw [take_rd hi, List.map_append]; exact gc'
      · rcases rc with h | h
        · rw [h]; exact (q1 x hx).2
        · intro e; have := h x e; have := ga3.has x hx; omega
      · rcases rc with h | h
        · rw [h]; exact q3 x hx
        · intro e; have := h x e; have := gb'.has x hx; omega)
    (by
      rintro s ⟨a, b, c, s1, rfl, kk, ga, gb, gc, d1, d2⟩
      rw [List.take_length] at ga gb gc
      exact ⟨(AX.exit 0, [(9, .slice c), (8, .slice b), (7, .slice a), (5, .slice hf)], s1), Ev.of fun m => by simp only [f12_L11111010]; simp only [Option.bind_some, decide_eq_true_eq, decide_eq_false_iff_not, Bool.not_eq_true', Bool.not_true, Bool.not_false, Bool.false_eq_true, Bool.true_eq_false, Bool.not_eq_eq_eq_not, beq_self_eq_true, beqFT, beqTF, decide_true, decide_false, not_false_eq_true, not_true_eq_false, ne_eq, true_and, and_true, false_and, and_false, and_self, if_true, if_false, ite_true, ite_false, Bool.and_true, Bool.and_false, Bool.true_and, Bool.false_and, Bool.or_true, Bool.true_or, Bool.or_false, Bool.false_or, or_true, true_or, or_false, false_or, or_self, AV.asInt, AV.asBool, AV.asSl, AV.asPtr, AV.asFn, AV.asStr, AV.asMap, AV.asIfc, AV.item, List.length_cons, List.length_nil, List.getElem?_cons_zero, List.getElem?_cons_succ, Nat.zero_add, Int.lt_irrefl], a, b, c, s1, rfl, kk, ga, gb, gc⟩)
    (s := ([.int .i64 0, .int .i64 f.length, .slice hf, .slice Hdl.nil, .slice Hdl.nil, .slice Hdl.nil, .int .i64 k, .slice hf], σ))
    ⟨Hdl.nil, Hdl.nil, Hdl.nil, σ, rfl, Kp.refl _ _, Grow.nil _ _ _, Grow.nil _ _ _, Grow.nil _ _ _, fun x hx => by simp [Hdl.row, Hdl.nil] at hx, fun x hx => by simp [Hdl.row, Hdl.nil] at hx⟩
  exact ⟨a, b, c, σ', e, h1, h2, h3, h4⟩
theorem law_SuffixMaps {σ : Store} {h : Hdl} {t : List Int} {y : Int} (hT : Store.Nums .u8 σ h t) (hH : σ.Has h) (hn : t.length < 2 ^ 47) (hw : ∀ n ∈ t, IntKind.min .u8 ≤ n ∧ n ≤ IntKind.max .u8) (hy : IntKind.min .u8 ≤ y ∧ y ≤ IntKind.max .u8) (hp : σ.prot ≤ σ.objs.length) :
    ∃ σ', Runs Try.prog 12 [.slice h, .int .u8 y] σ (.bool true) σ' := by
  have ll := nums_len hT
  obtain ⟨k0, r0⟩ := first_told σ
  obtain ⟨y0, y1⟩ := wfb hy
  have em : mn2 (Int.ofNat h.len) 400 = ((min t.length 400 : Nat) : Int) := by unfold mn2; simp only [Int.ofNat_eq_natCast]; split <;> omega
  obtain ⟨hf, e1, s1, H1, _⟩ := sub_spec (lo := none) (hi := some ((min t.length 400 : Nat) : Int)) hT hH (by simp) (by simp) (by simp; omega)
  simp only [Option.getD_some, Option.getD_none, Int.toNat_natCast, numsL_take, Int.toNat_zero, List.drop_zero] at s1
  obtain ⟨f, hf_⟩ : ∃ f, f = t.take (min t.length 400) := ⟨_, rfl⟩
  rw [← hf_] at s1
  have lf := nums_len s1
  have lf4 : f.length ≤ 400 := by rw [hf_]; simp; omega
  have hwf : ∀ x ∈ f, 0 ≤ x ∧ x ≤ 255 := fun x hx => wfb (hw x (List.mem_of_mem_take (hf_ ▸ hx)))
  have m1 : Int.tmod y 7 = y % 7 := by rw [Int.tmod_eq_emod_of_nonneg y0]
  have wk : IntKind.wrap .i64 (1 + IntKind.wrap .i64 (Int.tmod y 7)) = 1 + y % 7 := by rw [m1, wrap64 (x := y % 7) (by omega) (by omega), wrap64 (by omega) (by omega)]
  obtain ⟨a, b, c, σ1, e2, K1, ga, gb, gc⟩ := maps_loop (k := 1 + y % 7) s1 hp lf4 hwf (by omega)
  have hp1 : σ1.prot ≤ σ1.objs.length := by rw [K1.prot]; have := K1.len; omega
  have oka : okT f 256 = true := okT_of (by omega) (by omega) (by omega) fun x hx => by have := hwf x hx; omega
  have okb : okT (f.map fun x => (1 + y % 7) * x + 3) 2000 = true := okT_of (by omega) (by omega) (by simp; omega) fun x hx => by
    obtain ⟨u, hu, rfl⟩ := List.mem_map.1 hx
    have := hwf u hu
    have b1 : 0 ≤ (1 + y % 7) * u := Int.mul_nonneg (by omega) this.1
    have b2 : (1 + y % 7) * u ≤ 7 * 255 := Int.mul_le_mul (by omega) this.2 this.1 (by omega)
    omega
  have okc : okT ((f.map fun x => x + 1) ++ [0]) 257 = true := okT_of (by omega) (by omega) (by simp; omega) fun x hx => by
    rcases List.mem_append.1 hx with hx | hx
    · obtain ⟨u, hu, rfl⟩ := List.mem_map.1 hx
      have := hwf u hu; omega
    · rw [List.mem_singleton] at hx; omega
  obtain ⟨ha, σ2, ⟨k2, r2⟩, K2, I2, H2, N2⟩ := array_run (al := 256) ga.ints ga.has hp1 (by omega)
  have hp2 : σ2.prot ≤ σ2.objs.length := by rw [K2.prot]; have := K2.len; omega
  obtain ⟨hb, σ3, ⟨k3, r3⟩, K3, I3, H3, N3⟩ := array_run (al := 2000) (gb.kp K2).ints (gb.kp K2).has hp2 (by simp; omega)
  have hp3 : σ3.prot ≤ σ3.objs.length := by rw [K3.prot]; have := K3.len; omega
  have n13 : σ.objs.length ≤ σ3.objs.length := by have := K1.len; have := K2.len; have := K3.len; omega
  obtain ⟨c', σ4, e4, K4, gc4, fr4, _⟩ := growN_appX (k := .i64) (bs := 8) ((gc.kp K2).kp K3) (by rw [K3.prot, K2.prot, K1.prot]; exact hp) n13 0 (by omega) (by omega) (by simp; omega)
  have hp4 : σ4.prot ≤ σ4.objs.length := by rw [K4.prot]; have := K4.len; have := K3.prot; have := K2.prot; have := K1.prot; omega
  obtain ⟨hc, σ5, ⟨k5, r5⟩, K5, I5, H5, N5⟩ := array_run (al := 257) gc4.nums gc4.has hp4 (by simp; omega)
  rw [oka] at r2 I2
  rw [okb] at r3 I3
  rw [okc] at r5 I5
  rw [if_pos rfl] at I2 I3 I5
  rw [saOf_map (f := fun x => (1 + y % 7) * x + 3) (fun u v => by
    constructor
    · intro hlt
      have hlt' : (1 + y % 7) * u + 3 < (1 + y % 7) * v + 3 := hlt
      have : (1 + y % 7) * u < (1 + y % 7) * v := by omega
      exact Int.lt_of_mul_lt_mul_left this (by omega)
    · intro hlt
      have := Int.mul_lt_mul_of_pos_left hlt (show 0 < 1 + y % 7 by omega)
      show (1 + y % 7) * u + 3 < (1 + y % 7) * v + 3
      omega)] at I3
  rw [saOf_snoc (fun x hx => by
    obtain ⟨u, hu, rfl⟩ := List.mem_map.1 hx
    have := hwf u hu; omega), saOf_map (f := fun x => x + 1) (fun u v => by show u + 1 < v + 1 ↔ u < v; omega), List.length_map] at I5
  -- what was read stays
  have rc := fun b hb => (gc.has b hb)
  have J2 : σ5.Ints ha (saOf f) := Store.Sl.kp (Store.Sl.keep (Store.Sl.kp I2 K3) fun b o e => by
    have hr : ha.row = some b := by simp [Hdl.row, e]
    have h1 := H2 b hr
    have h2 := N2 b hr
    have := K3.len
    exact fr4 b (by omega) fun e => by have := rc b e; omega) K5
  have J3 : σ5.Ints hb (saOf f) := Store.Sl.kp (Store.Sl.keep I3 fun b o e => by
    have hr : hb.row = some b := by simp [Hdl.row, e]
    have h1 := H3 b hr
    have h2 := N3 b hr
    have := K2.len
    exact fr4 b (by omega) fun e => by have := rc b e; omega) K5
  have l5 := I5.ilen
  obtain ⟨k6, r6⟩ := same_self J2 J3 (by rw [saOf_len]; omega)
  have z := I5.rd (i := 0) (by omega) (by simp)
  obtain ⟨hd, e7, s7, H7, _⟩ := sub_spec (lo := some 1) (hi := none) I5 H5 (by simp) (by simp [l5]; omega) (by simp)
  simp only [Option.getD_some, Option.getD_none, Int.toNat_natCast, l5] at s7
  rw [List.take_of_length_le (by simp), intsL_drop] at s7
  have s7' : σ5.Ints hd (saOf f) := by simpa using s7
  obtain ⟨k7, r7⟩ := same_self s7' J2 (by rw [saOf_len]; omega)
  refine ⟨σ5, Runs.intro (fn := Try.f12) (by kernel_rfl) (by kernel_rfl) ?_⟩
  obtain ⟨n2, e2⟩ := loopF_ev e2
  refine ⟨k0 + n2 + k2 + k3 + k5 + k6 + k7, fun k hk => ?_⟩
  have r0 := r0 k (by omega)
  have e2 := e2 k (by omega)
  have r2 := r2 k (by omega)
  have r3 := r3 k (by omega)
  have r5 := r5 k (by omega)
  have r6 := r6 k (by omega)
  have r7 := r7 k (by omega)
  simp only [Option.bind_some, decide_eq_true_eq, decide_eq_false_iff_not, Bool.not_eq_true', Bool.not_true, Bool.not_false, Bool.false_eq_true, Bool.true_eq_false, Bool.not_eq_eq_eq_not, beq_self_eq_true, beqFT, beqTF, decide_true, decide_false, not_false_eq_true, not_true_eq_false, ne_eq, true_and, and_true, false_and, and_false, and_self, if_true, if_false, ite_true, ite_false, Bool.and_true, Bool.and_false, Bool.true_and, Bool.false_and, Bool.or_true, Bool.true_or, Bool.or_false, Bool.false_or, or_true, true_or, or_false, false_or, or_self, AV.asInt, AV.asBool, AV.asSl, AV.asPtr, AV.asFn, AV.asStr, AV.asMap, AV.asIfc, AV.item, List.length_cons, List.length_nil, List.getElem?_cons_zero, List.getElem?_cons_succ, Nat.zero_add] at r0 e2 r2 r3 r5 r6 r7
  simp only [f12_eq]
  have c1 : ((0 : Int) < hc.len) := by rw [l5]; simp
  have z' : rd ((f.length : Int) :: saOf f) 0 = f.length := by simp [rd]
  simp only [Option.bind_some, decide_eq_true_eq, decide_eq_false_iff_not, Bool.not_eq_true', Bool.not_true, Bool.not_false, Bool.false_eq_true, Bool.true_eq_false, Bool.not_eq_eq_eq_not, beq_self_eq_true, beqFT, beqTF, decide_true, decide_false, not_false_eq_true, not_true_eq_false, ne_eq, true_and, and_true, false_and, and_false, and_self, if_true, if_false, ite_true, ite_false, Bool.and_true, Bool.and_false, Bool.true_and, Bool.false_and, Bool.or_true, Bool.true_or, Bool.or_false, Bool.false_or, or_true, true_or, or_false, false_or, or_self, AV.asInt, AV.asBool, AV.asSl, AV.asPtr, AV.asFn, AV.asStr, AV.asMap, AV.asIfc, AV.item, List.length_cons, List.length_nil, List.getElem?_cons_zero, List.getElem?_cons_succ, Nat.zero_add, r0, em, e1, lf, wk, e2]
  rw [f12_X11111010_1]
  simp only [Option.bind_some, decide_eq_true_eq, decide_eq_false_iff_not, Bool.not_eq_true', Bool.not_true, Bool.not_false, Bool.false_eq_true, Bool.true_eq_false, Bool.not_eq_eq_eq_not, beq_self_eq_true, beqFT, beqTF, decide_true, decide_false, not_false_eq_true, not_true_eq_false, ne_eq, true_and, and_true, false_and, and_false, and_self, if_true, if_false, ite_true, ite_false, Bool.and_true, Bool.and_false, Bool.true_and, Bool.false_and, Bool.or_true, Bool.true_or, Bool.or_false, Bool.false_or, or_true, true_or, or_false, false_or, or_self, AV.asInt, AV.asBool, AV.asSl, AV.asPtr, AV.asFn, AV.asStr, AV.asMap, AV.asIfc, AV.item, List.length_cons, List.length_nil, List.getElem?_cons_zero, List.getElem?_cons_succ, Nat.zero_add, r2, r3, read1, e4, r5, r6, c1, z, z', lf, e7, r7, Int.le_refl]
end Go.Ab

/- The laws SuffixTails, SuffixOrder. -/
namespace Go.Ab
open Go Go.Proofs Go.Ab.Wd Go.Ab.Bs Go.Ab.Sai
set_option linter.unusedVariables false
set_option linter.unusedSimpArgs false
theorem wrapu (x : Int) : IntKind.wrap .u64 x = x % 18446744073709551616 := by
  unfold IntKind.wrap
  have e2 : (2 : Int) ^ IntKind.u64.bits = 18446744073709551616 := by decide
  simp [e2, IntKind.signed]
theorem filt_rd {x : List Int} {i : Nat} (hi : i < x.length) {p : Int → Bool} (hp : p (rd x i) = true) (g : Int → Int) :
    ((x.take i).filter p).length < ((x.filter p).map g).length ∧ rd ((x.filter p).map g) (((x.take i).filter p).length : Nat) = g (rd x i) := by
  have e : x = x.take i ++ rd x i :: x.drop (i + 1) := by rw [← drop_rd hi, List.take_append_drop]
  have e2 : (x.filter p).map g = ((x.take i).filter p).map g ++ g (rd x i) :: ((x.drop (i + 1)).filter p).map g := by
    conv => lhs; rw [e]
    rw [List.filter_append, List.filter_cons_of_pos hp]; simp
  rw [e2]
  refine ⟨by simp, ?_⟩
  rw [rd_getElem (by simp)]
  simp
theorem filt_take {x : List Int} {i : Nat} (hi : i < x.length) (p : Int → Bool) : ((x.take (i + 1)).filter p).length = ((x.take i).filter p).length + if p (rd x i) = true then 1 else 0 := by
  rw [take_rd hi, List.filter_append]
  by_cases c : p (rd x i) = true
  · rw [if_pos c, List.filter_cons_of_pos c]; simp
  · rw [if_neg c, List.filter_cons_of_neg c]; simp
theorem law_SuffixTails {σ : Store} {h : Hdl} {few : List Int} {from_ : Int} (hT : Store.Nums .u8 σ h few) (hH : σ.Has h) (hn : few.length < 2 ^ 47) (hw : ∀ n ∈ few, IntKind.min .u8 ≤ n ∧ n ≤ IntKind.max .u8) (hf : IntKind.min .i64 ≤ from_ ∧ from_ ≤ IntKind.max .i64) (hp : σ.prot ≤ σ.objs.length) :
    ∃ σ', Runs Try.prog 13 [.slice h, .int .i64 from_] σ (.bool true) σ' := by
  have ll := nums_len hT
  obtain ⟨k0, r0⟩ := first_told σ
  obtain ⟨ra, ea, ht, σ1, rfl, K1, g1⟩ := EvI.up (f := fun k s => stepF Try.prog (gm Try.prog k) drawn k Try.f13 [1, 1, 1, 0, 1, 0] [20, 19, 18, 5, 1] s) few.length
    (fun i s => ∃ h7 s1, s = ([.int .i64 i, .int .i64 few.length, .slice h, .slice h7, .int .i64 from_], s1) ∧ Kp σ.objs.length σ s1 ∧ GrowI s1 σ.objs.length h7 ((few.take 300).take i))
    (fun r => ∃ h7 s1, r = (AX.exit 0, [(5, .slice h7), (1, .int .i64 from_)], s1) ∧ Kp σ.objs.length σ s1 ∧ GrowI s1 σ.objs.length h7 (few.take 300))
    (by
      rintro i s hi ⟨h7, s1, rfl, kk, g⟩
      have i0 : (0 : Int) ≤ i := by omega
      have i1 : (i : Int) < few.length := by omega
      have w := wsucc hi (by omega)
      have rx := nums_rd (Store.Sl.kp hT kk) i0 i1
      obtain ⟨x0, x1⟩ := wfb (hw _ (rd_mem i0 i1))
      have w1 : IntKind.wrap .i64 (rd few i) = rd few i := wrap64 (by omega) (by omega)
      by_cases c : i < 300
      · have c' : (i : Int) < 300 := by omega
        obtain ⟨h8, s2, e2, k2, g2⟩ := g.app (by rw [kk.prot]; exact hp) kk.len (rd few i) (by simp; omega)
        refine ⟨_, Ev.of fun k => by simp only [f13_L111010]; simp only [Option.bind_some, decide_eq_true_eq, decide_eq_false_iff_not, Bool.not_eq_true', Bool.not_true, Bool.not_false, Bool.false_eq_true, Bool.true_eq_false, Bool.not_eq_eq_eq_not, beq_self_eq_true, beqFT, beqTF, decide_true, decide_false, not_false_eq_true, not_true_eq_false, ne_eq, true_and, and_true, false_and, and_false, and_self, if_true, if_false, ite_true, ite_false, Bool.and_true, Bool.and_false, Bool.true_and, Bool.false_and, Bool.or_true, Bool.true_or, Bool.or_false, Bool.false_or, or_true, true_or, or_false, false_or, or_self, AV.asInt, AV.asBool, AV.asSl, AV.asPtr, AV.asFn, AV.asStr, AV.asMap, AV.asIfc, AV.item, List.length_cons, List.length_nil, List.getElem?_cons_zero, List.getElem?_cons_succ, Nat.zero_add, ll, i0, i1, rx, c', w1, read1, e2, w], h8, s2, rfl, kk.trans k2, ?_⟩
        have er : rd (few.take 300) i = rd few i := by rw [rd_getElem (by simp; omega), rd_getElem hi]; simp
        rw [take_rd (by simp; omega), er]; exact g2
      · have c' : ¬ (i : Int) < 300 := by omega
        refine ⟨_, Ev.of fun k => by simp only [f13_L111010]; simp only [Option.bind_some, decide_eq_true_eq, decide_eq_false_iff_not, Bool.not_eq_true', Bool.not_true, Bool.not_false, Bool.false_eq_true, Bool.true_eq_false, Bool.not_eq_eq_eq_not, beq_self_eq_true, beqFT, beqTF, decide_true, decide_false, not_false_eq_true, not_true_eq_false, ne_eq, true_and, and_true, false_and, and_false, and_self, if_true, if_false, ite_true, ite_false, Bool.and_true, Bool.and_false, Bool.true_and, Bool.false_and, Bool.or_true, Bool.true_or, Bool.or_false, Bool.false_or, or_true, true_or, or_false, false_or, or_self, AV.asInt, AV.asBool, AV.asSl, AV.asPtr, AV.asFn, AV.asStr, AV.asMap, AV.asIfc, AV.item, List.length_cons, List.length_nil, List.getElem?_cons_zero, List.getElem?_cons_succ, Nat.zero_add, ll, i0, i1, rx, c', w], h7, s1, rfl, kk, ?_⟩
        rw [List.take_take] at g ⊢
        rw [Nat.min_eq_right (by omega)] at g ⊢; exact g)
    (by
      rintro s ⟨h7, s1, rfl, kk, g⟩
      rw [List.take_of_length_le (by simp; omega)] at g
      exact ⟨(AX.exit 0, [(5, .slice h7), (1, .int .i64 from_)], s1), Ev.of fun k => by simp only [f13_L111010]; simp only [Option.bind_some, decide_eq_true_eq, decide_eq_false_iff_not, Bool.not_eq_true', Bool.not_true, Bool.not_false, Bool.false_eq_true, Bool.true_eq_false, Bool.not_eq_eq_eq_not, beq_self_eq_true, beqFT, beqTF, decide_true, decide_false, not_false_eq_true, not_true_eq_false, ne_eq, true_and, and_true, false_and, and_false, and_self, if_true, if_false, ite_true, ite_false, Bool.and_true, Bool.and_false, Bool.true_and, Bool.false_and, Bool.or_true, Bool.true_or, Bool.or_false, Bool.false_or, or_true, true_or, or_false, false_or, or_self, AV.asInt, AV.asBool, AV.asSl, AV.asPtr, AV.asFn, AV.asStr, AV.asMap, AV.asIfc, AV.item, List.length_cons, List.length_nil, List.getElem?_cons_zero, List.getElem?_cons_succ, Nat.zero_add, Int.lt_irrefl], h7, s1, rfl, kk, g⟩)
    (s := ([.int .i64 0, .int .i64 few.length, .slice h, .slice Hdl.nil, .int .i64 from_], σ)) ⟨Hdl.nil, σ, rfl, Kp.refl _ _, Grow.nil _ _ _⟩
  obtain ⟨t, ht_⟩ : ∃ t, t = few.take 300 := ⟨_, rfl⟩
  rw [← ht_] at g1
  have lt := g1.ints.ilen
  have lt3 : t.length ≤ 300 := by rw [ht_]; simp; omega
  have hwt : ∀ x ∈ t, 0 ≤ x ∧ x ≤ 255 := fun x hx => wfb (hw x (List.mem_of_mem_take (ht_ ▸ hx)))
  have hp1 : σ1.prot ≤ σ1.objs.length := by rw [K1.prot]; have := K1.len; omega
  have u1 : IntKind.wrap .u64 (IntKind.wrap .i64 ((t.length : Int) + 1)) = t.length + 1 := by rw [wrap64 (by omega) (by omega), wrapu]; omega
  obtain ⟨k, hk⟩ : ∃ k : Nat, IntKind.wrap .i64 (Int.tmod (IntKind.wrap .u64 from_) (IntKind.wrap .u64 (IntKind.wrap .i64 ((t.length : Int) + 1)))) = (k : Int) ∧ k ≤ t.length := by
    rw [u1, wrapu, Int.tmod_eq_emod_of_nonneg (by omega)]
    have h1 := Int.emod_nonneg (from_ % 18446744073709551616) (show ((t.length : Int) + 1) ≠ 0 by omega)
    have h2 := Int.emod_lt_of_pos (from_ % 18446744073709551616) (show 0 < ((t.length : Int) + 1) by omega)
    exact ⟨(from_ % 18446744073709551616 % ((t.length : Int) + 1)).toNat, by rw [wrap64 (by omega) (by omega)]; omega, by omega⟩
  obtain ⟨hk, hkl⟩ := hk
  have ok1 : okT t 256 = true := okT_of (by omega) (by omega) (by omega) fun x hx => by have := hwt x hx; omega
  have ok2 : okT (t.drop k) 256 = true := okT_of (by omega) (by omega) (by simp; omega) fun x hx => by have := hwt x (List.mem_of_mem_drop hx); omega
  obtain ⟨hx, σ2, ⟨k2, r2⟩, K2, I2, H2, N2⟩ := array_run (al := 256) g1.ints g1.has hp1 (by omega)
  have hp2 : σ2.prot ≤ σ2.objs.length := by rw [K2.prot]; have := K2.len; omega
  have g2 := g1.kp K2
  obtain ⟨hd, e3, s3, H3, _⟩ := sub_spec (lo := some (k : Int)) (hi := none) g2.ints g2.has (by simp) (by simp [lt]; omega) (by simp)
  simp only [Option.getD_some, Option.getD_none, Int.toNat_natCast, lt] at s3
  rw [List.take_of_length_le (by simp), intsL_drop] at s3
  obtain ⟨hy, σ4, ⟨k4, r4⟩, K4, I4, H4, N4⟩ := array_run (al := 256) (t := t.drop k) s3 H3 hp2 (by simp; omega)
  rw [ok1] at r2 I2
  rw [ok2] at r4 I4
  rw [if_pos rfl] at I2 I4
  rw [saOf_drop t k hkl] at I4
  have J2 : σ4.Ints hx (saOf t) := Store.Sl.kp I2 K4
  have lx := J2.ilen
  have ly := I4.ilen
  have la := saOf_len t
  have lyk : (((saOf t).filter fun p => decide ((k : Int) ≤ p)).map fun p => p - (k : Int)).length ≤ 300 := by
    have := List.length_filter_le (fun p => decide ((k : Int) ≤ p)) (saOf t)
    simp; omega
  obtain ⟨rb, eb, rfl⟩ := EvI.up (f := fun m s => stepF Try.prog (gm Try.prog m) drawn m Try.f13 [1, 1, 1, 1, 1, 1, 1, 1, 0, 1, 0] [55, 54, 53, 13, 12, 11, 8] s) (saOf t).length
    (fun i s => s = ([.int .i64 i, .int .i64 (saOf t).length, .slice hx, .int .i64 (((saOf t).take i).filter fun p => decide ((k : Int) ≤ p)).length, .int .i64 0, .slice hy, .int .i64 k], σ4))
    (fun r => r = (AX.exit 2, [(13, .int .i64 (((saOf t).filter fun p => decide ((k : Int) ≤ p)).length : Nat)), (12, .int .i64 0), (11, .slice hy)], σ4))
    (by
      rintro i s hi rfl
      have i0 : (0 : Int) ≤ i := by omega
      have i1 : (i : Int) < (saOf t).length := by omega
      have w := wsucc hi (by omega)
      have rx := J2.rd i0 i1
      have rg := saOf_rng (rd_mem i0 i1)
      have ft := filt_take hi (fun p => decide ((k : Int) ≤ p))
      by_cases c : rd (saOf t) i < k
      · rw [if_neg (by simp; omega), Nat.add_zero] at ft
        exact ⟨_, Ev.of fun m => by simp only [f13_L11111111010]; simp only [Option.bind_some, decide_eq_true_eq, decide_eq_false_iff_not, Bool.not_eq_true', Bool.not_true, Bool.not_false, Bool.false_eq_true, Bool.true_eq_false, Bool.not_eq_eq_eq_not, beq_self_eq_true, beqFT, beqTF, decide_true, decide_false, not_false_eq_true, not_true_eq_false, ne_eq, true_and, and_true, false_and, and_false, and_self, if_true, if_false, ite_true, ite_false, Bool.and_true, Bool.and_false, Bool.true_and, Bool.false_and, Bool.or_true, Bool.true_or, Bool.or_false, Bool.false_or, or_true, true_or, or_false, false_or, or_self, AV.asInt, AV.asBool, AV.asSl, AV.asPtr, AV.asFn, AV.asStr, AV.asMap, AV.asIfc, AV.item, List.length_cons, List.length_nil, List.getElem?_cons_zero, List.getElem?_cons_succ, Nat.zero_add, lx, i0, i1, rx, c, w, ft, Nat.add_zero], rfl⟩
      · rw [if_pos (by simp; omega)] at ft
        obtain ⟨f1, f2⟩ := filt_rd hi (p := fun p => decide ((k : Int) ≤ p)) (by simp; omega) (fun p => p - (k : Int))
        obtain ⟨n, hn_⟩ : ∃ n, n = (((saOf t).take i).filter fun p => decide ((k : Int) ≤ p)).length := ⟨_, rfl⟩
        rw [← hn_] at ft f1 f2 ⊢
        have n0 : (0 : Int) ≤ n := by omega
        have n1 : (n : Int) < (((saOf t).filter fun p => decide ((k : Int) ≤ p)).map fun p => p - (k : Int)).length := by omega
        have n2 : ¬ ((((saOf t).filter fun p => decide ((k : Int) ≤ p)).map fun p => p - (k : Int)).length : Int) ≤ n := by omega
        have ry := I4.rd n0 n1
        rw [f2] at ry
        have w1 : IntKind.wrap .i64 (rd (saOf t) i - k) = rd (saOf t) i - k := wrap64 (by omega) (by omega)
        have w2 : IntKind.wrap .i64 ((n : Int) + 1) = (n + 1 : Nat) := wrap64 (by omega) (by omega)
        exact ⟨_, Ev.of fun m => by simp only [f13_L11111111010]; simp only [Option.bind_some, decide_eq_true_eq, decide_eq_false_iff_not, Bool.not_eq_true', Bool.not_true, Bool.not_false, Bool.false_eq_true, Bool.true_eq_false, Bool.not_eq_eq_eq_not, beq_self_eq_true, beqFT, beqTF, decide_true, decide_false, not_false_eq_true, not_true_eq_false, ne_eq, true_and, and_true, false_and, and_false, and_self, if_true, if_false, ite_true, ite_false, Bool.and_true, Bool.and_false, Bool.true_and, Bool.false_and, Bool.or_true, Bool.true_or, Bool.or_false, Bool.false_or, or_true, true_or, or_false, false_or, or_self, AV.asInt, AV.asBool, AV.asSl, AV.asPtr, AV.asFn, AV.asStr, AV.asMap, AV.asIfc, AV.item, List.length_cons, List.length_nil, List.getElem?_cons_zero, List.getElem?_cons_succ, Nat.zero_add, lx, ly, i0, i1, rx, c, n0, n1, n2, ry, w1, w2, w, ft], rfl⟩)
    (by
      rintro s rfl
      exact ⟨_, Ev.of fun m => by simp only [f13_L11111111010]; simp only [Option.bind_some, decide_eq_true_eq, decide_eq_false_iff_not, Bool.not_eq_true', Bool.not_true, Bool.not_false, Bool.false_eq_true, Bool.true_eq_false, Bool.not_eq_eq_eq_not, beq_self_eq_true, beqFT, beqTF, decide_true, decide_false, not_false_eq_true, not_true_eq_false, ne_eq, true_and, and_true, false_and, and_false, and_self, if_true, if_false, ite_true, ite_false, Bool.and_true, Bool.and_false, Bool.true_and, Bool.false_and, Bool.or_true, Bool.true_or, Bool.or_false, Bool.false_or, or_true, true_or, or_false, false_or, or_self, AV.asInt, AV.asBool, AV.asSl, AV.asPtr, AV.asFn, AV.asStr, AV.asMap, AV.asIfc, AV.item, List.length_cons, List.length_nil, List.getElem?_cons_zero, List.getElem?_cons_succ, Nat.zero_add, Int.lt_irrefl, List.take_length], rfl⟩)
    (s := ([.int .i64 0, .int .i64 (saOf t).length, .slice hx, .int .i64 0, .int .i64 0, .slice hy, .int .i64 k], σ4)) (by simp)
  refine ⟨σ4, Runs.intro (fn := Try.f13) (by kernel_rfl) (by kernel_rfl) ?_⟩
  obtain ⟨na, ea⟩ := loopF_ev ea
  obtain ⟨nb, eb⟩ := loopF_ev eb
  refine ⟨k0 + na + k2 + k4 + nb, fun m hm => ?_⟩
  have r0 := r0 m (by omega)
  have ea := ea m (by omega)
  have r2 := r2 m (by omega)
  have r4 := r4 m (by omega)
  have eb := eb m (by omega)
  simp only [Option.bind_some, decide_eq_true_eq, decide_eq_false_iff_not, Bool.not_eq_true', Bool.not_true, Bool.not_false, Bool.false_eq_true, Bool.true_eq_false, Bool.not_eq_eq_eq_not, beq_self_eq_true, beqFT, beqTF, decide_true, decide_false, not_false_eq_true, not_true_eq_false, ne_eq, true_and, and_true, false_and, and_false, and_self, if_true, if_false, ite_true, ite_false, Bool.and_true, Bool.and_false, Bool.true_and, Bool.false_and, Bool.or_true, Bool.true_or, Bool.or_false, Bool.false_or, or_true, true_or, or_false, false_or, or_self, AV.asInt, AV.asBool, AV.asSl, AV.asPtr, AV.asFn, AV.asStr, AV.asMap, AV.asIfc, AV.item, List.length_cons, List.length_nil, List.getElem?_cons_zero, List.getElem?_cons_succ, Nat.zero_add] at r0 ea r2 r4 eb
  simp only [f13_eq]
  simp only [Option.bind_some, decide_eq_true_eq, decide_eq_false_iff_not, Bool.not_eq_true', Bool.not_true, Bool.not_false, Bool.false_eq_true, Bool.true_eq_false, Bool.not_eq_eq_eq_not, beq_self_eq_true, beqFT, beqTF, decide_true, decide_false, not_false_eq_true, not_true_eq_false, ne_eq, true_and, and_true, false_and, and_false, and_self, if_true, if_false, ite_true, ite_false, Bool.and_true, Bool.and_false, Bool.true_and, Bool.false_and, Bool.or_true, Bool.true_or, Bool.or_false, Bool.false_or, or_true, true_or, or_false, false_or, or_self, AV.asInt, AV.asBool, AV.asSl, AV.asPtr, AV.asFn, AV.asStr, AV.asMap, AV.asIfc, AV.item, List.length_cons, List.length_nil, List.getElem?_cons_zero, List.getElem?_cons_succ, Nat.zero_add, r0, ll, ea]
  rw [f13_X111010_1]
  have u0 : ¬ (t.length : Int) + 1 = 0 := by omega
  simp only [Option.bind_some, decide_eq_true_eq, decide_eq_false_iff_not, Bool.not_eq_true', Bool.not_true, Bool.not_false, Bool.false_eq_true, Bool.true_eq_false, Bool.not_eq_eq_eq_not, beq_self_eq_true, beqFT, beqTF, decide_true, decide_false, not_false_eq_true, not_true_eq_false, ne_eq, true_and, and_true, false_and, and_false, and_self, if_true, if_false, ite_true, ite_false, Bool.and_true, Bool.and_false, Bool.true_and, Bool.false_and, Bool.or_true, Bool.true_or, Bool.or_false, Bool.false_or, or_true, true_or, or_false, false_or, or_self, AV.asInt, AV.asBool, AV.asSl, AV.asPtr, AV.asFn, AV.asStr, AV.asMap, AV.asIfc, AV.item, List.length_cons, List.length_nil, List.getElem?_cons_zero, List.getElem?_cons_succ, Nat.zero_add, lt, hk]
  simp only [u1, Option.bind_some, decide_eq_true_eq, decide_eq_false_iff_not, Bool.not_eq_true', Bool.not_true, Bool.not_false, Bool.false_eq_true, Bool.true_eq_false, Bool.not_eq_eq_eq_not, beq_self_eq_true, beqFT, beqTF, decide_true, decide_false, not_false_eq_true, not_true_eq_false, ne_eq, true_and, and_true, false_and, and_false, and_self, if_true, if_false, ite_true, ite_false, Bool.and_true, Bool.and_false, Bool.true_and, Bool.false_and, Bool.or_true, Bool.true_or, Bool.or_false, Bool.false_or, or_true, true_or, or_false, false_or, or_self, AV.asInt, AV.asBool, AV.asSl, AV.asPtr, AV.asFn, AV.asStr, AV.asMap, AV.asIfc, AV.item, List.length_cons, List.length_nil, List.getElem?_cons_zero, List.getElem?_cons_succ, Nat.zero_add, u0, r2, e3, r4, lx, eb]
  rw [f13_X11111111010_2]
  simp only [Option.bind_some, decide_eq_true_eq, decide_eq_false_iff_not, Bool.not_eq_true', Bool.not_true, Bool.not_false, Bool.false_eq_true, Bool.true_eq_false, Bool.not_eq_eq_eq_not, beq_self_eq_true, beqFT, beqTF, decide_true, decide_false, not_false_eq_true, not_true_eq_false, ne_eq, true_and, and_true, false_and, and_false, and_self, if_true, if_false, ite_true, ite_false, Bool.and_true, Bool.and_false, Bool.true_and, Bool.false_and, Bool.or_true, Bool.true_or, Bool.or_false, Bool.false_or, or_true, true_or, or_false, false_or, or_self, AV.asInt, AV.asBool, AV.asSl, AV.asPtr, AV.asFn, AV.asStr, AV.asMap, AV.asIfc, AV.item, List.length_cons, List.length_nil, List.getElem?_cons_zero, List.getElem?_cons_succ, Nat.zero_add, ly, List.length_map]
/-! ### SuffixOrder -/
theorem order_inner {σ0 σ : Store} {hf h6 : Hdl} {f l : List Int} {i x : Int} (hF : Store.Nums .u8 σ0 hf f) (k0 : Kp σ0.objs.length σ0 σ) (hp : σ0.prot ≤ σ0.objs.length) (hn : f.length ≤ 60) (hw : ∀ x ∈ f, 0 ≤ x ∧ x ≤ 255) (g : GrowI σ σ0.objs.length h6 l) (hl : l.length ≤ 10000) :
    ∃ h7 σ', EvI (fun k s => stepF Try.prog (gm Try.prog k) drawn k Try.f9 [1, 1, 1, 1, 0, 1, 0, 0, 1, 0, 0, 0, 1, 0] [38, 37, 36, 7, 6, 5, 1] s)
      ([.int .i64 0, .int .i64 f.length, .slice hf, .int .i64 i, .slice h6, .slice hf, .int .i64 x], σ) (AX.exit 2, [(7, .int .i64 i), (6, .slice h7), (5, .slice hf), (1, .int .i64 x)], σ') ∧ Kp σ0.objs.length σ0 σ' ∧ GrowI σ' σ0.objs.length h7 (l ++ f) := by
  have lf := nums_len hF
  obtain ⟨r, e, h7, σ', rfl, h1, h2⟩ := EvI.up (f := fun k s => stepF Try.prog (gm Try.prog k) drawn k Try.f9 [1, 1, 1, 1, 0, 1, 0, 0, 1, 0, 0, 0, 1, 0] [38, 37, 36, 7, 6, 5, 1] s) f.length
    (fun j s => ∃ h7 s1, s = ([.int .i64 j, .int .i64 f.length, .slice hf, .int .i64 i, .slice h7, .slice hf, .int .i64 x], s1) ∧ Kp σ0.objs.length σ0 s1 ∧ GrowI s1 σ0.objs.length h7 (l ++ f.take j))
    (fun r => ∃ h7 s1, r = (AX.exit 2, [(7, .int .i64 i), (6, .slice h7), (5, .slice hf), (1, .int .i64 x)], s1) ∧ Kp σ0.objs.length σ0 s1 ∧ GrowI s1 σ0.objs.length h7 (l ++ f))
    (by
      rintro j s hj ⟨h7, s1, rfl, kk, gg⟩
      have i0 : (0 : Int) ≤ j := by omega
      have i1 : (j : Int) < f.length := by omega
      have w := wsucc hj (by omega)
      have rx := nums_rd (Store.Sl.kp hF kk) i0 i1
      obtain ⟨x0, x1⟩ := hw _ (rd_mem i0 i1)
      have w1 : IntKind.wrap .i64 (rd f j) = rd f j := wrap64 (by omega) (by omega)
      obtain ⟨h8, s2, e2, k2, g2⟩ := gg.app (by rw [kk.prot]; exact hp) kk.len (rd f j) (by simp; omega)
      exact ⟨_, Ev.of fun k => by simp only [f9_L11110100100010]; simp only [Option.bind_some, decide_eq_true_eq, decide_eq_false_iff_not, Bool.not_eq_true', Bool.not_true, Bool.not_false, Bool.false_eq_true, Bool.true_eq_false, Bool.not_eq_eq_eq_not, beq_self_eq_true, beqFT, beqTF, decide_true, decide_false, not_false_eq_true, not_true_eq_false, ne_eq, true_and, and_true, false_and, and_false, and_self, if_true, if_false, ite_true, ite_false, Bool.and_true, Bool.and_false, Bool.true_and, Bool.false_and, Bool.or_true, Bool.true_or, Bool.or_false, Bool.false_or, or_true, true_or, or_false, false_or, or_self, AV.asInt, AV.asBool, AV.asSl, AV.asPtr, AV.asFn, AV.asStr, AV.asMap, AV.asIfc, AV.item, List.length_cons, List.length_nil, List.getElem?_cons_zero, List.getElem?_cons_succ, Nat.zero_add, lf, i0, i1, rx, w1, read1, e2, w], h8, s2, rfl, kk.trans k2, by rw [take_rd hj, ← List.append_assoc]; exact g2⟩)
    (by
      rintro s ⟨h7, s1, rfl, kk, gg⟩
      rw [List.take_length] at gg
      exact ⟨_, Ev.of fun k => by simp only [f9_L11110100100010]; simp only [Option.bind_some, decide_eq_true_eq, decide_eq_false_iff_not, Bool.not_eq_true', Bool.not_true, Bool.not_false, Bool.false_eq_true, Bool.true_eq_false, Bool.not_eq_eq_eq_not, beq_self_eq_true, beqFT, beqTF, decide_true, decide_false, not_false_eq_true, not_true_eq_false, ne_eq, true_and, and_true, false_and, and_false, and_self, if_true, if_false, ite_true, ite_false, Bool.and_true, Bool.and_false, Bool.true_and, Bool.false_and, Bool.or_true, Bool.true_or, Bool.or_false, Bool.false_or, or_true, true_or, or_false, false_or, or_self, AV.asInt, AV.asBool, AV.asSl, AV.asPtr, AV.asFn, AV.asStr, AV.asMap, AV.asIfc, AV.item, List.length_cons, List.length_nil, List.getElem?_cons_zero, List.getElem?_cons_succ, Nat.zero_add, Int.lt_irrefl], h7, s1, rfl, kk, gg⟩)
    (s := ([.int .i64 0, .int .i64 f.length, .slice hf, .int .i64 i, .slice h6, .slice hf, .int .i64 x], σ)) ⟨h6, σ, rfl, k0, by simpa using g⟩
  exact ⟨h7, σ', e, h1, h2⟩
theorem order_outer {σ : Store} {hf : Hdl} {f : List Int} {x : Int} (hF : Store.Nums .u8 σ hf f) (hp : σ.prot ≤ σ.objs.length) (hn : f.length ≤ 60) (hw : ∀ x ∈ f, 0 ≤ x ∧ x ≤ 255) :
    ∃ t ht σ', EvI (fun k s => stepF Try.prog (gm Try.prog k) drawn k Try.f9 [1, 1, 1, 1, 0, 1, 0] [7, 6, 5, 1] s) ([.int .i64 0, .slice Hdl.nil, .slice hf, .int .i64 x], σ) (AX.exit 0, [(6, .slice ht)], σ') ∧
      Kp σ.objs.length σ σ' ∧ GrowI σ' σ.objs.length ht t ∧ t.length ≤ 4194304 ∧ ∀ x ∈ t, 0 ≤ x ∧ x < 256 := by
  have lf := nums_len hF
  obtain ⟨c, hc, hc0, hc1⟩ : ∃ c : Nat, IntKind.wrap .i64 (1 + IntKind.wrap .i64 (Int.tmod (IntKind.wrap .u64 x) 30)) = (c : Int) ∧ 1 ≤ c ∧ c ≤ 30 := by
    rw [wrapu, Int.tmod_eq_emod_of_nonneg (by omega), wrap64 (x := x % 18446744073709551616 % 30) (by omega) (by omega), wrap64 (by omega) (by omega)]
    exact ⟨(1 + x % 18446744073709551616 % 30).toNat, by omega, by omega, by omega⟩
  obtain ⟨r, e, t, ht, σ', rfl, h1, h2, h3, h4⟩ := EvI.upX (f := fun k s => stepF Try.prog (gm Try.prog k) drawn k Try.f9 [1, 1, 1, 1, 0, 1, 0] [7, 6, 5, 1] s) c
    (fun i s => ∃ t h6 s1, s = ([.int .i64 i, .slice h6, .slice hf, .int .i64 x], s1) ∧ Kp σ.objs.length σ s1 ∧ GrowI s1 σ.objs.length h6 t ∧ t.length ≤ 61 * i ∧ ∀ x ∈ t, 0 ≤ x ∧ x < 256)
    (fun r => ∃ t h6 s1, r = (AX.exit 0, [(6, .slice h6)], s1) ∧ Kp σ.objs.length σ s1 ∧ GrowI s1 σ.objs.length h6 t ∧ t.length ≤ 4194304 ∧ ∀ x ∈ t, 0 ≤ x ∧ x < 256)
    (by
      rintro i s hi ⟨t, h6, s1, rfl, kk, g, tl, tw⟩
      have i1 : (i : Int) < c := by omega
      have l6 := g.ints.ilen
      by_cases c2 : t.length < 1500
      · have c2' : (t.length : Int) < 1500 := by omega
        obtain ⟨h7, s2, e2, k2, g2⟩ := order_inner (i := i) (x := x) hF kk hp hn hw g (by omega)
        obtain ⟨n2, e2⟩ := loopF_ev e2
        have m3 : Int.tmod (i : Int) 3 = (i : Int) % 3 := Int.tmod_eq_emod_of_nonneg (by omega)
        obtain ⟨h8, s3, e3, k3, g3⟩ := g2.app (by rw [k2.prot]; exact hp) k2.len ((i : Int) % 3) (by simp; omega)
        have w := wsucc hi (by omega)
        refine .inl ⟨([.int .i64 (i + 1 : Nat), .slice h8, .slice hf, .int .i64 x], s3), ⟨n2, fun k hk => ?_⟩, _, h8, s3, rfl, k2.trans k3, g3, by simp; omega, fun y hy => ?_⟩
        · have e2 := e2 k hk
          simp only at e2
          simp only [f9_L1111010]
          simp only [Option.bind_some, decide_eq_true_eq, decide_eq_false_iff_not, Bool.not_eq_true', Bool.not_true, Bool.not_false, Bool.false_eq_true, Bool.true_eq_false, Bool.not_eq_eq_eq_not, beq_self_eq_true, beqFT, beqTF, decide_true, decide_false, not_false_eq_true, not_true_eq_false, ne_eq, true_and, and_true, false_and, and_false, and_self, if_true, if_false, ite_true, ite_false, Bool.and_true, Bool.and_false, Bool.true_and, Bool.false_and, Bool.or_true, Bool.true_or, Bool.or_false, Bool.false_or, or_true, true_or, or_false, false_or, or_self, AV.asInt, AV.asBool, AV.asSl, AV.asPtr, AV.asFn, AV.asStr, AV.asMap, AV.asIfc, AV.item, List.length_cons, List.length_nil, List.getElem?_cons_zero, List.getElem?_cons_succ, Nat.zero_add, hc, i1, l6, c2', lf, e2]
          rw [f9_X11110100100010_1]
          simp only [Option.bind_some, decide_eq_true_eq, decide_eq_false_iff_not, Bool.not_eq_true', Bool.not_true, Bool.not_false, Bool.false_eq_true, Bool.true_eq_false, Bool.not_eq_eq_eq_not, beq_self_eq_true, beqFT, beqTF, decide_true, decide_false, not_false_eq_true, not_true_eq_false, ne_eq, true_and, and_true, false_and, and_false, and_self, if_true, if_false, ite_true, ite_false, Bool.and_true, Bool.and_false, Bool.true_and, Bool.false_and, Bool.or_true, Bool.true_or, Bool.or_false, Bool.false_or, or_true, true_or, or_false, false_or, or_self, AV.asInt, AV.asBool, AV.asSl, AV.asPtr, AV.asFn, AV.asStr, AV.asMap, AV.asIfc, AV.item, List.length_cons, List.length_nil, List.getElem?_cons_zero, List.getElem?_cons_succ, Nat.zero_add, m3, read1, e3, w]
        · rcases List.mem_append.1 hy with hy | hy
          · rcases List.mem_append.1 hy with hy | hy
            · exact tw y hy
            · have := hw y hy; omega
          · rw [List.mem_singleton] at hy; omega
      · have c2' : ¬ (t.length : Int) < 1500 := by omega
        exact .inr ⟨(AX.exit 0, [(6, .slice h6)], s1), Ev.of fun k => by simp only [f9_L1111010]; simp only [Option.bind_some, decide_eq_true_eq, decide_eq_false_iff_not, Bool.not_eq_true', Bool.not_true, Bool.not_false, Bool.false_eq_true, Bool.true_eq_false, Bool.not_eq_eq_eq_not, beq_self_eq_true, beqFT, beqTF, decide_true, decide_false, not_false_eq_true, not_true_eq_false, ne_eq, true_and, and_true, false_and, and_false, and_self, if_true, if_false, ite_true, ite_false, Bool.and_true, Bool.and_false, Bool.true_and, Bool.false_and, Bool.or_true, Bool.true_or, Bool.or_false, Bool.false_or, or_true, true_or, or_false, false_or, or_self, AV.asInt, AV.asBool, AV.asSl, AV.asPtr, AV.asFn, AV.asStr, AV.asMap, AV.asIfc, AV.item, List.length_cons, List.length_nil, List.getElem?_cons_zero, List.getElem?_cons_succ, Nat.zero_add, hc, i1, l6, c2'], t, h6, s1, rfl, kk, g, by omega, tw⟩)
    (by
      rintro s ⟨t, h6, s1, rfl, kk, g, tl, tw⟩
      exact ⟨(AX.exit 0, [(6, .slice h6)], s1), Ev.of fun k => by simp only [f9_L1111010]; simp only [Option.bind_some, decide_eq_true_eq, decide_eq_false_iff_not, Bool.not_eq_true', Bool.not_true, Bool.not_false, Bool.false_eq_true, Bool.true_eq_false, Bool.not_eq_eq_eq_not, beq_self_eq_true, beqFT, beqTF, decide_true, decide_false, not_false_eq_true, not_true_eq_false, ne_eq, true_and, and_true, false_and, and_false, and_self, if_true, if_false, ite_true, ite_false, Bool.and_true, Bool.and_false, Bool.true_and, Bool.false_and, Bool.or_true, Bool.true_or, Bool.or_false, Bool.false_or, or_true, true_or, or_false, false_or, or_self, AV.asInt, AV.asBool, AV.asSl, AV.asPtr, AV.asFn, AV.asStr, AV.asMap, AV.asIfc, AV.item, List.length_cons, List.length_nil, List.getElem?_cons_zero, List.getElem?_cons_succ, Nat.zero_add, hc, Int.lt_irrefl], t, h6, s1, rfl, kk, g, by omega, tw⟩)
    (Nat.zero_le _) (s := ([.int .i64 0, .slice Hdl.nil, .slice hf, .int .i64 x], σ)) ⟨[], Hdl.nil, σ, rfl, Kp.refl _ _, Grow.nil _ _ _, by simp, by simp⟩
  exact ⟨t, ht, σ', e, h1, h2, h3, h4⟩
theorem law_SuffixOrder {σ : Store} {h : Hdl} {few : List Int} {x : Int} (hT : Store.Nums .u8 σ h few) (hH : σ.Has h) (hn : few.length < 2 ^ 47) (hw : ∀ n ∈ few, IntKind.min .u8 ≤ n ∧ n ≤ IntKind.max .u8) (hx : IntKind.min .i64 ≤ x ∧ x ≤ IntKind.max .i64) (hp : σ.prot ≤ σ.objs.length) :
    ∃ σ', Runs Try.prog 9 [.slice h, .int .i64 x] σ (.bool true) σ' := by
  have ll := nums_len hT
  obtain ⟨k0, r0⟩ := first_told σ
  have em : mn2 (Int.ofNat h.len) 60 = ((min few.length 60 : Nat) : Int) := by unfold mn2; simp only [Int.ofNat_eq_natCast]; split <;> omega
  obtain ⟨hf, e1, s1, H1, _⟩ := sub_spec (lo := none) (hi := some ((min few.length 60 : Nat) : Int)) hT hH (by simp) (by simp) (by simp; omega)
  simp only [Option.getD_some, Option.getD_none, Int.toNat_natCast, numsL_take, Int.toNat_zero, List.drop_zero] at s1
  have hwf : ∀ x ∈ few.take (min few.length 60), 0 ≤ x ∧ x ≤ 255 := fun x hx => wfb (hw x (List.mem_of_mem_take hx))
  obtain ⟨t, ht, σ1, e2, K1, g, tl, tw⟩ := order_outer (x := x) s1 hp (by simp; omega) hwf
  have lt := g.ints.ilen
  have hp1 : σ1.prot ≤ σ1.objs.length := by rw [K1.prot]; have := K1.len; omega
  have ok1 : okT t 256 = true := okT_of (by omega) (by omega) tl tw
  obtain ⟨ha, σ2, ⟨k2, r2⟩, K2, I2, H2, N2⟩ := array_run (al := 256) g.ints g.has hp1 (by omega)
  have hp2 : σ2.prot ≤ σ2.objs.length := by rw [K2.prot]; have := K2.len; omega
  rw [ok1] at r2 I2
  rw [if_pos rfl] at I2
  have hsa := saOf_spec t
  have hpm : permB (saOf t) = true := permB_iff.2 (by rw [saOf_len]; exact hsa.perm)
  obtain ⟨hr, σ3, ⟨k3, r3⟩, K3, I3, H3⟩ := turn_run I2 hp2 (by rw [saOf_len]; omega)
  rw [hpm] at r3 I3
  rw [if_pos rfl] at I3
  have J2 : σ3.Ints ha (saOf t) := Store.Sl.kp I2 K3
  have g3 := (g.kp K2).kp K3
  have lsa := saOf_len t
  have la := J2.ilen
  have lr := I3.ilen
  rw [inv_length] at lr
  obtain ⟨rb, eb, rfl⟩ := EvI.up (f := fun m s => stepF Try.prog (gm Try.prog m) drawn m Try.f9 [1, 1, 1, 1, 1, 1, 1, 1, 0, 1, 0] [78, 77, 12, 10, 6] s) (saOf t).length
    (fun i s => s = ([.int .i64 i, .int .i64 (saOf t).length, .slice hr, .slice ha, .slice ht], σ3))
    (fun r => r = (AX.exit 4, [], σ3))
    (by
      rintro i s hi rfl
      have i0 : (0 : Int) ≤ i := by omega
      have i1 : (i : Int) < (saOf t).length := by omega
      have w := wsucc hi (by omega)
      have rx := J2.rd i0 i1
      obtain ⟨x0, x1⟩ := saOf_rng (rd_mem i0 i1)
      have ry := I3.rd x0 (by rw [inv_length]; omega)
      rw [inv_of hsa.perm i0 (by omega)] at ry
      have x1' : rd (saOf t) i < (saOf t).length := by omega
      by_cases c : (0 : Int) < i
      · have c1 : (0 : Int) ≤ i - 1 := by omega
        have c2 : (i : Int) - 1 < (saOf t).length := by omega
        have w1 : IntKind.wrap .i64 ((i : Int) - 1) = i - 1 := wrap64 (by omega) (by omega)
        have rp := J2.rd c1 c2
        obtain ⟨y0, y1⟩ := saOf_rng (rd_mem c1 c2)
        have hs := hsa.lt c1 (show (i : Int) - 1 < i by omega) (by omega)
        obtain ⟨n1, q1⟩ := less_run g3.ints (by omega) y0 (by omega) x0 (by omega)
        obtain ⟨n2, q2⟩ := least_run g3.ints g3.has (by omega) (rd (saOf t) ((i : Int) - 1)) (rd (saOf t) i)
        obtain ⟨n3, q3⟩ := least_run g3.ints g3.has (by omega) (rd (saOf t) i) (rd (saOf t) ((i : Int) - 1))
        obtain ⟨l1, l2⟩ := leastOf_lt y0 y1 x0 x1 hs
        rw [l1] at q2
        rw [l2] at q3
        rw [decide_eq_true hs] at q1
        refine ⟨_, ⟨n1 + n2 + n3, fun m hm => ?_⟩, rfl⟩
        have q1 := q1 m (by omega)
        have q2 := q2 m (by omega)
        have q3 := q3 m (by omega)
        simp only at q1 q2 q3
        simp only [f9_L11111111010]; simp only [Option.bind_some, decide_eq_true_eq, decide_eq_false_iff_not, Bool.not_eq_true', Bool.not_true, Bool.not_false, Bool.false_eq_true, Bool.true_eq_false, Bool.not_eq_eq_eq_not, beq_self_eq_true, beqFT, beqTF, decide_true, decide_false, not_false_eq_true, not_true_eq_false, ne_eq, true_and, and_true, false_and, and_false, and_self, if_true, if_false, ite_true, ite_false, Bool.and_true, Bool.and_false, Bool.true_and, Bool.false_and, Bool.or_true, Bool.true_or, Bool.or_false, Bool.false_or, or_true, true_or, or_false, false_or, or_self, AV.asInt, AV.asBool, AV.asSl, AV.asPtr, AV.asFn, AV.asStr, AV.asMap, AV.asIfc, AV.item, List.length_cons, List.length_nil, List.getElem?_cons_zero, List.getElem?_cons_succ, Nat.zero_add, la, lr, i0, i1, rx, x0, x1', ry, c, c1, c2, w1, rp, q1, q2, q3, w]
      · exact ⟨_, Ev.of fun m => by simp only [f9_L11111111010]; simp only [Option.bind_some, decide_eq_true_eq, decide_eq_false_iff_not, Bool.not_eq_true', Bool.not_true, Bool.not_false, Bool.false_eq_true, Bool.true_eq_false, Bool.not_eq_eq_eq_not, beq_self_eq_true, beqFT, beqTF, decide_true, decide_false, not_false_eq_true, not_true_eq_false, ne_eq, true_and, and_true, false_and, and_false, and_self, if_true, if_false, ite_true, ite_false, Bool.and_true, Bool.and_false, Bool.true_and, Bool.false_and, Bool.or_true, Bool.true_or, Bool.or_false, Bool.false_or, or_true, true_or, or_false, false_or, or_self, AV.asInt, AV.asBool, AV.asSl, AV.asPtr, AV.asFn, AV.asStr, AV.asMap, AV.asIfc, AV.item, List.length_cons, List.length_nil, List.getElem?_cons_zero, List.getElem?_cons_succ, Nat.zero_add, la, lr, i0, i1, rx, x0, x1', ry, c, w], rfl⟩)
    (by
      rintro s rfl
      exact ⟨_, Ev.of fun m => by simp only [f9_L11111111010]; simp only [Option.bind_some, decide_eq_true_eq, decide_eq_false_iff_not, Bool.not_eq_true', Bool.not_true, Bool.not_false, Bool.false_eq_true, Bool.true_eq_false, Bool.not_eq_eq_eq_not, beq_self_eq_true, beqFT, beqTF, decide_true, decide_false, not_false_eq_true, not_true_eq_false, ne_eq, true_and, and_true, false_and, and_false, and_self, if_true, if_false, ite_true, ite_false, Bool.and_true, Bool.and_false, Bool.true_and, Bool.false_and, Bool.or_true, Bool.true_or, Bool.or_false, Bool.false_or, or_true, true_or, or_false, false_or, or_self, AV.asInt, AV.asBool, AV.asSl, AV.asPtr, AV.asFn, AV.asStr, AV.asMap, AV.asIfc, AV.item, List.length_cons, List.length_nil, List.getElem?_cons_zero, List.getElem?_cons_succ, Nat.zero_add, Int.lt_irrefl], rfl⟩)
    (s := ([.int .i64 0, .int .i64 (saOf t).length, .slice hr, .slice ha, .slice ht], σ3)) rfl
  refine ⟨σ3, Runs.intro (fn := Try.f9) (by kernel_rfl) (by kernel_rfl) ?_⟩
  obtain ⟨n2, e2⟩ := loopF_ev e2
  obtain ⟨nb, eb⟩ := loopF_ev eb
  refine ⟨k0 + n2 + k2 + k3 + nb, fun m hm => ?_⟩
  have r0 := r0 m (by omega)
  have e2 := e2 m (by omega)
  have r2 := r2 m (by omega)
  have r3 := r3 m (by omega)
  have eb := eb m (by omega)
  simp only [Option.bind_some, decide_eq_true_eq, decide_eq_false_iff_not, Bool.not_eq_true', Bool.not_true, Bool.not_false, Bool.false_eq_true, Bool.true_eq_false, Bool.not_eq_eq_eq_not, beq_self_eq_true, beqFT, beqTF, decide_true, decide_false, not_false_eq_true, not_true_eq_false, ne_eq, true_and, and_true, false_and, and_false, and_self, if_true, if_false, ite_true, ite_false, Bool.and_true, Bool.and_false, Bool.true_and, Bool.false_and, Bool.or_true, Bool.true_or, Bool.or_false, Bool.false_or, or_true, true_or, or_false, false_or, or_self, AV.asInt, AV.asBool, AV.asSl, AV.asPtr, AV.asFn, AV.asStr, AV.asMap, AV.asIfc, AV.item, List.length_cons, List.length_nil, List.getElem?_cons_zero, List.getElem?_cons_succ, Nat.zero_add] at r0 e2 r2 r3 eb
  simp only [f9_eq]
  simp only [Option.bind_some, decide_eq_true_eq, decide_eq_false_iff_not, Bool.not_eq_true', Bool.not_true, Bool.not_false, Bool.false_eq_true, Bool.true_eq_false, Bool.not_eq_eq_eq_not, beq_self_eq_true, beqFT, beqTF, decide_true, decide_false, not_false_eq_true, not_true_eq_false, ne_eq, true_and, and_true, false_and, and_false, and_self, if_true, if_false, ite_true, ite_false, Bool.and_true, Bool.and_false, Bool.true_and, Bool.false_and, Bool.or_true, Bool.true_or, Bool.or_false, Bool.false_or, or_true, true_or, or_false, false_or, or_self, AV.asInt, AV.asBool, AV.asSl, AV.asPtr, AV.asFn, AV.asStr, AV.asMap, AV.asIfc, AV.item, List.length_cons, List.length_nil, List.getElem?_cons_zero, List.getElem?_cons_succ, Nat.zero_add, r0, em, e1, e2]
  rw [f9_X1111010_1]
  have c3 : ((hr.len : Nat) : Int) = ht.len := by rw [lr, lt, lsa]
  simp only [Option.bind_some, decide_eq_true_eq, decide_eq_false_iff_not, Bool.not_eq_true', Bool.not_true, Bool.not_false, Bool.false_eq_true, Bool.true_eq_false, Bool.not_eq_eq_eq_not, beq_self_eq_true, beqFT, beqTF, decide_true, decide_false, not_false_eq_true, not_true_eq_false, ne_eq, true_and, and_true, false_and, and_false, and_self, if_true, if_false, ite_true, ite_false, Bool.and_true, Bool.and_false, Bool.true_and, Bool.false_and, Bool.or_true, Bool.true_or, Bool.or_false, Bool.false_or, or_true, true_or, or_false, false_or, or_self, AV.asInt, AV.asBool, AV.asSl, AV.asPtr, AV.asFn, AV.asStr, AV.asMap, AV.asIfc, AV.item, List.length_cons, List.length_nil, List.getElem?_cons_zero, List.getElem?_cons_succ, Nat.zero_add, r2, r3, c3, la, eb]
  rw [f9_X11111111010_2]
end Go.Ab

/- What is told of first holds. -/
namespace Go.Ab
open Go Go.Proofs
theorem toldOk (hm : Try.prog.follows .mixedOrders = true) : SpS Try.prog (Told.sp Try.prog) ∧ SpK (Told.sp Try.prog) :=
  tell_sound hm fun g hg => by
    rw [List.mem_singleton] at hg; subst hg
    exact ⟨Try.f23, 40, by kernel_rfl, by kernel_rfl, by kernel_rfl, by kernel_rfl⟩
end Go.Ab

/- How long a law's slices are. -/
namespace Go.Ab
open Go Go.ChangeShapes Go.WideShapes
/-- A slice of numbers among a law's arguments: its cells, and how long it is. -/
theorem open_nums {H : Type} {enc : TypeId × Value → H} {P : Program} {W : World} {base : Nat} {held : Bool} {t e : TypeId} {k : IntKind} {a : Option Addr} {len cap : Nat} {d : DataW H} {ps : List MemPlace} {ts : List TypeId} {ds : List (DataW H)} {j : Nat}
    (hsz : (DataW.weightsEach P ts ds).all (· ≤ reachBytes) = true) (ht : ts[j]? = some t) (hd : ds[j]? = some d) (hu : P.underlying t = some (.slice e)) (he : P.underlying e = some (.int k)) (hc : P.cellsOf e = 1) {B : Nat} (hB : P.bytesOf e = B)
    (h : DataW.Trod enc P W base (fun _ => true) held t (.slice a len cap) d ps) : (∃ zs, IsRow k W a len cap zs) ∧ len * B ≤ 140737488351232 := by
  obtain ⟨fuel, hf⟩ := h
  rcases open_ints hu he hc hf with ⟨hcs, _⟩ | ⟨x, l, c, zs, hcs, _, hl, hm, hz, hx, hcell, hwz⟩
  · simp [Value.cells] at hcs
    obtain ⟨rfl, rfl, rfl⟩ := hcs
    exact ⟨⟨[], .inl ⟨rfl, rfl, rfl, rfl⟩⟩, by simp⟩
  · simp [Value.cells] at hcs
    obtain ⟨rfl, rfl, rfl⟩ := hcs
    refine ⟨⟨zs, .inr ⟨_, rfl, hl, hm, by simpa using hz, hcell, hwz⟩⟩, ?_⟩
    obtain ⟨hx, _⟩ := Prod.mk.inj hx
    subst hx
    have z := sized_slice hsz ht hd hu
    rw [hB] at z
    have hz' : zs.length = cap := by simpa using hz
    have h1 : (lits (H := H) k (zs.take len)).length + (lits (H := H) k (zs.drop len)).length = zs.length := by
      simp [lits]
      omega
    rw [h1] at z
    exact Nat.le_trans (Nat.mul_le_mul_right _ (by omega)) z
theorem wf_int {k : IntKind} {n : Int} (h : (Lit.int k n).wf = true) : k.min ≤ n ∧ n ≤ k.max := by
  simpa [Lit.wf] using h
end Go.Ab
