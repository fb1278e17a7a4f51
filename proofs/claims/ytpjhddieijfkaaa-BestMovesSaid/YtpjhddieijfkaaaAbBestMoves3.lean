/- A part of the proof of the law BestMoves: lemmas alone; what each says stands at it. No conditions. -/
import Derived.Test.YtpjhddieijfkaaaAbBestMoves2
import Derived.Test.YtpjhddieijfkaaaAbBestMoves1
import Derived.Shelf.SortM.Plain
import Derived.Shelf.SortM.SortNone
import Derived.Ground.SlgmProg
import Derived.OpenShut
import Derived.WideShapes
/- A level of a wavelet matrix. -/
namespace Go.Ab
open Go Go.Proofs Go.Ab.Wd Go.Ab.Bs Go.Ab.Sai
set_option linter.unusedVariables false
set_option linter.unusedSimpArgs false
theorem bit_test {x : Int} {k : Nat} (x0 : 0 ≤ x) (x1 : x < 2 ^ 62) (hk : k ≤ 64) : bitOp .and .i64 (shrI .i64 x (k : Int)) 1 = ((x.toNat / 2 ^ k % 2 : Nat) : Int) := by
  obtain ⟨a, rfl⟩ := Int.eq_ofNat_of_zero_le x0
  have e : IntKind.i64.bits = 64 := by decide
  have h1 : a / 2 ^ k ≤ a := Nat.div_le_self _ _
  have q : shrI .i64 (a : Int) (k : Int) = ((a / 2 ^ k : Nat) : Int) := by
    unfold shrI
    rw [e, Int.toNat_natCast, Nat.min_eq_left hk, Int.fdiv_eq_ediv_of_nonneg _ (Int.le_of_lt (Int.pow_pos (by omega)))]
    simp
  rw [q]
  show IntKind.wrap .i64 (BitVec.ofInt 64 ((a / 2 ^ k : Nat) : Int) &&& BitVec.ofInt 64 1).toNat = _
  have h2 : (BitVec.ofInt 64 ((a / 2 ^ k : Nat) : Int) &&& BitVec.ofInt 64 1).toNat = a / 2 ^ k % 2 := by
    rw [BitVec.ofInt_natCast, BitVec.toNat_and, BitVec.toNat_ofNat, show (BitVec.ofInt 64 1).toNat = 1 by decide, Nat.and_one_is_mod]
    generalize a / 2 ^ k = u
    omega
  rw [h2, wrap64 (by omega) (by omega), Int.toNat_natCast]
theorem bit_on {x : Int} {k : Nat} (x0 : 0 ≤ x) (x1 : x < 2 ^ 62) (hk : k ≤ 64) (h : bitb k x = true) : bitOp .and .i64 (shrI .i64 x (k : Int)) 1 = 1 := by
  rw [bit_test x0 x1 hk]; simp only [bitb, decide_eq_true_eq] at h; omega
theorem bit_off {x : Int} {k : Nat} (x0 : 0 ≤ x) (x1 : x < 2 ^ 62) (hk : k ≤ 64) (h : bitb k x = false) : ¬ bitOp .and .i64 (shrI .i64 x (k : Int)) 1 = 1 := by
  rw [bit_test x0 x1 hk]; simp only [bitb, decide_eq_false_iff_not] at h; omega
def bitsTo (k n : Nat) (r : List Int) (i : Nat) : List Bool := (r.take i).map (bitb k) ++ List.replicate (n - i) false
theorem bitsTo_len {k : Nat} {r : List Int} {i : Nat} (hi : i ≤ r.length) : (bitsTo k r.length r i).length = r.length := by simp [bitsTo]; omega
theorem bitsTo_off {k : Nat} {r : List Int} {i : Nat} (hi : i < r.length) (h : bitb k (rd r i) = false) : bitsTo k r.length r (i + 1) = bitsTo k r.length r i := by
  unfold bitsTo
  rw [take_rd hi, List.map_append, show r.length - i = (r.length - (i + 1)) + 1 by omega, List.replicate_succ, List.append_assoc]
  simp [h]
theorem bitsTo_on {k : Nat} {r : List Int} {i : Nat} (hi : i < r.length) (h : bitb k (rd r i) = true) : bitsTo k r.length r (i + 1) = (bitsTo k r.length r i).set i true := by
  unfold bitsTo
  rw [take_rd hi, List.map_append, show r.length - i = (r.length - (i + 1)) + 1 by omega, List.replicate_succ, List.append_assoc, List.set_append_right _ _ (show (List.map (bitb k) (List.take i r)).length ≤ i by simp; omega)]
  simp [h, Nat.min_eq_left (Nat.le_of_lt hi)]
theorem bitsTo_end {k : Nat} {r : List Int} : bitsTo k r.length r r.length = r.map (bitb k) := by simp [bitsTo]
theorem split_loop {σ : Store} {L : Nat} {r : List Int} {hr : Hdl} {k : Nat} {pm : Ptr} (hR : σ.Ints hr r) (hL : σ.objs.length = L + 2) (hRo : ∀ x, hr.row = some x → x < L) (P : Pk σ L (List.replicate r.length false)) (hp : σ.prot ≤ L) (hn : r.length < 2 ^ 30) (hk : k ≤ 64) (hx : ∀ x ∈ r, 0 ≤ x ∧ x < 2 ^ 62) :
    ∃ lo hi σ', EvI (fun kk s => stepF Try.prog (gm Try.prog kk) drawn kk Try.f11 [1, 1, 1, 1, 0, 1, 0, 0, 1, 0, 0, 1, 1, 0, 1, 0] [61, 60, 59, 12, 11, 9, 8, 6] s)
      ([.int .i64 0, .int .i64 r.length, .slice hr, .slice Hdl.nil, .slice Hdl.nil, .ptr (some (L + 1, 0)), .int .i64 k, .ptr pm], σ) (AX.exit 2, [(12, .slice hi), (11, .slice lo), (9, .ptr (some (L + 1, 0))), (8, .int .i64 k), (6, .ptr pm)], σ') ∧
      Kp L σ σ' ∧ Pk σ' L (r.map (bitb k)) ∧ GrowI σ' (L + 2) lo (low k r) ∧ GrowI σ' (L + 2) hi (high k r) ∧ (∀ x, lo.row = some x → hi.row ≠ some x) := by
  have lr := hR.ilen
  obtain ⟨rr, e, lo, hi, σ', rfl, h1, h2, h3, h4, h5⟩ := EvI.up (f := fun kk s => stepF Try.prog (gm Try.prog kk) drawn kk Try.f11 [1, 1, 1, 1, 0, 1, 0, 0, 1, 0, 0, 1, 1, 0, 1, 0] [61, 60, 59, 12, 11, 9, 8, 6] s) r.length
    (fun i s => ∃ lo hi s1, s = ([.int .i64 i, .int .i64 r.length, .slice hr, .slice hi, .slice lo, .ptr (some (L + 1, 0)), .int .i64 k, .ptr pm], s1) ∧ Kp L σ s1 ∧ Pk s1 L (bitsTo k r.length r i) ∧ GrowI s1 (L + 2) lo (low k (r.take i)) ∧ GrowI s1 (L + 2) hi (high k (r.take i)) ∧ (∀ x, lo.row = some x → hi.row ≠ some x))
    (fun q => ∃ lo hi s1, q = (AX.exit 2, [(12, .slice hi), (11, .slice lo), (9, .ptr (some (L + 1, 0))), (8, .int .i64 k), (6, .ptr pm)], s1) ∧ Kp L σ s1 ∧ Pk s1 L (r.map (bitb k)) ∧ GrowI s1 (L + 2) lo (low k r) ∧ GrowI s1 (L + 2) hi (high k r) ∧ (∀ x, lo.row = some x → hi.row ≠ some x))
    (by
      rintro i s hi_ ⟨lo, hi, s1, rfl, kk, P1, ga, gb, d⟩
      have i0 : (0 : Int) ≤ i := by omega
      have i1 : (i : Int) < r.length := by omega
      have w := wsucc hi_ (by omega)
      have hR1 : s1.Ints hr r := Store.Sl.keep hR fun c o ho => kk.keep c (hRo c (by simp [Hdl.row, ho]))
      have rx := hR1.rd i0 i1
      have hxr := hx _ (rd_mem i0 i1)
      have l1 := kk.len
      have p1 : s1.prot ≤ L := by rw [kk.prot]; exact hp
      have k0 : (0 : Int) ≤ k := by omega
      cases hb : bitb k (rd r i) with
      | true =>
        have c := bit_on hxr.1 hxr.2 hk hb
        obtain ⟨s2, ⟨n2, r2⟩, k2, o2, P2⟩ := set_run P1 p1 (i := i) (by rw [bitsTo_len (Nat.le_of_lt hi_)]; exact hi_) (by rw [bitsTo_len (Nat.le_of_lt hi_)]; exact hn)
        rw [← bitsTo_on hi_ hb] at P2
        have l2 := o2.len
        have ga2 : GrowI s2 (L + 2) lo _ := ga.keep fun c o ho => o2.off c (by have := ga.rowLt c o ho; omega)
        have gb2 : GrowI s2 (L + 2) hi _ := gb.keep fun c o ho => o2.off c (by have := gb.rowLt c o ho; omega)
        obtain ⟨h', s3, e3, k3, gb3, fr, rw3⟩ := growN_appX (k := .i64) (bs := 8) gb2 (by rw [k2.prot]; omega) (by omega) (rd r i) (by omega) (by omega) (by
          have := List.length_filter_le (bitb k) (r.take i); simp [high] at this ⊢; omega)
        have ga3 : GrowI s3 (L + 2) lo _ := ga2.keepX fun x hx => fr x (ga2.has x hx) fun e => d x hx e
        refine ⟨_, ⟨n2, fun m hm => ?_⟩, lo, h', s3, rfl, (kk.trans k2).trans (k3.mono (by omega)), ⟨?_, P2.row.kp k3 (by omega)⟩, ?_, ?_, fun x hx => ?_⟩
        · have r2 := r2 m hm
          simp only at r2
          simp only [f11_L1111010010011010]
          simp only [Option.bind_some, decide_eq_true_eq, decide_eq_false_iff_not, Bool.not_eq_true', Bool.not_true, Bool.not_false, Bool.false_eq_true, Bool.true_eq_false, Bool.not_eq_eq_eq_not, beq_self_eq_true, beqFT, beqTF, decide_true, decide_false, not_false_eq_true, not_true_eq_false, ne_eq, true_and, and_true, false_and, and_false, and_self, if_true, if_false, ite_true, ite_false, Bool.and_true, Bool.and_false, Bool.true_and, Bool.false_and, Bool.or_true, Bool.true_or, Bool.or_false, Bool.false_or, or_true, true_or, or_false, false_or, or_self, AV.asInt, AV.asBool, AV.asSl, AV.asPtr, AV.asFn, AV.asStr, AV.asMap, AV.asIfc, AV.item, List.length_cons, List.length_nil, List.getElem?_cons_zero, List.getElem?_cons_succ, Nat.zero_add, lr, i0, i1, rx, k0, c, r2, read1, e3, w]
        · obtain ⟨ws, W, wb⟩ := P2.ex
          exact ⟨ws, W.kp k3 (by omega), wb⟩
        · rw [take_rd hi_, low, List.filter_append, List.filter_cons_of_neg (by simp [hb]), List.filter_nil, List.append_nil]; exact ga3
        · rw [take_rd hi_, high, List.filter_append, List.filter_cons_of_pos hb]; exact gb3
        · rcases rw3 with h | h
          · rw [h]; exact d x hx
          · intro e; have := h x e; have := ga2.has x hx; omega
      | false =>
        have c := bit_off hxr.1 hxr.2 hk hb
        obtain ⟨h', s3, e3, k3, ga3, fr, rw3⟩ := growN_appX (k := .i64) (bs := 8) ga (by omega) (by omega) (rd r i) (by omega) (by omega) (by
          have := List.length_filter_le (fun x => !bitb k x) (r.take i); simp [low] at this ⊢; omega)
        have gb3 : GrowI s3 (L + 2) hi _ := gb.keepX fun x hx => fr x (gb.has x hx) fun e => d x e hx
        refine ⟨_, Ev.of fun m => ?_, h', hi, s3, rfl, kk.trans (k3.mono (by omega)), ?_, ?_, ?_, fun x hx => ?_⟩
        · simp only [f11_L1111010010011010]
          simp only [Option.bind_some, decide_eq_true_eq, decide_eq_false_iff_not, Bool.not_eq_true', Bool.not_true, Bool.not_false, Bool.false_eq_true, Bool.true_eq_false, Bool.not_eq_eq_eq_not, beq_self_eq_true, beqFT, beqTF, decide_true, decide_false, not_false_eq_true, not_true_eq_false, ne_eq, true_and, and_true, false_and, and_false, and_self, if_true, if_false, ite_true, ite_false, Bool.and_true, Bool.and_false, Bool.true_and, Bool.false_and, Bool.or_true, Bool.true_or, Bool.or_false, Bool.false_or, or_true, true_or, or_false, false_or, or_self, AV.asInt, AV.asBool, AV.asSl, AV.asPtr, AV.asFn, AV.asStr, AV.asMap, AV.asIfc, AV.item, List.length_cons, List.length_nil, List.getElem?_cons_zero, List.getElem?_cons_succ, Nat.zero_add, lr, i0, i1, rx, k0, c, read1, e3, w]
        · rw [bitsTo_off hi_ hb]
          obtain ⟨ws, W, wb⟩ := P1.ex
          exact ⟨⟨ws, W.kp k3 (by omega), wb⟩, P1.row.kp k3 (by omega)⟩
        · rw [take_rd hi_, low, List.filter_append, List.filter_cons_of_pos (by simp [hb])]; exact ga3
        · rw [take_rd hi_, high, List.filter_append, List.filter_cons_of_neg (by simp [hb]), List.filter_nil, List.append_nil]; exact gb3
        · rcases rw3 with h | h
          · exact d x (h ▸ hx)
          · intro e; have := h x hx; have := gb.has x e; omega)
    (by
      rintro s ⟨lo, hi, s1, rfl, kk, P1, ga, gb, d⟩
      rw [List.take_length] at ga gb
      rw [bitsTo_end] at P1
      exact ⟨(AX.exit 2, [(12, .slice hi), (11, .slice lo), (9, .ptr (some (L + 1, 0))), (8, .int .i64 k), (6, .ptr pm)], s1), Ev.of fun m => by simp only [f11_L1111010010011010]; simp only [Option.bind_some, decide_eq_true_eq, decide_eq_false_iff_not, Bool.not_eq_true', Bool.not_true, Bool.not_false, Bool.false_eq_true, Bool.true_eq_false, Bool.not_eq_eq_eq_not, beq_self_eq_true, beqFT, beqTF, decide_true, decide_false, not_false_eq_true, not_true_eq_false, ne_eq, true_and, and_true, false_and, and_false, and_self, if_true, if_false, ite_true, ite_false, Bool.and_true, Bool.and_false, Bool.true_and, Bool.false_and, Bool.or_true, Bool.true_or, Bool.or_false, Bool.false_or, or_true, true_or, or_false, false_or, or_self, AV.asInt, AV.asBool, AV.asSl, AV.asPtr, AV.asFn, AV.asStr, AV.asMap, AV.asIfc, AV.item, List.length_cons, List.length_nil, List.getElem?_cons_zero, List.getElem?_cons_succ, Nat.zero_add, Int.lt_irrefl], lo, hi, s1, rfl, kk, P1, ga, gb, d⟩)
    (s := ([.int .i64 0, .int .i64 r.length, .slice hr, .slice Hdl.nil, .slice Hdl.nil, .ptr (some (L + 1, 0)), .int .i64 k, .ptr pm], σ))
    ⟨Hdl.nil, Hdl.nil, σ, rfl, Kp.refl _ _, by simpa [bitsTo] using P, Grow.nil _ _ _, Grow.nil _ _ _, fun x hx => by simp [Hdl.row, Hdl.nil] at hx⟩
  exact ⟨lo, hi, σ', e, h1, h2, h3, h4, h5⟩
end Go.Ab


/- A wavelet matrix in memory; how it is made. -/
namespace Go.Ab
open Go Go.Proofs Go.Ab.Wd Go.Ab.Bs Go.Ab.Sai
set_option linter.unusedVariables false
set_option linter.unusedSimpArgs false
/-- The bits of a level. -/
def lev (w : Nat) (l : List Int) (j : Nat) : List Bool := (Bs.rowAt w l (w - j)).map (bitb (w - j - 1))
/-- A matrix in memory. -/
structure Mat (σ : Store) (p : Ptr) (l : List Int) (w : Nat) : Prop where
  ex : ∃ b hl ps, p = some (b, 0) ∧ σ.Row b 3 [.int .i64 l.length, .int .i64 w, .slice hl] ∧ σ.Sl hl 1 (ptrsL ps) ∧ ps.length = w ∧ ∀ j, j < w → ∃ q, ps[j]? = some q ∧ Vec σ q (lev w l j)
  wid : 1 ≤ w ∧ w ≤ 24
  small : l.length ≤ 4194304
  rng : ∀ x ∈ l, 0 ≤ x ∧ x < 2 ^ w
theorem Mat.kp {σ σ' : Store} {p : Ptr} {l : List Int} {w : Nat} (m : Mat σ p l w) (k : Kp σ.objs.length σ σ') : Mat σ' p l w := by
  obtain ⟨b, hl, ps, rfl, R, S, lp, V⟩ := m.ex
  exact ⟨⟨b, hl, ps, rfl, R.kp k R.lt, Store.Sl.kp S k, lp, fun j hj => by obtain ⟨q, e, v⟩ := V j hj; exact ⟨q, e, v.kp k⟩⟩, m.wid, m.small, m.rng⟩
def okW (l : List Int) (most : Int) : Bool := decide (0 ≤ most) && (decide (most < 4194304) && (decide (l.length ≤ 4194304) && !(l.any fun c => decide (c < 0) || decide (most < c))))
theorem okW_iff {l : List Int} {most : Int} : okW l most = true ↔ 0 ≤ most ∧ most < 4194304 ∧ l.length ≤ 4194304 ∧ ∀ x ∈ l, 0 ≤ x ∧ x ≤ most := by
  simp only [okW, Bool.and_eq_true, decide_eq_true_eq, Bool.not_eq_true', List.any_eq_false, Bool.or_eq_true, not_or]
  exact ⟨fun ⟨a, b, c, d⟩ => ⟨a, b, c, fun x hx => by have := d x hx; omega⟩, fun ⟨a, b, c, d⟩ => ⟨a, b, c, fun x hx => by have := d x hx; omega⟩⟩
theorem newC1_run {σ : Store} {b : Nat} {al : Int} (h : σ.ldInt .i64 (some (b, 0)) = some al) (x : Int) : Runs Try.prog 26 [.int .i64 x, .ptr (some (b, 0))] σ (.bool (decide (x < 0) || decide (al < x))) σ := by
  refine Runs.intro (fn := Try.f26) (by kernel_rfl) (by kernel_rfl) (Ev.of fun k => ?_)
  rw [f26_eq]
  by_cases c : x < 0
  · simp [c]
  · simp [c, h]
theorem hasRow {h : Hdl} {x : Nat} (hx : h.row = some x) : ∃ o, h.a = some (x, o) := by
  cases ha : h.a with
  | none => simp [Hdl.row, ha] at hx
  | some bo => obtain ⟨c, o⟩ := bo; simp [Hdl.row, ha] at hx; subst hx; exact ⟨o, rfl⟩
theorem ptrsL_append (l m : List Ptr) : ptrsL (l ++ m) = ptrsL l ++ ptrsL m := by simp [ptrsL]
/-- What holds between two levels. -/
structure NewI (σ3 : Store) (b w : Nat) (l : List Int) (m : Nat) (hrow : Hdl) (s1 : Store) : Prop where
  kk : Kp b σ3 s1
  ex : ∃ hl ps, s1.Row b 3 [.int .i64 l.length, .int .i64 w, .slice hl] ∧ Grow s1 (b + 1) hl 1 (ptrsL ps) ∧ ps.length = w - m ∧
    ∀ j, j < w - m → ∃ p lo hi, ps[j]? = some p ∧ VecF s1 p (lev w l j) (fun x => lo ≤ x ∧ x < hi) ∧ b < lo ∧ hi ≤ s1.objs.length ∧ ∀ x, hl.row = some x → ¬ (lo ≤ x ∧ x < hi)
  row : s1.Ints hrow (Bs.rowAt w l m)
  has : s1.Has hrow
theorem new_round {σ3 : Store} {b w : Nat} {l : List Int} {m : Nat} {hrow : Hdl} {s1 : Store} (I : NewI σ3 b w l (m + 1) hrow s1) (hm : m < w) (hw : w ≤ 24) (hp : s1.prot ≤ b) (hl : l.length ≤ 4194304) (hx : ∀ x ∈ l, 0 ≤ x ∧ x < 2 ^ 62) :
    ∃ hrow' s2, Ev (fun k => stepF Try.prog (gm Try.prog k) drawn k Try.f11 [1, 1, 1, 1, 0, 1, 0] [8, 7, 6] ([.int .i64 m, .slice hrow, .ptr (some (b, 0))], s1))
      (.inl ([.int .i64 ((m : Int) - 1), .slice hrow', .ptr (some (b, 0))], s2)) ∧ NewI σ3 b w l m hrow' s2 := by
  obtain ⟨hl_, ps, R, G, lp, V⟩ := I.ex
  have q0 := row_int R (o := 0) rfl
  have bl := R.lt
  obtain ⟨r, hr⟩ : ∃ r, r = Bs.rowAt w l (m + 1) := ⟨_, rfl⟩
  have lr : r.length = l.length := by rw [hr, rowAt_length]
  have hI := I.row
  rw [← hr] at hI
  -- the packed bits
  obtain ⟨s2, ⟨k2, r2⟩, K2, len2, P2⟩ := packNew_run (σ := s1) (n := l.length) hl
  have I2 : s2.Ints hrow r := Store.Sl.kp hI K2
  obtain ⟨lo, hi, s3, e3, K3, P3, glo, ghi, dd⟩ := split_loop (k := m) (pm := some (b, 0)) I2 len2 (fun x hx => I.has x hx) (by rw [lr]; exact P2) (by rw [K2.prot]; omega) (by omega) (by omega) (fun x hx' => hx x (by rw [hr] at hx'; exact (rowAt_mem _ _ _ _).1 hx'))
  have l3 := K3.len
  have p3 : s3.prot ≤ b := by rw [K3.prot, K2.prot]; exact hp
  have K13 : Kp s1.objs.length s1 s3 := K2.trans K3
  obtain ⟨q, s4, ⟨k4, r4⟩, K4, VF⟩ := rankNew_run P3 (by omega) (by simp; omega)
  have l4 := K4.len
  have K14 : Kp s1.objs.length s1 s4 := K13.trans (K4.mono (by omega))
  have R4 := R.kp K14 bl
  have G4 : Grow s4 (b + 1) hl_ 1 (ptrsL ps) := G.kp K14
  have q4 := row_sl R4 (o := 2) rfl
  have p4 : s4.prot ≤ b := by rw [K4.prot]; exact p3
  have lpl : ps.length ≤ 24 := by omega
  obtain ⟨hl', s5, e5, K5, G5, fr5, rw5⟩ := Grow.app1X G4 (by omega) R4.lt (v := .ptr q) rfl (bs := 8) (by omega) (by simp; omega)
  have l5 := K5.len
  have R5 := R4.kp K5 (Nat.lt_succ_self b)
  have p5 : s5.prot ≤ b := by rw [K5.prot]; exact p4
  have t5 := st_fld R5 p5 (o := 2) (by simp) (v := .slice hl') rfl
  obtain ⟨s6, hs6⟩ : ∃ s, s = s5.setO b (.cells ([.int .i64 l.length, .int .i64 w, .slice hl_].set 2 (.slice hl')) true 3) := ⟨_, rfl⟩
  rw [← hs6] at t5
  have l6 : s6.objs.length = s5.objs.length := by rw [hs6]; exact setO_len
  have p6 : s6.prot ≤ b := by rw [hs6]; exact p5
  have R6 : s6.Row b 3 [.int .i64 l.length, .int .i64 w, .slice hl'] := by rw [hs6]; exact Store.Row.setO_eq R5.lt
  have f6 : ∀ x, x ≠ b → s6.objs[x]? = s5.objs[x]? := fun x hx => by rw [hs6]; show (s5.objs.set b _)[x]? = _; rw [List.getElem?_set, if_neg (by omega)]
  -- what of the lists is left as it was
  have hlr : ∀ x, hl_.row = some x → x < s1.objs.length := fun x hx => G.has x hx
  have old5 : ∀ x, s1.objs.length ≤ x → x < s4.objs.length → s5.objs[x]? = s4.objs[x]? := fun x h1 h2 => fr5 x h2 fun e => by have := hlr x e; omega
  have nlo : ∀ x o, lo.a = some (x, o) → s1.objs.length + 2 ≤ x ∧ x < s3.objs.length := fun x o e => glo.rowLt x o e
  have nhi : ∀ x o, hi.a = some (x, o) → s1.objs.length + 2 ≤ x ∧ x < s3.objs.length := fun x o e => ghi.rowLt x o e
  have keep36 : ∀ x, s1.objs.length ≤ x → x < s3.objs.length → s6.objs[x]? = s3.objs[x]? := fun x h1 h2 => by rw [f6 x (by omega), old5 x h1 (by omega), K4.keep x h2]
  have glo6 : GrowI s6 (s1.objs.length + 2) lo (low m r) := glo.keep fun x o e => keep36 x (by have := nlo x o e; omega) (nlo x o e).2
  have ghi6 : GrowI s6 (s1.objs.length + 2) hi (high m r) := ghi.keep fun x o e => keep36 x (by have := nhi x o e; omega) (nhi x o e).2
  have lwl := low_length m r
  have lh := ghi6.ints.ilen
  have llo := glo6.ints.ilen
  obtain ⟨h7, s7, e7, K7, S7, O7, len7, fr7⟩ := app_spec (xs := intsL (high m r)) (by_ := 8) (m := hi.len) glo6.sl glo6.own (by omega) (by omega) (by omega) (by simp; omega) (intsL_one _) (by omega) (by omega)
  have l7 := K7.len
  have rd6 : Store.readSl s6 hi 1 = some (intsL (high m r)) := Store.Sl.read ghi6.sl
  refine ⟨h7, s7, ?_, ⟨?_, ⟨hl', ps ++ [q], ?_, ?_, ?_, ?_⟩, ?_, ?_⟩⟩
  · obtain ⟨n3, e3⟩ := loopF_ev e3
    refine ⟨k2 + n3 + k4, fun k hk => ?_⟩
    have r2 := r2 k (by omega)
    have e3 := e3 k (by omega)
    have r4 := r4 k (by omega)
    simp only at r2 e3 r4
    have hrl := I2.ilen
    have i0 : (0 : Int) ≤ m := by omega
    have w1 : IntKind.wrap .i64 ((m : Int) - 1) = m - 1 := wrap64 (by omega) (by omega)
    simp only [f11_L1111010]
    simp only [Option.bind_some, decide_eq_true_eq, decide_eq_false_iff_not, Bool.not_eq_true', Bool.not_true, Bool.not_false, Bool.false_eq_true, Bool.true_eq_false, Bool.not_eq_eq_eq_not, beq_self_eq_true, beqFT, beqTF, decide_true, decide_false, not_false_eq_true, not_true_eq_false, ne_eq, true_and, and_true, false_and, and_false, and_self, if_true, if_false, ite_true, ite_false, Bool.and_true, Bool.and_false, Bool.true_and, Bool.false_and, Bool.or_true, Bool.true_or, Bool.or_false, Bool.false_or, or_true, true_or, or_false, false_or, or_self, AV.asInt, AV.asBool, AV.asSl, AV.asPtr, AV.asFn, AV.asStr, AV.asMap, AV.asIfc, AV.item, List.length_cons, List.length_nil, List.getElem?_cons_zero, List.getElem?_cons_succ, Nat.zero_add, i0, q0, r2, hrl, e3]
    rw [f11_X1111010010011010_1]
    simp only [Option.bind_some, decide_eq_true_eq, decide_eq_false_iff_not, Bool.not_eq_true', Bool.not_true, Bool.not_false, Bool.false_eq_true, Bool.true_eq_false, Bool.not_eq_eq_eq_not, beq_self_eq_true, beqFT, beqTF, decide_true, decide_false, not_false_eq_true, not_true_eq_false, ne_eq, true_and, and_true, false_and, and_false, and_self, if_true, if_false, ite_true, ite_false, Bool.and_true, Bool.and_false, Bool.true_and, Bool.false_and, Bool.or_true, Bool.true_or, Bool.or_false, Bool.false_or, or_true, true_or, or_false, false_or, or_self, AV.asInt, AV.asBool, AV.asSl, AV.asPtr, AV.asFn, AV.asStr, AV.asMap, AV.asIfc, AV.item, List.length_cons, List.length_nil, List.getElem?_cons_zero, List.getElem?_cons_succ, Nat.zero_add, r4, q4, read1, e5, t5, rd6, e7, w1]
  · have k56 : Kp b s5 s6 := by rw [hs6]; exact (Kp.refl _ _).setO (Nat.le_refl _)
    exact (((I.kk.trans (K14.mono (by omega))).trans (K5.mono (by omega))).trans k56).trans (K7.mono (by omega))
  · exact R6.kp K7 (by omega)
  · rw [ptrsL_append]
    refine (G5.keep fun x o e => f6 x (by have := G5.rowLt x o e; omega)).keep fun x o e => ?_
    have hx : hl'.row = some x := by simp [Hdl.row, e]
    refine fr7 x (fun c o' e' => ?_) (by have := (G5.rowLt x o e).2; omega)
    have := nlo c o' e'
    rcases rw5 with h | h
    · have := hlr x (h ▸ hx); omega
    · have := h x hx; omega
  · rw [List.length_append, lp]; simp; omega
  · intro j hj
    by_cases c : j < w - (m + 1)
    · obtain ⟨p, a, z, h1, h2, h3, h4, h5⟩ := V j c
      refine ⟨p, a, z, by rw [List.getElem?_append_left (by omega)]; exact h1, h2.keep fun x hx => ?_, h3, by omega, fun x hx => ?_⟩
      · rw [fr7 x (fun c o' e' => by have := nlo c o' e'; omega) (by omega), f6 x (by omega), fr5 x (by omega) fun e => h5 x e hx, K14.keep x (by omega)]
      · rcases rw5 with h | h
        · exact h5 x (h ▸ hx)
        · have := h x hx; omega
    · have ej : j = w - (m + 1) := by omega
      refine ⟨q, s3.objs.length, s4.objs.length, by rw [List.getElem?_append_right (by omega), lp, ej]; simp, ?_, by omega, by omega, fun x hx => ?_⟩
      · have e : lev w l j = r.map (bitb m) := by unfold lev; rw [hr, ej, show w - (w - (m + 1)) = m + 1 by omega]; rfl
        rw [e]
        refine VF.keep fun x hx => ?_
        rw [fr7 x (fun c o' e' => by have := nlo c o' e'; omega) (by omega), f6 x (by omega), old5 x (by omega) hx.2]
      · rcases rw5 with h | h
        · have := hlr x (h ▸ hx); omega
        · have := h x hx; omega
  · rw [rowAt_step w l m hm, ← hr]
    have := S7
    rw [← intsL_append] at this
    exact this
  · intro x hx
    obtain ⟨o, ho⟩ := hasRow hx
    obtain ⟨_, cs, hc, _⟩ := O7.own x o ho
    exact (List.getElem?_eq_some_iff.1 hc).1
end Go.Ab


/- Counts. -/
namespace Go.Ab
open Go Go.Proofs Go.Ab.Wd Go.Ab.Bs Go.Ab.Sai
set_option linter.unusedVariables false
set_option linter.unusedSimpArgs false
/-- How many are below each number. -/
def below (b : List Int) (c : Int) : Int := (cnt (fun x => decide (x < c)) b : Nat)
end Go.Ab


/- A wavelet matrix is made. -/
namespace Go.Ab
open Go Go.Proofs Go.Ab.Wd Go.Ab.Bs Go.Ab.Sai
set_option linter.unusedVariables false
set_option linter.unusedSimpArgs false
theorem waveNew_run {σ : Store} {h : Hdl} {l : List Int} {most : Int} (hT : σ.Ints h l) (hp : σ.prot ≤ σ.objs.length) (hok : okW l most = true) :
    ∃ p w σ', Runs Try.prog 11 [.slice h, .int .i64 most] σ (.tuple [.ptr p, .int .i64 0]) σ' ∧ Kp σ.objs.length σ σ' ∧ Mat σ' p l w ∧ IsWid most.toNat w ∧ p.isNone = false ∧ (∀ σ'' : Store, (∀ x, σ.objs.length ≤ x → σ''.objs[x]? = σ'.objs[x]?) → Mat σ'' p l w) := by
  have ll := hT.ilen
  obtain ⟨m0, m1, ln, hx⟩ := okW_iff.1 hok
  obtain ⟨σ1, h1⟩ : ∃ x, x = σ.push [.int .i64 most] 1 := ⟨_, rfl⟩
  have k1 : Kp σ.objs.length σ σ1 := by rw [h1]; exact Kp.push _ _ (Nat.le_refl _)
  have R1 : σ1.Row σ.objs.length 1 [.int .i64 most] := by rw [h1]; exact Store.Row.new
  have e1 : σ1.ldInt .i64 (some (σ.objs.length, 0)) = some most := by simp only [Store.ldInt, R1.cell]; simp
  have len1 := k1.len
  have c1 : ¬ most < 0 := by omega
  have c2 : ¬ (4194304 : Int) ≤ most := by omega
  have c3 : ¬ (4194304 : Int) < h.len := by omega
  obtain ⟨k2, r2⟩ := containsFunc_run (g := 26) (a := []) (c := [.ptr (some (σ.objs.length, 0))]) (Store.Sl.kp hT k1) (by omega) (fun x _ => newC1_run e1 x)
  have c4 : (l.any fun c => decide (c < 0) || decide (most < c)) = false := by
    simp only [List.any_eq_false, Bool.or_eq_true, decide_eq_true_eq, not_or]
    exact fun x hx' => by have := hx x hx'; omega
  rw [c4] at r2
  obtain ⟨w, ⟨k3, r3⟩, W⟩ := width_run σ1 (x := most.toNat) (by omega)
  have em : ((most.toNat : Nat) : Int) = most := by omega
  rw [em] at r3
  have hw := W.2.1
  have hw1 := W.1
  have u1 : IntKind.wrap .u64 most = most := wrapu64 (by omega) (by omega)
  obtain ⟨b, hb⟩ : ∃ b, b = σ1.objs.length := ⟨_, rfl⟩
  obtain ⟨σ2, h2⟩ : ∃ x, x = σ1.push [.int .i64 l.length, .int .i64 w, .slice Hdl.nil] 3 := ⟨_, rfl⟩
  have k2' : Kp b σ1 σ2 := by rw [h2, hb]; exact Kp.push _ _ (Nat.le_refl _)
  have R2 : σ2.Row b 3 [.int .i64 l.length, .int .i64 w, .slice Hdl.nil] := by rw [h2, hb]; exact Store.Row.new
  have hp1 : σ1.prot ≤ b := by rw [k1.prot]; omega
  have hp2 : σ2.prot ≤ b := by rw [k2'.prot]; exact hp1
  have l2 := R2.lt
  obtain ⟨hc, σ3, ⟨k4, r4⟩, K3, G3⟩ := cloneI_run (Store.Sl.kp (Store.Sl.kp hT k1) (hb ▸ k2')) (by omega) (by omega)
  have R3 := R2.kp K3 l2
  have e3 := row_int R3 (o := 1) rfl
  have hp3 : σ3.prot ≤ b := by rw [K3.prot]; exact hp2
  obtain ⟨r, e, σ4, rfl, hcx, I4⟩ := EvI.downX (f := fun k s => stepF Try.prog (gm Try.prog k) drawn k Try.f11 [1, 1, 1, 1, 0, 1, 0] [8, 7, 6] s)
    (fun m s => ∃ hrow s1, s = ([.int .i64 ((m : Int) - 1), .slice hrow, .ptr (some (b, 0))], s1) ∧ m ≤ w ∧ NewI σ3 b w l m hrow s1)
    (fun r => ∃ s1, r = (AX.exit 0, [(6, .ptr (some (b, 0)))], s1) ∧ ∃ hrow, NewI σ3 b w l 0 hrow s1)
    (by
      rintro m s ⟨hrow, s1, rfl, hm, I⟩
      have em : ((m + 1 : Nat) : Int) - 1 = m := by omega
      rw [em]
      obtain ⟨h', s2, ev, I'⟩ := new_round I (by omega) hw (by rw [I.kk.prot]; exact hp3) ln (fun x hx' => by have := hx x hx'; omega)
      exact .inl ⟨_, ev, h', s2, rfl, by omega, I'⟩)
    (by
      rintro s ⟨hrow, s1, rfl, hm, I⟩
      have c : ¬ (0 : Int) ≤ ((0 : Nat) : Int) - 1 := by omega
      exact ⟨(AX.exit 0, [(6, .ptr (some (b, 0)))], s1), Ev.of fun k => by simp only [f11_L1111010]; simp only [Option.bind_some, decide_eq_true_eq, decide_eq_false_iff_not, Bool.not_eq_true', Bool.not_true, Bool.not_false, Bool.false_eq_true, Bool.true_eq_false, Bool.not_eq_eq_eq_not, beq_self_eq_true, beqFT, beqTF, decide_true, decide_false, not_false_eq_true, not_true_eq_false, ne_eq, true_and, and_true, false_and, and_false, and_self, if_true, if_false, ite_true, ite_false, Bool.and_true, Bool.and_false, Bool.true_and, Bool.false_and, Bool.or_true, Bool.true_or, Bool.or_false, Bool.false_or, or_true, true_or, or_false, false_or, or_self, AV.asInt, AV.asBool, AV.asSl, AV.asPtr, AV.asFn, AV.asStr, AV.asMap, AV.asIfc, AV.item, List.length_cons, List.length_nil, List.getElem?_cons_zero, List.getElem?_cons_succ, Nat.zero_add, c], s1, rfl, hrow, I⟩)
    w (s := ([.int .i64 ((w : Int) - 1), .slice hc, .ptr (some (b, 0))], σ3))
    ⟨hc, σ3, rfl, Nat.le_refl _, Kp.refl _ _, ⟨Hdl.nil, [], R3, Grow.nil _ _ _, by simp, fun j hj => by omega⟩, by rw [rowAt_top]; exact G3.ints, G3.has⟩
  obtain ⟨n5, e⟩ := loopF_ev e
  obtain ⟨hl, ps, R4, G4, lp, V⟩ := I4.ex
  have rg : ∀ x ∈ l, 0 ≤ x ∧ x < 2 ^ w := fun x hx' => by
    have := hx x hx'
    have h3 := W.2.2.1
    have : ((2 : Int) ^ w) = ((2 ^ w : Nat) : Int) := by simp
    omega
  refine ⟨some (b, 0), w, σ4, Runs.intro (fn := Try.f11) (by kernel_rfl) (by kernel_rfl) ⟨k2 + k3 + k4 + n5, fun k hk => ?_⟩, ?_, ⟨⟨b, hl, ps, rfl, R4, G4.sl, by omega, fun j hj => ?_⟩, ⟨by omega, by omega⟩, ln, rg⟩, W, rfl, fun σ'' fr => ⟨⟨b, hl, ps, rfl, (fr b (by omega)).trans R4, G4.sl.keep fun x o e => fr x (by have := G4.rowLt x o e; omega), by omega, fun j hj => ?_⟩, ⟨by omega, by omega⟩, ln, rg⟩⟩
  · have r2 := r2 k (by omega)
    have r3 := r3 k (by omega)
    have r4 := r4 k (by omega)
    have e := e k (by omega)
    simp only at r2 r3 r4 e
    have w1 : IntKind.wrap .i64 ((w : Int) - 1) = w - 1 := wrap64 (by omega) (by omega)
    simp only [f11_eq]
    simp only [Option.bind_some, decide_eq_true_eq, decide_eq_false_iff_not, Bool.not_eq_true', Bool.not_true, Bool.not_false, Bool.false_eq_true, Bool.true_eq_false, Bool.not_eq_eq_eq_not, beq_self_eq_true, beqFT, beqTF, decide_true, decide_false, not_false_eq_true, not_true_eq_false, ne_eq, true_and, and_true, false_and, and_false, and_self, if_true, if_false, ite_true, ite_false, Bool.and_true, Bool.and_false, Bool.true_and, Bool.false_and, Bool.or_true, Bool.true_or, Bool.or_false, Bool.false_or, or_true, true_or, or_false, false_or, or_self, AV.asInt, AV.asBool, AV.asSl, AV.asPtr, AV.asFn, AV.asStr, AV.asMap, AV.asIfc, AV.item, List.length_cons, List.length_nil, List.getElem?_cons_zero, List.getElem?_cons_succ, Nat.zero_add, ← h1, e1, c1, c2, ll] at c3 ⊢
    simp only [Option.bind_some, decide_eq_true_eq, decide_eq_false_iff_not, Bool.not_eq_true', Bool.not_true, Bool.not_false, Bool.false_eq_true, Bool.true_eq_false, Bool.not_eq_eq_eq_not, beq_self_eq_true, beqFT, beqTF, decide_true, decide_false, not_false_eq_true, not_true_eq_false, ne_eq, true_and, and_true, false_and, and_false, and_self, if_true, if_false, ite_true, ite_false, Bool.and_true, Bool.and_false, Bool.true_and, Bool.false_and, Bool.or_true, Bool.true_or, Bool.or_false, Bool.false_or, or_true, true_or, or_false, false_or, or_self, AV.asInt, AV.asBool, AV.asSl, AV.asPtr, AV.asFn, AV.asStr, AV.asMap, AV.asIfc, AV.item, List.length_cons, List.length_nil, List.getElem?_cons_zero, List.getElem?_cons_succ, Nat.zero_add, c3]
    rw [ll] at *
    simp only [Option.bind_some, decide_eq_true_eq, decide_eq_false_iff_not, Bool.not_eq_true', Bool.not_true, Bool.not_false, Bool.false_eq_true, Bool.true_eq_false, Bool.not_eq_eq_eq_not, beq_self_eq_true, beqFT, beqTF, decide_true, decide_false, not_false_eq_true, not_true_eq_false, ne_eq, true_and, and_true, false_and, and_false, and_self, if_true, if_false, ite_true, ite_false, Bool.and_true, Bool.and_false, Bool.true_and, Bool.false_and, Bool.or_true, Bool.true_or, Bool.or_false, Bool.false_or, or_true, true_or, or_false, false_or, or_self, AV.asInt, AV.asBool, AV.asSl, AV.asPtr, AV.asFn, AV.asStr, AV.asMap, AV.asIfc, AV.item, List.length_cons, List.length_nil, List.getElem?_cons_zero, List.getElem?_cons_succ, Nat.zero_add, r2, e1, u1, r3, ← h2, r4, ← hb, e3, w1, e]
    rw [f11_X1111010_1]
  · exact k1.all (hb ▸ (k2'.trans (K3.mono (by omega))).trans I4.kk)
  · obtain ⟨p, lo, hi, h1, h2, _⟩ := V j (by omega)
    exact ⟨p, h1, h2.vec⟩
  · obtain ⟨p, lo, hi, h1, h2, h3, _⟩ := V j (by omega)
    exact ⟨p, h1, (h2.keep fun x hx => fr x (by omega)).vec⟩
end Go.Ab


/- Going down the levels by a prefix of bits. Plain Lean, no program. -/
namespace Go.Ab.Bs
open Go.Ab.Wd
set_option linter.unusedVariables false
set_option linter.unusedSimpArgs false
/-- The upper bits of a number are c. -/
def pre (k c : Nat) (x : Int) : Bool := decide (x.toNat / 2 ^ k = c)
def bn (b : Bool) : Nat := if b = true then 1 else 0
theorem div_succ (x k : Nat) : x / 2 ^ (k + 1) = x / 2 ^ k / 2 := by rw [Nat.pow_succ, Nat.div_div_eq_div_mul]
theorem pre_step (k c : Nat) (one : Bool) (x : Int) : pre k (2 * c + bn one) x = (pre (k + 1) c x && (bitb k x == one)) := by
  unfold pre bitb bn
  rw [div_succ]
  generalize x.toNat / 2 ^ k = u
  rw [Bool.eq_iff_iff]
  cases one <;> simp <;> omega
theorem Part.step {w : Nat} {l s : List Int} {a k c : Nat} (hk : k < w) (h : Part (rowAt w l (k + 1)) a (s.filter (pre (k + 1) c))) (one : Bool) :
    Part (rowAt w l k) (goto ((rowAt w l (k + 1)).map (bitb k)) a one) (s.filter (pre k (2 * c + bn one))) ∧
      goto ((rowAt w l (k + 1)).map (bitb k)) (a + (s.filter (pre (k + 1) c)).length) one = goto ((rowAt w l (k + 1)).map (bitb k)) a one + (s.filter (pre k (2 * c + bn one))).length := by
  have h1 := h.down k one
  rw [List.filter_filter] at h1
  have e : (fun a => (bitb k a == one) && pre (k + 1) c a) = pre k (2 * c + bn one) := by funext x; rw [pre_step k c one x, Bool.and_comm]
  rw [e] at h1
  rw [rowAt_step w l k hk]
  exact h1
theorem pre_top {w : Nat} {x : Int} (hx : x.toNat < 2 ^ w) : pre w 0 x = true := by
  unfold pre; rw [Nat.div_eq_of_lt hx]; simp
theorem Part.top {w : Nat} {l : List Int} (hl : ∀ x ∈ l, x.toNat < 2 ^ w) {a b : Nat} (hab : a ≤ b) (hb : b ≤ l.length) : Part (rowAt w l w) a (((l.take b).drop a).filter (pre w 0)) := by
  rw [rowAt_top, List.filter_eq_self.2]
  · exact Part.of_take hab hb
  · exact fun x hx => pre_top (hl x (List.mem_of_mem_take (List.mem_of_mem_drop hx)))
theorem pre_zero {c : Nat} {x : Int} (hx : 0 ≤ x) : pre 0 c x = decide (x = c) := by
  unfold pre; simp only [Nat.pow_zero, Nat.div_one]; congr 1; exact propext (by omega)
end Go.Ab.Bs


/- What a wavelet matrix answers: at, span, rank, quantile, below. -/
namespace Go.Ab
open Go Go.Proofs Go.Ab.Wd Go.Ab.Bs Go.Ab.Sai
set_option linter.unusedVariables false
set_option linter.unusedSimpArgs false
theorem ptrs_rd {σ : Store} {h : Hdl} {ps : List Ptr} (s : σ.Sl h 1 (ptrsL ps)) {j : Nat} {q : Ptr} (hj : ps[j]? = some q) : σ.ldPtr (h.idx (j : Int) 1) = some q := by
  have : σ.cell (h.idx (j : Int) 1) = some (.ptr q) := Store.Sl.at s (by omega) (by simp [ptrsL, hj])
  simp [Store.ldPtr, this]
section
variable {σ : Store} {p : Ptr} {l : List Int} {w : Nat}
theorem Mat.facts (m : Mat σ p l w) : ∃ b hl, p = some (b, 0) ∧ σ.ldInt .i64 (Ptr.add (some (b, 0)) 0) = some (l.length : Int) ∧ σ.ldInt .i64 (Ptr.add (some (b, 0)) 1) = some (w : Int) ∧ σ.ldSl (Ptr.add (some (b, 0)) 2) = some hl ∧ hl.len = w ∧
    ∀ j, j < w → ∃ q, σ.ldPtr (hl.idx (j : Int) 1) = some q ∧ Vec σ q (lev w l j) := by
  obtain ⟨b, hl, ps, rfl, R, S, lp, V⟩ := m.ex
  refine ⟨b, hl, rfl, row_int R (o := 0) rfl, row_int R (o := 1) rfl, row_sl R (o := 2) rfl, ?_, fun j hj => ?_⟩
  · have := S.len; simp at this; omega
  · obtain ⟨q, e, v⟩ := V j hj
    exact ⟨q, ptrs_rd S e, v⟩
theorem Mat.nat (m : Mat σ p l w) : ∀ x ∈ l, x.toNat < 2 ^ w := fun x hx => by
  have := m.rng x hx
  have e : ((2 : Int) ^ w) = ((2 ^ w : Nat) : Int) := by simp
  omega
theorem lev_length (w : Nat) (l : List Int) (j : Nat) : (lev w l j).length = l.length := by simp [lev, rowAt_length]
theorem lev_eq {w j k : Nat} (l : List Int) (h : w = j + (k + 1)) : lev w l j = (Bs.rowAt w l (k + 1)).map (bitb k) := by
  unfold lev; rw [show w - j = k + 1 by omega]; rfl
theorem matLen_run (m : Mat σ p l w) : Runs Try.prog 34 [.ptr p] σ (.int .i64 l.length) σ := by
  obtain ⟨b, hl, rfl, e0, e1, e2, _, _⟩ := m.facts
  exact Runs.intro (fn := Try.f34) (by kernel_rfl) (by kernel_rfl) (Ev.of fun k => by rw [f34_eq]; simp only [Option.bind_some, decide_eq_true_eq, decide_eq_false_iff_not, Bool.not_eq_true', Bool.not_true, Bool.not_false, Bool.false_eq_true, Bool.true_eq_false, Bool.not_eq_eq_eq_not, beq_self_eq_true, beqFT, beqTF, decide_true, decide_false, not_false_eq_true, not_true_eq_false, ne_eq, true_and, and_true, false_and, and_false, and_self, if_true, if_false, ite_true, ite_false, Bool.and_true, Bool.and_false, Bool.true_and, Bool.false_and, Bool.or_true, Bool.true_or, Bool.or_false, Bool.false_or, or_true, true_or, or_false, false_or, or_self, AV.asInt, AV.asBool, AV.asSl, AV.asPtr, AV.asFn, AV.asStr, AV.asMap, AV.asIfc, AV.item, List.length_cons, List.length_nil, List.getElem?_cons_zero, List.getElem?_cons_succ, Nat.zero_add, Option.isNone_some, e0])
end
end Go.Ab


/- What a wavelet matrix answers: span, rank, quantile, below. -/
namespace Go.Ab
open Go Go.Proofs Go.Ab.Wd Go.Ab.Bs Go.Ab.Sai
set_option linter.unusedVariables false
set_option linter.unusedSimpArgs false
section
variable {σ : Store} {p : Ptr} {l : List Int} {w : Nat}
end
end Go.Ab


/- What a wavelet matrix answers: quantile, below. -/
namespace Go.Ab
open Go Go.Proofs Go.Ab.Wd Go.Ab.Bs Go.Ab.Sai
set_option linter.unusedVariables false
set_option linter.unusedSimpArgs false
def segLo (a : Int) : Nat := (max a 0).toNat
def segHi (l : List Int) (a b : Int) : Nat := (max (max a 0) (min b l.length)).toNat
/-- What of a row is in a range. -/
def seg (l : List Int) (a b : Int) : List Int := (l.take (segHi l a b)).drop (segLo a)
theorem seg_length {l : List Int} {a b : Int} (h : segLo a < l.length) : (seg l a b).length = segHi l a b - segLo a ∧ segLo a ≤ segHi l a b ∧ segHi l a b ≤ l.length := by
  unfold seg segLo segHi at *; simp; omega
theorem seg_mem {l : List Int} {a b x : Int} (h : x ∈ seg l a b) : x ∈ l := List.mem_of_mem_take (List.mem_of_mem_drop h)
section
variable {σ : Store} {p : Ptr} {l : List Int} {w : Nat}
end
end Go.Ab


/- What a wavelet matrix answers: below. -/
namespace Go.Ab
open Go Go.Proofs Go.Ab.Wd Go.Ab.Bs Go.Ab.Sai
set_option linter.unusedVariables false
set_option linter.unusedSimpArgs false
section
variable {σ : Store} {p : Ptr} {l : List Int} {w : Nat}
end
end Go.Ab


/- A matrix of a row, by the laws. -/
namespace Go.Ab
open Go Go.Proofs Go.Ab.Wd Go.Ab.Bs Go.Ab.Sai
set_option linter.unusedVariables false
set_option linter.unusedSimpArgs false
theorem Grow.stX {σ : Store} {n : Nat} {h : Hdl} {l : List AV} (g : Grow σ n h 1 l) (hp : σ.prot ≤ n) {i : Int} (h0 : 0 ≤ i) (h1 : i < l.length) {v : AV} (hv : v.one = true) :
    ∃ σ', σ.stL (h.idx i 1) [v] 0 = some σ' ∧ Kp n σ σ' ∧ Grow σ' n h 1 (l.set i.toNat v) ∧ σ'.objs.length = σ.objs.length ∧ ∀ x, h.row ≠ some x → σ'.objs[x]? = σ.objs[x]? := by
  have hl := g.len
  cases ha : h.a with
  | none => have := g.own.nil ha; omega
  | some bo =>
    obtain ⟨b, o⟩ := bo
    obtain ⟨hb, cs, k1, k2, k3⟩ := g.own.own b o ha
    have hbl : b < σ.objs.length := (List.getElem?_eq_some_iff.1 k1).1
    obtain ⟨σ', e, off, s', w'⟩ := st_spec g.sl ⟨b, o, cs, ha, k1, by omega⟩ h0 h1 hv (b := b) (by simp [Hdl.row, ha])
    have e2 : σ.stL (h.idx i 1) [v] 0 = some (σ.setO b (.cells (cs.set (o + i.toNat) v) true 1)) := by
      rw [stL_one]
      simp only [Hdl.idx, Ptr.add, ha, Option.map_some, Nat.mul_one, Store.st, k1]
      rw [if_pos ⟨⟨by omega, by omega⟩, hv⟩]
      rfl
    rw [e2] at e
    injection e with e
    refine ⟨_, e2, (Kp.refl n σ).setO hb, ⟨by rw [e]; exact s', ⟨fun b' o' e' => ?_, g.own.nil⟩⟩, by simp, fun x hx => by show (σ.objs.set b _)[x]? = _; rw [List.getElem?_set, if_neg (fun e => hx (by simp [Hdl.row, ha, e]))]⟩
    rw [ha] at e'; injection e' with e'; injection e' with e1 e2; subst e1 e2
    exact ⟨hb, _, Store.Row.setO_eq hbl, by simpa using k2, fun c hc => by simpa using k3 c hc⟩
end Go.Ab


/- What a wavelet matrix answers: the numbers there are. -/
namespace Go.Ab
open Go Go.Proofs Go.Ab.Wd Go.Ab.Bs Go.Ab.Sai
set_option linter.unusedVariables false
set_option linter.unusedSimpArgs false
/-- The numbers from one on, n of them, that are there, and how often. -/
def dis (s : List Int) (lo n : Nat) : List (Int × Int) := ((List.range' lo n).filter fun v : Nat => decide (0 < Bs.cnt (fun x => decide (x = (v : Int))) s)).map fun v : Nat => ((v : Int), ((Bs.cnt (fun x => decide (x = (v : Int))) s : Nat) : Int))
theorem dis_split (s : List Int) (lo a b : Nat) : dis s lo (a + b) = dis s lo a ++ dis s (lo + a) b := by
  unfold dis
  rw [← List.map_append, ← List.filter_append]
  rw [List.range'_append_1]
theorem dis_none {s : List Int} {lo n : Nat} (h : ∀ x ∈ s, ¬ (lo ≤ x.toNat ∧ x.toNat < lo + n)) : dis s lo n = [] := by
  unfold dis
  rw [List.filter_eq_nil_iff.2]
  · rfl
  · intro v hv
    simp only [List.mem_range'_1] at hv
    have : Bs.cnt (fun x => decide (x = (v : Int))) s = 0 := by
      unfold Bs.cnt; rw [List.filter_eq_nil_iff.2]
      · rfl
      · intro x hx; have := h x hx; simp; rintro rfl; simp at this; omega
    rw [this]; simp
def pairsL (l : List (Int × Int)) : List AV := l.flatMap fun p => [.int .i64 p.1, .int .i64 p.2]
theorem pairsL_append (a b : List (Int × Int)) : pairsL (a ++ b) = pairsL a ++ pairsL b := by simp [pairsL]
theorem pairsL_length (a : List (Int × Int)) : (pairsL a).length = a.length * 2 := by
  induction a with
  | nil => rfl
  | cons x a ih => rw [show pairsL (x :: a) = [.int .i64 x.1, .int .i64 x.2] ++ pairsL a by simp [pairsL], List.length_append, ih]; simp; omega
theorem read2 (σ : Store) (v u : AV) (cp : Option Nat) : Store.readSl (σ.push [v, u] 2) ⟨some (σ.objs.length, 0), 1, cp⟩ 2 = some [v, u] := by
  simp [Store.readSl, Store.push]
theorem dis_length (s : List Int) (lo n : Nat) : (dis s lo n).length ≤ n := by
  unfold dis; rw [List.length_map]; have := List.length_filter_le (fun v : Nat => decide (0 < Bs.cnt (fun x => decide (x = (v : Int))) s)) (List.range' lo n); rw [List.length_range'] at this; exact this
section
variable {σ0 : Store} {p : Ptr} {l s : List Int} {w : Nat}
end
end Go.Ab


/- Heaps on lists: what goes up, what goes down, the first is the best. Plain Lean, no program. -/
namespace Go.Ab.Hp
set_option linter.unusedVariables false
set_option linter.unusedSimpArgs false
section
variable {α : Type} [Inhabited α]
def at_ (l : List α) (i : Nat) : α := l.getD i default
theorem at_get {l : List α} {i : Nat} (h : i < l.length) : at_ l i = l[i] := by unfold at_; rw [List.getD_eq_getElem?_getD, List.getElem?_eq_getElem h]; rfl
def swap (l : List α) (i j : Nat) : List α := (l.set i (at_ l j)).set j (at_ l i)
@[simp] theorem swap_length (l : List α) (i j : Nat) : (swap l i j).length = l.length := by simp [swap]
theorem swap_perm {l : List α} {i j : Nat} (hi : i < l.length) (hj : j < l.length) : (swap l i j).Perm l := by
  unfold swap
  rw [at_get hi, at_get hj]
  exact List.set_set_perm hi hj
theorem at_swap {l : List α} {i j k : Nat} (hi : i < l.length) (hj : j < l.length) (hk : k < l.length) : at_ (swap l i j) k = if k = j then at_ l i else if k = i then at_ l j else at_ l k := by
  rw [at_get (by simpa using hk)]
  unfold swap
  rw [List.getElem_set]
  by_cases c : j = k
  · rw [if_pos c, if_pos c.symm]
  · rw [if_neg c, if_neg (Ne.symm c), List.getElem_set]
    by_cases d : i = k
    · rw [if_pos d, if_pos d.symm]
    · rw [if_neg d, if_neg (Ne.symm d), at_get hk]
theorem swap_drop {l : List α} {i j n : Nat} (hi : i < n) (hj : j < n) : (swap l i j).drop n = l.drop n := by
  unfold swap
  rw [List.drop_set_of_lt hj, List.drop_set_of_lt hi]
theorem swap_take_perm {l : List α} {i j n : Nat} (hi : i < n) (hj : j < n) (hn : n ≤ l.length) : ((swap l i j).take n).Perm (l.take n) := by
  have h1 := swap_perm (l := l) (i := i) (j := j) (by omega) (by omega)
  rw [← List.take_append_drop n (swap l i j), swap_drop hi hj] at h1
  have h2 : ((swap l i j).take n ++ l.drop n).Perm (l.take n ++ l.drop n) := by rw [List.take_append_drop n l]; exact h1
  exact (List.perm_append_right_iff (l.drop n)).1 h2
/-- Better-than: a strict order of which "not better" may be chained. -/
structure Ord (lt : α → α → Bool) : Prop where
  irr : ∀ a, lt a a = false
  tr : ∀ a b c, lt a b = false → lt b c = false → lt a c = false
  asy : ∀ a b, lt a b = true → lt b a = false
variable {lt : α → α → Bool}
def Heap (lt : α → α → Bool) (l : List α) (n : Nat) : Prop := ∀ i, 0 < i → i < n → lt (at_ l i) (at_ l ((i - 1) / 2)) = false
/-- All is well but for one that may have to go up. -/
structure UpI (lt : α → α → Bool) (l : List α) (n j : Nat) : Prop where
  ok : ∀ i, 0 < i → i < n → i ≠ j → lt (at_ l i) (at_ l ((i - 1) / 2)) = false
  gr : ∀ i, 0 < i → i < n → (i - 1) / 2 = j → 0 < j → lt (at_ l i) (at_ l ((j - 1) / 2)) = false
theorem UpI.stop {l : List α} {n j : Nat} (h : UpI lt l n j) (hj : j = 0 ∨ lt (at_ l j) (at_ l ((j - 1) / 2)) = false) : Heap lt l n := fun i h0 h1 => by
  by_cases c : i = j
  · subst c
    rcases hj with rfl | hj
    · omega
    · exact hj
  · exact h.ok i h0 h1 c
theorem UpI.step (O : Ord lt) {l : List α} {n j : Nat} (h : UpI lt l n j) (hn : n ≤ l.length) (h0 : 0 < j) (hj : j < n) (hl : lt (at_ l j) (at_ l ((j - 1) / 2)) = true) : UpI lt (swap l ((j - 1) / 2) j) n ((j - 1) / 2) := by
  obtain ⟨p, hp⟩ : ∃ p, p = (j - 1) / 2 := ⟨_, rfl⟩
  rw [← hp] at hl ⊢
  have pj : p < j := by omega
  have pl : p < l.length := by omega
  have jl : j < l.length := by omega
  refine ⟨fun i i0 i1 ip => ?_, fun i i0 i1 ie p0 => ?_⟩
  · rw [at_swap pl jl (by omega), at_swap pl jl (by omega)]
    by_cases c : i = j
    · subst c
      rw [if_pos rfl, ← hp, if_neg (by omega), if_pos rfl]
      exact O.asy _ _ hl
    · rw [if_neg c, if_neg ip]
      by_cases d : (i - 1) / 2 = j
      · rw [if_pos d, hp]; exact h.gr i i0 i1 d h0
      · rw [if_neg d]
        by_cases e : (i - 1) / 2 = p
        · rw [if_pos e]
          have h1 := h.ok i i0 i1 c
          rw [e] at h1
          exact O.tr _ _ _ h1 (O.asy _ _ hl)
        · rw [if_neg e]; exact h.ok i i0 i1 c
  · rw [at_swap pl jl (by omega), at_swap pl jl (by omega)]
    rw [if_neg (show ¬ (p - 1) / 2 = j by omega), if_neg (show ¬ (p - 1) / 2 = p by omega)]
    have hpp := h.ok p p0 (by omega) (by omega)
    by_cases c : i = j
    · rw [if_pos c]; exact hpp
    · rw [if_neg c, if_neg (by omega)]
      have h1 := h.ok i i0 i1 c
      rw [ie] at h1
      exact O.tr _ _ _ h1 hpp
/-- All is well but for one that may have to go down. -/
structure DnI (lt : α → α → Bool) (l : List α) (n i : Nat) : Prop where
  ok : ∀ k, 0 < k → k < n → (k - 1) / 2 ≠ i → lt (at_ l k) (at_ l ((k - 1) / 2)) = false
  gr : ∀ k, 0 < k → k < n → (k - 1) / 2 = i → 0 < i → lt (at_ l k) (at_ l ((i - 1) / 2)) = false
theorem DnI.stop {l : List α} {n i : Nat} (h : DnI lt l n i) (h1 : 2 * i + 1 < n → lt (at_ l (2 * i + 1)) (at_ l i) = false) (h2 : 2 * i + 2 < n → lt (at_ l (2 * i + 2)) (at_ l i) = false) : Heap lt l n := fun k k0 k1 => by
  by_cases c : (k - 1) / 2 = i
  · have : k = 2 * i + 1 ∨ k = 2 * i + 2 := by omega
    rcases this with rfl | rfl
    · rw [show (2 * i + 1 - 1) / 2 = i by omega]; exact h1 k1
    · rw [show (2 * i + 2 - 1) / 2 = i by omega]; exact h2 k1
  · exact h.ok k k0 k1 c
theorem DnI.step (O : Ord lt) {l : List α} {n i j : Nat} (h : DnI lt l n i) (hn : n ≤ l.length) (hj : j = 2 * i + 1 ∨ j = 2 * i + 2) (jn : j < n) (hl : lt (at_ l j) (at_ l i) = true)
    (hb : ∀ k, k = 2 * i + 1 ∨ k = 2 * i + 2 → k < n → lt (at_ l k) (at_ l j) = false) : DnI lt (swap l i j) n j := by
  have il : i < l.length := by omega
  have jl : j < l.length := by omega
  refine ⟨fun k k0 k1 kp => ?_, fun k k0 k1 ke j0 => ?_⟩
  · rw [at_swap il jl (by omega), at_swap il jl (by omega)]
    by_cases c : k = j
    · subst c
      rw [if_pos rfl, show (k - 1) / 2 = i by omega, if_neg (by omega), if_pos rfl]
      exact O.asy _ _ hl
    · rw [if_neg c, if_neg kp]
      by_cases d : (k - 1) / 2 = i
      · rw [if_neg (by omega), if_pos d]
        exact hb k (by omega) k1
      · rw [if_neg d]
        by_cases e : k = i
        · rw [if_pos e]
          subst e
          exact h.gr j (by omega) jn (by omega) k0
        · rw [if_neg e]; exact h.ok k k0 k1 d
  · rw [at_swap il jl (by omega), at_swap il jl (by omega)]
    rw [if_neg (by omega), if_neg (by omega), show (j - 1) / 2 = i by omega, if_neg (by omega), if_pos rfl]
    have := h.ok k k0 k1 (by omega)
    rw [ke] at this; exact this
/-- The first is the best. -/
theorem Heap.first (O : Ord lt) {l : List α} {n : Nat} (h : Heap lt l n) (i : Nat) (hi : i < n) : lt (at_ l i) (at_ l 0) = false := by
  induction i using Nat.strongRecOn with
  | ind i ih =>
    rcases Nat.eq_zero_or_pos i with rfl | h0
    · exact O.irr _
    · exact O.tr _ _ _ (h i h0 hi) (ih ((i - 1) / 2) (by omega) (by omega))
theorem Heap.upI {l : List α} {x : α} (h : Heap lt l l.length) : UpI lt (l ++ [x]) (l.length + 1) l.length := by
  have e : ∀ i, i < l.length → at_ (l ++ [x]) i = at_ l i := fun i hi => by rw [at_get (by simp; omega), at_get hi, List.getElem_append_left hi]
  refine ⟨fun i i0 i1 ij => ?_, fun i i0 i1 ie j0 => by omega⟩
  rw [e i (by omega), e _ (by omega)]
  exact h i i0 (by omega)
theorem Heap.dnI (O : Ord lt) {l : List α} (h : Heap lt l l.length) (h0 : 0 < l.length) : DnI lt (swap l 0 (l.length - 1)) (l.length - 1) 0 := by
  refine ⟨fun k k0 k1 kp => ?_, fun k k0 k1 ke i0 => by omega⟩
  rw [at_swap (by omega) (by omega) (by omega), at_swap (by omega) (by omega) (by omega), if_neg (by omega), if_neg (by omega), if_neg (by omega), if_neg kp]
  exact h k k0 (by omega)
end
end Go.Ab.Hp


/- The best numbers of some: parts by the bits that they begin with; what a search has told and what it has left. -/
namespace Go.Ab
open Go Go.Proofs Go.Ab.Wd Go.Ab.Bs Go.Ab.Sai
set_option linter.unusedVariables false
set_option linter.unusedSimpArgs false
/-- A pair is better: it is there more often, or as often, and less. -/
def bet (a b : Int × Int) : Bool := decide (b.2 < a.2) || (decide (a.2 = b.2) && decide (a.1 < b.1))
theorem bet_iff {a b : Int × Int} : bet a b = true ↔ b.2 < a.2 ∨ (a.2 = b.2 ∧ a.1 < b.1) := by unfold bet; simp
abbrev Srt (l : List (Int × Int)) : Prop := l.Pairwise fun a b => bet a b = true
def insB (x : Int × Int) : List (Int × Int) → List (Int × Int)
  | [] => [x]
  | y :: l => if bet x y = true then x :: y :: l else y :: insB x l
def rk : List (Int × Int) → List (Int × Int)
  | [] => []
  | x :: l => insB x (rk l)
theorem insB_perm (x : Int × Int) : ∀ l, (insB x l).Perm (x :: l)
  | [] => List.Perm.refl _
  | y :: l => by
    unfold insB
    split
    · exact List.Perm.refl _
    · exact ((insB_perm x l).cons y).trans (List.Perm.swap x y l)
theorem rk_perm : ∀ l, (rk l).Perm l
  | [] => List.Perm.refl _
  | x :: l => (insB_perm x _).trans ((rk_perm l).cons x)
theorem bet_tri {x y : Int × Int} (h : x.1 ≠ y.1) : bet x y = true ∨ bet y x = true := by
  rw [bet_iff, bet_iff]; omega
theorem bet_tr {x y z : Int × Int} (h : bet x y = true) (k : bet y z = true) : bet x z = true := by
  rw [bet_iff] at *; omega
theorem bet_as {x y : Int × Int} (h : bet x y = true) (k : bet y x = true) : False := by rw [bet_iff] at *; omega
theorem insB_srt (x : Int × Int) : ∀ l, Srt l → (∀ y ∈ l, x.1 ≠ y.1) → Srt (insB x l)
  | [], _, _ => by simp [insB]
  | y :: l, h, hx => by
    rw [Srt, List.pairwise_cons] at h
    unfold insB
    split
    · rename_i c
      rw [Srt, List.pairwise_cons]
      refine ⟨fun z hz => ?_, List.pairwise_cons.2 h⟩
      rcases List.mem_cons.1 hz with rfl | hz
      · exact c
      · exact bet_tr c (h.1 z hz)
    · rename_i c
      rw [Srt, List.pairwise_cons]
      refine ⟨fun z hz => ?_, insB_srt x l h.2 fun z hz => hx z (by simp [hz])⟩
      rcases List.mem_cons.1 ((insB_perm x l).mem_iff.1 hz) with rfl | hz
      · exact (bet_tri (hx y (by simp))).resolve_left c
      · exact h.1 z hz
/-- The first of the pairs are unlike. -/
abbrev Uq (l : List (Int × Int)) : Prop := (l.map (·.1)).Nodup
theorem rk_srt : ∀ l, Uq l → Srt (rk l)
  | [], _ => by simp [rk]
  | x :: l, h => by
    rw [Uq, List.map_cons, List.nodup_cons] at h
    refine insB_srt x _ (rk_srt l h.2) fun y hy e => h.1 ?_
    rw [e]; exact List.mem_map.2 ⟨y, (rk_perm l).mem_iff.1 hy, rfl⟩
theorem srt_uniq {a b : List (Int × Int)} (p : a.Perm b) (ha : Srt a) (hb : Srt b) : a = b := by
  induction a generalizing b with
  | nil => exact (List.nil_perm.1 p).symm ▸ rfl
  | cons x l ih =>
    cases b with
    | nil => exact absurd p.symm (by intro h; have := h.length_eq; simp at this)
    | cons y m =>
      rw [Srt, List.pairwise_cons] at ha hb
      have h1 : y ∈ x :: l := p.mem_iff.2 (by simp)
      have h2 : x ∈ y :: m := p.mem_iff.1 (by simp)
      have e : x = y := by
        rcases List.mem_cons.1 h1 with h1 | h1
        · exact h1.symm
        · rcases List.mem_cons.1 h2 with h2 | h2
          · exact h2
          · exact (bet_as (ha.1 y h1) (hb.1 x h2)).elim
      subst e
      rw [ih (List.Perm.cons_inv p) ha.2 hb.2]
theorem rk_of {a b : List (Int × Int)} (p : a.Perm b) (hb : Srt b) (hu : Uq a) : rk a = b := srt_uniq ((rk_perm a).trans p) (rk_srt a hu) hb
/-! ### the pairs of some numbers -/
theorem dis_fst_mem {s : List Int} {lo n : Nat} {e : Int × Int} (h : e ∈ dis s lo n) : ∃ v : Nat, lo ≤ v ∧ v < lo + n ∧ e = ((v : Int), ((Bs.cnt (fun x => decide (x = (v : Int))) s : Nat) : Int)) ∧ 0 < Bs.cnt (fun x => decide (x = (v : Int))) s := by
  unfold dis at h
  obtain ⟨v, hv, rfl⟩ := List.mem_map.1 h
  obtain ⟨h1, h2⟩ := List.mem_filter.1 hv
  rw [List.mem_range'_1] at h1
  exact ⟨v, h1.1, h1.2, rfl, by simpa using h2⟩
theorem dis_uq (s : List Int) (lo n : Nat) : Uq (dis s lo n) := by
  unfold dis Uq
  rw [List.map_map]
  have : ((List.range' lo n).filter fun v : Nat => decide (0 < Bs.cnt (fun x => decide (x = (v : Int))) s)).Nodup := (List.nodup_range').sublist List.filter_sublist
  exact nodup_map_inj (f := fun v : Nat => (v : Int)) (fun a b e => by have e' : ((a : Int)) = b := e; omega) this
/-- How many numbers begin with some bits. -/
def nOf (s : List Int) (p : Nat × Nat) : Nat := (s.filter (pre p.1 p.2)).length
def eOf (s : List Int) (p : Nat × Nat) : List (Int × Int) := dis s (p.2 * 2 ^ p.1) (2 ^ p.1)
def loOf (p : Nat × Nat) : Nat := p.2 * 2 ^ p.1
theorem pre_iff {k c : Nat} {x : Int} : pre k c x = true ↔ c * 2 ^ k ≤ x.toNat ∧ x.toNat < c * 2 ^ k + 2 ^ k := by
  unfold pre
  rw [decide_eq_true_eq]
  have hp : 0 < 2 ^ k := Nat.two_pow_pos k
  constructor
  · rintro rfl
    have h1 := Nat.div_mul_le_self x.toNat (2 ^ k)
    have h2 := Nat.lt_div_mul_add hp (a := x.toNat)
    omega
  · rintro ⟨h1, h2⟩
    have := Nat.div_eq_of_lt_le (m := x.toNat) (n := 2 ^ k) (k := c) (by omega) (by rw [Nat.add_mul, Nat.one_mul]; omega)
    exact this
theorem eOf_nil {s : List Int} {p : Nat × Nat} (h : nOf s p = 0) : eOf s p = [] := by
  unfold eOf
  refine dis_none fun x hx hb => ?_
  unfold nOf at h
  have : x ∈ s.filter (pre p.1 p.2) := List.mem_filter.2 ⟨hx, pre_iff.2 hb⟩
  rw [List.eq_nil_of_length_eq_zero h] at this
  cases this
theorem cnt_le_nOf {s : List Int} {p : Nat × Nat} {v : Nat} (h0 : loOf p ≤ v) (h1 : v < loOf p + 2 ^ p.1) : Bs.cnt (fun x => decide (x = (v : Int))) s ≤ nOf s p := by
  unfold Bs.cnt nOf
  rw [← List.countP_eq_length_filter, ← List.countP_eq_length_filter]
  refine List.countP_mono_left fun x _ hx => ?_
  have : x = (v : Int) := by simpa using hx
  subst this
  exact pre_iff.2 ⟨by rw [Int.toNat_natCast]; exact h0, by rw [Int.toNat_natCast]; exact h1⟩
theorem eOf_zero {s : List Int} {c : Nat} (h : 0 < nOf s (0, c)) (hs : ∀ x ∈ s, 0 ≤ x) : eOf s (0, c) = [((c : Int), ((nOf s (0, c) : Nat) : Int))] ∧ nOf s (0, c) = Bs.cnt (fun x => decide (x = (c : Int))) s := by
  have e : nOf s (0, c) = Bs.cnt (fun x => decide (x = (c : Int))) s := by
    unfold nOf Bs.cnt
    congr 1
    exact List.filter_congr fun x hx => by rw [pre_zero (hs x hx)]
  refine ⟨?_, e⟩
  unfold eOf dis
  simp only [Nat.pow_zero, Nat.mul_one]
  have r : List.range' c 1 = [c] := rfl
  rw [r, List.filter_cons, if_pos (by rw [e] at h; simpa using h)]
  simp [e]
theorem eOf_succ (s : List Int) (k c : Nat) : eOf s (k + 1, c) = eOf s (k, 2 * c) ++ eOf s (k, 2 * c + 1) := by
  unfold eOf
  simp only
  have h := dis_split s (c * 2 ^ (k + 1)) (2 ^ k) (2 ^ k)
  have e1 : 2 ^ (k + 1) = 2 ^ k + 2 ^ k := by rw [Nat.pow_succ]; omega
  rw [← e1] at h
  rw [h]
  have e2 : c * (2 ^ k + 2 ^ k) = 2 * c * 2 ^ k := by generalize 2 ^ k = m; rw [Nat.mul_add, Nat.mul_assoc, Nat.two_mul]
  have e3 : c * (2 ^ k + 2 ^ k) + 2 ^ k = (2 * c + 1) * 2 ^ k := by rw [e2, Nat.add_mul, Nat.one_mul]
  rw [e1, e3, e2]
def nlt (s : List Int) (p q : Nat × Nat) : Bool := decide (nOf s q < nOf s p) || (decide (nOf s p = nOf s q) && decide (loOf p < loOf q))
theorem nlt_iff {s : List Int} {p q : Nat × Nat} : nlt s p q = true ↔ nOf s q < nOf s p ∨ (nOf s p = nOf s q ∧ loOf p < loOf q) := by unfold nlt; simp
theorem nlt_not {s : List Int} {p q : Nat × Nat} : nlt s p q = false ↔ nOf s p < nOf s q ∨ (nOf s p = nOf s q ∧ loOf q ≤ loOf p) := by
  rw [← Bool.not_eq_true, nlt_iff]; omega
/-- What is told, and what is left. -/
structure SI (s : List Int) (M : Nat) (O : List (Int × Int)) (S : List (Nat × Nat)) : Prop where
  perm : (O ++ S.flatMap (eOf s)).Perm (dis s 0 M)
  srt : Srt O
  all : ∀ o ∈ O, ∀ e ∈ S.flatMap (eOf s), bet o e = true
  pos : ∀ p ∈ S, 0 < nOf s p
theorem SI.congr {s : List Int} {M : Nat} {O : List (Int × Int)} {S S' : List (Nat × Nat)} (h : SI s M O S) (p : S.Perm S') : SI s M O S' := by
  have f : (S.flatMap (eOf s)).Perm (S'.flatMap (eOf s)) := p.flatMap_right _
  exact ⟨(f.symm.append_left O).trans h.perm, h.srt, fun o ho e he => h.all o ho e (f.mem_iff.2 he), fun q hq => h.pos q (p.mem_iff.2 hq)⟩
theorem SI.uq {s : List Int} {M : Nat} {O : List (Int × Int)} {S : List (Nat × Nat)} (h : SI s M O S) : Uq (O ++ S.flatMap (eOf s)) := (h.perm.map (·.1)).nodup_iff.2 (dis_uq s 0 M)
theorem SI.tell {s : List Int} {M : Nat} {O : List (Int × Int)} {S : List (Nat × Nat)} {c : Nat} (h : SI s M O ((0, c) :: S)) (hs : ∀ x ∈ s, 0 ≤ x) (hb : ∀ q ∈ S, nlt s q (0, c) = false) : SI s M (O ++ [((c : Int), ((nOf s (0, c) : Nat) : Int))]) S := by
  obtain ⟨e0, e1⟩ := eOf_zero (c := c) (h.pos _ (List.mem_cons_self)) hs
  have fl : ((0, c) :: S).flatMap (eOf s) = [((c : Int), ((nOf s (0, c) : Nat) : Int))] ++ S.flatMap (eOf s) := by rw [List.flatMap_cons, e0]
  have hu := h.uq
  have hp := h.perm
  have ha := h.all
  rw [fl] at hu hp ha
  rw [← List.append_assoc] at hu hp
  have out : ∀ e ∈ S.flatMap (eOf s), bet ((c : Int), ((nOf s (0, c) : Nat) : Int)) e = true := fun e he => by
    obtain ⟨q, hq, he'⟩ := List.mem_flatMap.1 he
    obtain ⟨v, v0, v1, rfl, _⟩ := dis_fst_mem he'
    have hle := cnt_le_nOf (s := s) (p := q) (v := v) v0 v1
    have hne : (v : Int) ≠ (c : Int) := fun ev => by
      unfold Uq at hu
      rw [List.map_append, List.nodup_append] at hu
      exact hu.2.2 c (List.mem_map.2 ⟨((c : Int), ((nOf s (0, c) : Nat) : Int)), List.mem_append_right O (List.mem_singleton.2 rfl), rfl⟩) v (List.mem_map.2 ⟨_, he, rfl⟩) ev.symm
    have := hb q hq
    rw [nlt_not] at this
    have l0 : loOf (0, c) = c := by simp [loOf]
    rw [l0] at this
    have v0' : loOf q ≤ v := v0
    rw [bet_iff]
    simp only
    omega
  refine ⟨hp, ?_, fun o ho e he => ?_, fun p hp => h.pos p (by simp [hp])⟩
  · rw [Srt, List.pairwise_append]
    exact ⟨h.srt, by simp, fun a ha' b hb' => by rw [List.mem_singleton] at hb'; subst hb'; exact ha a ha' _ (List.mem_append_left _ (List.mem_cons_self))⟩
  · rcases List.mem_append.1 ho with ho | ho
    · exact ha o ho e (List.mem_append_right [((c : Int), ((nOf s (0, c) : Nat) : Int))] he)
    · rw [List.mem_singleton] at ho; subst ho; exact out e he
/-- The two halves of a part, where there is anything. -/
def kid (s : List Int) (p : Nat × Nat) : List (Nat × Nat) := if 0 < nOf s p then [p] else []
theorem kid_flat (s : List Int) (p : Nat × Nat) : (kid s p).flatMap (eOf s) = eOf s p := by
  unfold kid
  split
  · simp
  · rename_i h; rw [eOf_nil (by omega)]; rfl
theorem SI.split {s : List Int} {M : Nat} {O : List (Int × Int)} {S : List (Nat × Nat)} {k c : Nat} (h : SI s M O ((k + 1, c) :: S)) : SI s M O (S ++ kid s (k, 2 * c) ++ kid s (k, 2 * c + 1)) := by
  have f : ((S ++ kid s (k, 2 * c) ++ kid s (k, 2 * c + 1)).flatMap (eOf s)).Perm (((k + 1, c) :: S).flatMap (eOf s)) := by
    rw [List.flatMap_append, List.flatMap_append, kid_flat, kid_flat, List.flatMap_cons, eOf_succ, List.append_assoc]
    exact List.perm_append_comm
  refine ⟨(f.append_left O).trans h.perm, h.srt, fun o ho e he => h.all o ho e (f.mem_iff.1 he), fun p hp => ?_⟩
  rcases List.mem_append.1 hp with hp | hp
  · rcases List.mem_append.1 hp with hp | hp
    · exact h.pos p (by simp [hp])
    · unfold kid at hp; split at hp
      · rw [List.mem_singleton] at hp; subst hp; assumption
      · cases hp
  · unfold kid at hp; split at hp
    · rw [List.mem_singleton] at hp; subst hp; assumption
    · cases hp
theorem SI.start {s : List Int} {w : Nat} : SI s (2 ^ w) [] (kid s (w, 0)) := by
  refine ⟨?_, by simp, by simp, fun p hp => ?_⟩
  · rw [List.nil_append, kid_flat]; unfold eOf; simp
  · unfold kid at hp; split at hp
    · rw [List.mem_singleton] at hp; subst hp; assumption
    · cases hp
theorem SI.res {s : List Int} {M : Nat} {O : List (Int × Int)} {S : List (Nat × Nat)} (h : SI s M O S) : rk (dis s 0 M) = O ++ rk (S.flatMap (eOf s)) := by
  have hu := h.uq
  have hu2 : Uq (S.flatMap (eOf s)) := by
    unfold Uq at hu ⊢
    rw [List.map_append, List.nodup_append] at hu; exact hu.2.1
  refine rk_of (h.perm.symm.trans ((rk_perm _).symm.append_left O)) ?_ (dis_uq s 0 M)
  rw [Srt, List.pairwise_append]
  exact ⟨h.srt, rk_srt _ hu2, fun a ha b hb => h.all a ha b ((rk_perm _).mem_iff.1 hb)⟩
theorem SI.done {s : List Int} {M : Nat} {O : List (Int × Int)} (h : SI s M O []) : O = rk (dis s 0 M) := by
  have := h.res; simpa [rk] using this.symm
theorem SI.take {s : List Int} {M : Nat} {O : List (Int × Int)} {S : List (Nat × Nat)} (h : SI s M O S) : O = (rk (dis s 0 M)).take O.length := by
  rw [h.res]; simp
end Go.Ab


/- Rows of structs: reading, writing, appending. -/
namespace Go.Ab
open Go
set_option linter.unusedVariables false
/-- All of one length. -/
abbrev Uni (es : Nat) (L : List (List AV)) : Prop := ∀ x ∈ L, x.length = es
theorem flat_length {es : Nat} : ∀ {L : List (List AV)}, Uni es L → L.flatten.length = L.length * es
  | [], _ => by simp
  | x :: L, h => by
    rw [List.flatten_cons, List.length_append, flat_length (fun y hy => h y (by simp [hy])), h x (by simp), List.length_cons, Nat.add_mul]; omega
theorem flatS_get {es : Nat} : ∀ {L : List (List AV)} (_ : Uni es L) {i f : Nat} {x : List AV} (_ : L[i]? = some x) (_ : f < es), L.flatten[i * es + f]? = x[f]?
  | [], _, i, f, x, hx, _ => by simp at hx
  | y :: L, h, 0, f, x, hx, hf => by
    simp at hx; subst hx
    rw [Nat.zero_mul, Nat.zero_add, List.flatten_cons, List.getElem?_append_left (by rw [h y (by simp)]; exact hf)]
  | y :: L, h, i + 1, f, x, hx, hf => by
    have hy := h y (by simp)
    rw [List.flatten_cons, List.getElem?_append_right (by rw [hy, Nat.add_mul]; omega), hy, show (i + 1) * es + f - es = i * es + f by rw [Nat.add_mul]; omega]
    exact flatS_get (fun z hz => h z (by simp [hz])) (by simpa using hx) hf
theorem flat_put {es : Nat} : ∀ {L : List (List AV)} (_ : Uni es L) {i : Nat} (_ : i < L.length) {v : List AV} (_ : v.length = es), (L.set i v).flatten = L.flatten.take (i * es) ++ v ++ L.flatten.drop ((i + 1) * es)
  | [], _, i, hi, _, _ => by simp at hi
  | y :: L, h, 0, _, v, hv => by
    have hy := h y (by simp)
    simp only [List.set_cons_zero, List.flatten_cons, Nat.zero_mul, List.take_zero, List.nil_append, Nat.zero_add, Nat.one_mul]
    rw [List.drop_append_of_le_length (by omega), List.drop_of_length_le (by omega), List.nil_append]
  | y :: L, h, i + 1, hi, v, hv => by
    have hy := h y (by simp)
    have ih := flat_put (L := L) (fun z hz => h z (by simp [hz])) (i := i) (by simpa using hi) hv
    simp only [List.set_cons_succ, List.flatten_cons]
    rw [ih]
    have e1 : (i + 1) * es = y.length + i * es := by rw [hy, Nat.add_mul]; omega
    have e2 : (i + 1 + 1) * es = y.length + (i + 1) * es := by rw [hy, Nat.add_mul (i + 1) 1 es]; omega
    rw [e2, e1, List.take_length_add_append, List.drop_length_add_append, ← e1]
    simp
section
variable {σ σ' : Store} {n es : Nat} {h : Hdl} {L : List (List AV)}
theorem slS_len (s : σ.Sl h es L.flatten) (u : Uni es L) (he : 0 < es) : h.len = L.length := by
  have := s.len; rw [flat_length u] at this
  exact Nat.eq_of_mul_eq_mul_right he this
/-- A field of an element. -/
theorem slS_cell (s : σ.Sl h es L.flatten) (u : Uni es L) {i f : Nat} {x : List AV} (hx : L[i]? = some x) (hf : f < es) : σ.cell (Ptr.add (h.idx (i : Int) es) f) = x[f]? := by
  have hi : i < L.length := (List.getElem?_eq_some_iff.1 hx).1
  have he : 0 < es := by omega
  have hl := slS_len s u he
  rcases s.row with h1 | ⟨b, o, cs, rw, h1, h2, h3, h4⟩
  · omega
  · have fl := flat_length u
    have hb : i * es + f < L.flatten.length := by
      rw [fl]
      have : (i + 1) * es ≤ L.length * es := Nat.mul_le_mul_right _ hi
      rw [Nat.add_mul] at this; omega
    simp only [Hdl.idx, Ptr.add, h1, Option.map_some, Store.cell, h2, Int.toNat_natCast]
    rw [← flatS_get u hx hf, ← h4, List.getElem?_take, if_pos hb, List.getElem?_drop, Nat.add_assoc]
theorem slS_int (s : σ.Sl h es L.flatten) (u : Uni es L) {i f : Nat} {x : List AV} {k : IntKind} {v : Int} (hx : L[i]? = some x) (hf : f < es) (hv : x[f]? = some (.int k v)) : σ.ldInt k (Ptr.add (h.idx (i : Int) es) f) = some v := by
  simp only [Store.ldInt, slS_cell s u hx hf, hv, if_true]
/-- Some cells of a row are written, one after the other. -/
theorem stL_row : ∀ (vs : List AV) {σ : Store} {b es0 o i : Nat} {l : List AV} (_ : σ.objs[b]? = some (.cells l true es0)) (_ : σ.prot ≤ b) (_ : o + i + vs.length ≤ l.length) (_ : ∀ v ∈ vs, v.one = true),
    σ.stL (some (b, o)) vs i = some (if vs = [] then σ else σ.setO b (.cells (l.take (o + i) ++ vs ++ l.drop (o + i + vs.length)) true es0))
  | [], σ, b, es0, o, i, l, _, _, _, _ => rfl
  | v :: vs, σ, b, es0, o, i, l, hr, hp, hl, ho => by
    simp only [List.length_cons] at hl
    have h1 : σ.st (Ptr.add (some (b, o)) i) v = some (σ.setO b (.cells (l.set (o + i) v) true es0)) := by
      simp only [Ptr.add, Option.map_some, Store.st, hr]
      rw [if_pos ⟨⟨hp, by omega⟩, ho v (by simp)⟩]; rfl
    have hb : b < σ.objs.length := (List.getElem?_eq_some_iff.1 hr).1
    have hr2 : (σ.setO b (.cells (l.set (o + i) v) true es0)).objs[b]? = some (.cells (l.set (o + i) v) true es0) := by
      show (σ.objs.set b _)[b]? = _
      rw [List.getElem?_set, if_pos rfl, if_pos hb]
    have ih := stL_row vs (σ := σ.setO b (.cells (l.set (o + i) v) true es0)) (o := o) (i := i + 1) hr2 hp (by simp; omega) (fun u hu => ho u (by simp [hu]))
    simp only [Store.stL, h1, Option.bind_some, ih]
    have e0 : l.take (o + i) ++ v :: l.drop (o + i + 1) = l.set (o + i) v := by
      rw [List.set_eq_take_append_cons_drop, if_pos (by omega)]
    by_cases c : vs = []
    · subst c
      simp only [if_true]
      rw [if_neg (by simp)]
      congr 3
      simp [← e0]
    · rw [if_neg c, if_neg (by simp)]
      have ht : (l.set (o + i) v).take (o + (i + 1)) = l.take (o + i) ++ [v] := by
        rw [← e0, List.take_append, List.take_of_length_le (by simp; omega)]
        congr 1
        rw [List.length_take, Nat.min_eq_left (by omega), show o + (i + 1) - (o + i) = 1 by omega]; rfl
      have hd : (l.set (o + i) v).drop (o + (i + 1) + vs.length) = l.drop (o + i + (vs.length + 1)) := by
        rw [List.drop_set_of_lt (by omega)]; congr 1; omega
      have ss : ∀ (x y : AObj), (σ.setO b x).setO b y = σ.setO b y := fun x y => by simp [Store.setO]
      rw [ss, ht, hd]
      simp
theorem take_add' {A B : List AV} {k m : Nat} (h : A.length = k) : (A ++ B).take (k + m) = A ++ B.take m := by subst h; exact List.take_length_add_append _
theorem growS_st (g : Grow σ n h es L.flatten) (u : Uni es L) (hp : σ.prot ≤ n) {i : Nat} (hi : i < L.length) {v : List AV} (hv : v.length = es) (he : 0 < es) (ho : ∀ x ∈ v, x.one = true) :
    ∃ σ', σ.stL (h.idx (i : Int) es) v 0 = some σ' ∧ Kp n σ σ' ∧ Grow σ' n h es (L.set i v).flatten ∧ σ'.objs.length = σ.objs.length ∧ ∀ x, h.row ≠ some x → σ'.objs[x]? = σ.objs[x]? := by
  have hl := slS_len g.sl u he
  have fl := flat_length u
  have hie : (i + 1) * es ≤ L.length * es := Nat.mul_le_mul_right _ hi
  have hi2 : (i + 1) * es = i * es + es := by rw [Nat.add_mul]; omega
  cases ha : h.a with
  | none => have := g.own.nil ha; omega
  | some bo =>
    obtain ⟨b, o⟩ := bo
    obtain ⟨hb, cs, k1, k2, k3⟩ := g.own.own b o ha
    have hbl : b < σ.objs.length := (List.getElem?_eq_some_iff.1 k1).1
    have hrow : (cs.drop o).take L.flatten.length = L.flatten := by
      rcases g.sl.row with h1 | ⟨b', o', cs', rw', h1, h2, h3, h4⟩
      · omega
      · rw [ha] at h1; injection h1 with h1; injection h1 with e1 e2; subst e1 e2
        rw [k1] at h2; injection h2 with h2; injection h2 with e1 e2 e3; subst e1
        exact h4
    rw [hl] at k2
    have st := stL_row v (o := o + i * es) (i := 0) k1 (by omega) (by rw [hv]; omega) ho
    rw [if_neg (by intro e; subst e; simp at hv; omega)] at st
    simp only [Nat.add_zero, hv] at st
    have ep : h.idx (i : Int) es = some (b, o + i * es) := by simp only [Hdl.idx, Ptr.add, ha, Option.map_some, Int.toNat_natCast]
    obtain ⟨cs2, hcs2⟩ : ∃ c, c = cs.take (o + i * es) ++ v ++ cs.drop (o + i * es + es) := ⟨_, rfl⟩
    rw [← hcs2] at st
    have l2 : cs2.length = cs.length := by rw [hcs2]; simp [hv]; omega
    have row2 : (cs2.drop o).take (L.set i v).flatten.length = (L.set i v).flatten := by
      have u2 : Uni es (L.set i v) := fun x hx => by
        rcases List.mem_or_eq_of_mem_set hx with hx | rfl
        · exact u x hx
        · exact hv
      rw [flat_length u2, List.length_set, flat_put u hi hv, ← hrow, fl, hcs2]
      rw [List.append_assoc, List.drop_append_of_le_length (by simp; omega), List.drop_take, show o + i * es - o = i * es by omega]
      have t1 : ((cs.drop o).take (L.length * es)).take (i * es) = (cs.drop o).take (i * es) := by rw [List.take_take, Nat.min_eq_left (by omega)]
      have t2 : ((cs.drop o).take (L.length * es)).drop ((i + 1) * es) = (cs.drop (o + i * es + es)).take (L.length * es - (i + 1) * es) := by
        rw [List.drop_take, List.drop_drop]; congr 2; omega
      rw [t1, t2, List.append_assoc]
      have a1 : ((cs.drop o).take (i * es)).length = i * es := by simp; omega
      have e3 : L.length * es = (i * es) + (es + (L.length * es - (i + 1) * es)) := by omega
      conv => lhs; rw [e3]
      rw [take_add' a1, take_add' hv]
    refine ⟨_, by rw [ep]; exact st, (Kp.refl _ _).setO hb, ⟨⟨?_, .inr ⟨b, o, cs2, true, ha, Store.Row.setO_eq hbl, ?_, row2⟩⟩, ⟨fun b' o' e => ?_, g.own.nil⟩⟩, by simp, fun x hx => ?_⟩
    · rw [hl, flat_length (fun x hx => by rcases List.mem_or_eq_of_mem_set hx with hx | rfl; exact u x hx; exact hv)]; simp
    · rw [flat_length (fun x hx => by rcases List.mem_or_eq_of_mem_set hx with hx | rfl; exact u x hx; exact hv), l2]; simp; omega
    · rw [ha] at e; injection e with e; injection e with e1 e2; subst e1 e2
      exact ⟨hb, cs2, Store.Row.setO_eq hbl, by rw [l2, hl]; omega, fun c hc => by rw [l2]; exact k3 c hc⟩
    · have : x ≠ b := fun e => hx (by simp [Hdl.row, ha, e])
      show (σ.objs.set b _)[x]? = _
      rw [List.getElem?_set, if_neg (Ne.symm this)]
theorem readS (σ : Store) (v : List AV) (cp : Option Nat) (es : Nat) (hv : v.length = es) : Store.readSl (σ.push v es) ⟨some (σ.objs.length, 0), 1, cp⟩ es = some v :=
  (Store.Row.new.sl (by rw [hv]; omega)).read
/-- append of one struct. -/
theorem growS_app (g : Grow σ n h es L.flatten) (u : Uni es L) (hp : σ.prot ≤ n) (hn : n ≤ σ.objs.length) {v : List AV} (hv : v.length = es) (he : 0 < es) (ho : v.all AV.one = true) {bs : Nat} (hb : 0 < bs) (hc : (L.length + 1) * bs ≤ 140737488355328) :
    ∃ h' σ', Store.app (σ.push v es) h es bs v 1 = some (h', σ') ∧ Kp n σ σ' ∧ Grow σ' n h' es (L ++ [v]).flatten ∧ (∀ b, b < σ.objs.length → h.row ≠ some b → σ'.objs[b]? = σ.objs[b]?) ∧ (h'.row = h.row ∨ ∀ b, h'.row = some b → σ.objs.length ≤ b) := by
  have k := Kp.push v es (σ := σ) (Nat.le_refl _)
  have g' := g.kp k
  have hl := slS_len g.sl u he
  obtain ⟨h', σ', e, k', s', o', _, fr⟩ := app_spec (xs := v) (by_ := bs) (m := 1) g'.sl g'.own (by simpa using hp) (by simp; omega) he (by rw [hv]; omega) ho hb (by rw [hl]; exact hc)
  refine ⟨h', σ', e, (Kp.push v es hn).trans k', ⟨by simpa using s', o'⟩, fun b hb hr => ?_, ?_⟩
  · rw [fr b (fun c o e' e2 => hr (by simp [Hdl.row, e', e2])) (by simp; omega)]
    simp only [Store.push]; rw [List.getElem?_append_left hb]
  · rcases app_row e with r | r
    · exact .inl r
    · refine .inr fun b hb => ?_
      rw [r] at hb; injection hb with hb; subst hb; simp
end
end Go.Ab


/- The law WaveSorts. -/
namespace Go.Ab
open Go Go.Proofs Go.Ab.Wd Go.Ab.Bs Go.Ab.Sai
set_option linter.unusedVariables false
set_option linter.unusedSimpArgs false
end Go.Ab


/- The law WaveAdds. -/
namespace Go.Ab
open Go Go.Proofs Go.Ab.Wd Go.Ab.Bs Go.Ab.Sai
set_option linter.unusedVariables false
set_option linter.unusedSimpArgs false
theorem Vec.keep {σ σ' : Store} {p : Ptr} {B : List Bool} (v : Vec σ p B) (k : ∀ x : Nat, x < σ.objs.length → σ'.objs[x]? = σ.objs[x]?) : Vec σ' p B := by
  obtain ⟨b, hw, ha, ws, ah, rfl, R, W, A, wb, ab⟩ := v.ex
  have lt : ∀ {h : Hdl} {l : List AV}, σ.Sl h 1 l → σ'.Sl h 1 l := fun {h l} s => by
    refine ⟨s.len, ?_⟩
    rcases s.row with h1 | ⟨b, o, cs, rw, h1, h2, h3⟩
    · exact .inl h1
    · exact .inr ⟨b, o, cs, rw, h1, (k b (List.getElem?_eq_some_iff.1 h2).1).trans h2, h3⟩
  exact ⟨⟨b, hw, ha, ws, ah, rfl, (k b R.lt).trans R, lt W, lt A, wb, ab⟩, v.small⟩
theorem Mat.keep {σ σ' : Store} {p : Ptr} {l : List Int} {w : Nat} (m : Mat σ p l w) (k : ∀ x : Nat, x < σ.objs.length → σ'.objs[x]? = σ.objs[x]?) : Mat σ' p l w := by
  obtain ⟨b, hl, ps, rfl, R, S, lp, V⟩ := m.ex
  have lt : ∀ {h : Hdl} {l : List AV}, σ.Sl h 1 l → σ'.Sl h 1 l := fun {h l} s => by
    refine ⟨s.len, ?_⟩
    rcases s.row with h1 | ⟨b, o, cs, rw, h1, h2, h3⟩
    · exact .inl h1
    · exact .inr ⟨b, o, cs, rw, h1, (k b (List.getElem?_eq_some_iff.1 h2).1).trans h2, h3⟩
  exact ⟨⟨b, hl, ps, rfl, (k b R.lt).trans R, lt S, lp, fun j hj => by obtain ⟨q, e, v⟩ := V j hj; exact ⟨q, e, v.keep k⟩⟩, m.wid, m.small, m.rng⟩
theorem Mat.quiet {σ : Store} {p : Ptr} {l : List Int} {w : Nat} (m : Mat σ p l w) (n : Nat) : Mat { σ with prot := n } p l w := m.keep fun _ _ => rfl
theorem pairsL_get : ∀ {L : List (Int × Int)} {i : Nat} {u v : Int}, L[i]? = some (u, v) → (pairsL L)[i * 2]? = some (.int .i64 u) ∧ (pairsL L)[i * 2 + 1]? = some (.int .i64 v)
  | [], i, u, v, h => by simp at h
  | x :: L, 0, u, v, h => by simp at h; subst h; simp [pairsL]
  | x :: L, i + 1, u, v, h => by
    have := pairsL_get (L := L) (i := i) (u := u) (v := v) (by simpa using h)
    rw [show pairsL (x :: L) = [.int .i64 x.1, .int .i64 x.2] ++ pairsL L by simp [pairsL]]
    rw [List.getElem?_append_right (by simp; omega), List.getElem?_append_right (by simp; omega)]
    simp only [List.length_cons, List.length_nil, Nat.zero_add]
    rw [show (i + 1) * 2 - 2 = i * 2 by omega, show (i + 1) * 2 + 1 - 2 = i * 2 + 1 by omega]
    exact this
theorem pairs_rd {σ : Store} {h : Hdl} {L : List (Int × Int)} (s : σ.Sl h 2 (pairsL L)) {i : Nat} {u v : Int} (hi : L[i]? = some (u, v)) :
    σ.ldInt .i64 (Ptr.add (h.idx (i : Int) 2) 0) = some u ∧ σ.ldInt .i64 (Ptr.add (h.idx (i : Int) 2) 1) = some v := by
  have hlt : i < L.length := (List.getElem?_eq_some_iff.1 hi).1
  obtain ⟨g0, g1⟩ := pairsL_get hi
  have hl := s.len
  rw [pairsL_length] at hl
  rcases s.row with h0 | ⟨b, o, cs, rw, ha, hb, hc, hd⟩
  · omega
  · have c : ∀ j, j < (pairsL L).length → cs[o + j]? = (pairsL L)[j]? := fun j hj => by
      rw [← hd, List.getElem?_take, if_pos hj, List.getElem?_drop]
    have l2 := pairsL_length L
    have c0 := c (i * 2) (by omega)
    have c1 := c (i * 2 + 1) (by omega)
    rw [g0] at c0
    rw [g1] at c1
    constructor
    · simp only [Store.ldInt, Store.cell, Hdl.idx, Ptr.add, ha, Option.map_some, hb, Int.toNat_natCast, Nat.add_zero, c0, if_true]
    · simp only [Store.ldInt, Store.cell, Hdl.idx, Ptr.add, ha, Option.map_some, hb, Int.toNat_natCast, Nat.add_assoc, c1, if_true]
theorem pairs_len {σ : Store} {h : Hdl} {L : List (Int × Int)} (s : σ.Sl h 2 (pairsL L)) : h.len = L.length := by have := s.len; rw [pairsL_length] at this; omega
/-- A pair is taken into a new row. -/
theorem take2 {σ : Store} {u v : Int} (hp : σ.prot ≤ σ.objs.length) : ∃ σ', Store.stL (σ.push [.int .i64 0, .int .i64 0] 2) (some (σ.objs.length, 0)) [.int .i64 u, .int .i64 v] 0 = some σ' ∧ Kp σ.objs.length σ σ' ∧ σ'.Row σ.objs.length 2 [.int .i64 u, .int .i64 v] := by
  have R : (σ.push [.int .i64 0, .int .i64 0] 2).Row σ.objs.length 2 [.int .i64 0, .int .i64 0] := Store.Row.new
  have t1 := st_fld R (o := 0) (by simpa using hp) (by simp) (v := .int .i64 u) rfl
  obtain ⟨s1, hs1⟩ : ∃ s, s = (σ.push [.int .i64 0, .int .i64 0] 2).setO σ.objs.length (.cells ([.int .i64 0, .int .i64 0].set 0 (.int .i64 u)) true 2) := ⟨_, rfl⟩
  rw [← hs1] at t1
  have R1 : s1.Row σ.objs.length 2 [.int .i64 u, .int .i64 0] := by rw [hs1]; exact Store.Row.setO_eq R.lt
  have p1 : s1.prot ≤ σ.objs.length := by rw [hs1]; exact hp
  have t2 := st_fld R1 (o := 1) p1 (by simp) (v := .int .i64 v) rfl
  refine ⟨s1.setO σ.objs.length (.cells ([.int .i64 u, .int .i64 0].set 1 (.int .i64 v)) true 2), ?_, ?_, Store.Row.setO_eq R1.lt⟩
  · simp only [Store.stL, Ptr.add, Option.map_some, Nat.add_zero, Nat.zero_add, Option.bind_eq_bind] at t1 t2 ⊢
    cases h1 : Store.st (σ.push [.int .i64 0, .int .i64 0] 2) (some (σ.objs.length, 0)) (.int .i64 u) with
    | none => rw [h1] at t1; cases t1
    | some x =>
      rw [h1] at t1
      simp only [Option.bind_some, Option.some.injEq] at t1
      subst t1
      simp only [Option.bind_some]
      exact t2
  · rw [hs1]; exact (((Kp.push _ _ (Nat.le_refl _)).setO (Nat.le_refl _)).setO (Nat.le_refl _))
end Go.Ab


/- The law WaveAdds. -/
namespace Go.Ab
open Go Go.Proofs Go.Ab.Wd Go.Ab.Bs Go.Ab.Sai
set_option linter.unusedVariables false
set_option linter.unusedSimpArgs false
def sum2 (L : List (Int × Int)) : Int := (L.map (·.2)).sum
theorem sum2_append (a b : List (Int × Int)) : sum2 (a ++ b) = sum2 a + sum2 b := by simp [sum2]
theorem umod {a : Int} {n : Nat} (hn : n < 2 ^ 40) : IntKind.wrap .u64 (IntKind.wrap .i64 ((n : Int) + 1)) = (n : Int) + 1 ∧ ∃ k : Nat, IntKind.wrap .i64 (Int.tmod (IntKind.wrap .u64 a) ((n : Int) + 1)) = (k : Int) ∧ k ≤ n := by
  have wu : ∀ x : Int, IntKind.wrap .u64 x = x % 18446744073709551616 := fun x => by
    unfold IntKind.wrap
    have e2 : (2 : Int) ^ IntKind.u64.bits = 18446744073709551616 := by decide
    simp [e2, IntKind.signed]
  refine ⟨by rw [wrap64 (by omega) (by omega), wu]; omega, ?_⟩
  rw [wu, Int.tmod_eq_emod_of_nonneg (by omega)]
  have h1 := Int.emod_nonneg (a % 18446744073709551616) (show ((n : Int) + 1) ≠ 0 by omega)
  have h2 := Int.emod_lt_of_pos (a % 18446744073709551616) (show 0 < ((n : Int) + 1) by omega)
  exact ⟨(a % 18446744073709551616 % ((n : Int) + 1)).toNat, by rw [wrap64 (by omega) (by omega)]; omega, by omega⟩
end Go.Ab


/- The law WaveWidths. -/
namespace Go.Ab
open Go Go.Proofs Go.Ab.Wd Go.Ab.Bs Go.Ab.Sai
set_option linter.unusedVariables false
set_option linter.unusedSimpArgs false
theorem same13_run {σ : Store} {h h' : Hdl} {L : List (Int × Int)} (a : σ.Sl h 2 (pairsL L)) (b : σ.Sl h' 2 (pairsL L)) (hn : L.length < 2 ^ 60) : Runs Try.prog 14 [.slice h, .slice h'] σ (.bool true) σ := by
  have la := pairs_len a
  have lb := pairs_len b
  obtain ⟨r, e, rfl⟩ := EvI.up (f := fun k s => stepF Try.prog (gm Try.prog k) drawn k Try.f14 [1, 1, 0, 1, 0] [13, 12, 1, 0] s) L.length
    (fun i s => s = ([.int .i64 i, .int .i64 L.length, .slice h', .slice h], σ)) (fun r => r = (AX.exit 0, [], σ))
    (by
      rintro i s hi rfl
      have i0 : (0 : Int) ≤ i := by omega
      have i1 : (i : Int) < L.length := by omega
      have i2 : (i : Int) < h.len := by omega
      have i3 : (i : Int) < h'.len := by omega
      have w := wsucc hi (by omega)
      obtain ⟨⟨u, v⟩, huv⟩ : ∃ q, L[i]? = some q := ⟨_, List.getElem?_eq_getElem hi⟩
      obtain ⟨g0, g1⟩ := pairs_rd a huv
      obtain ⟨g2, g3⟩ := pairs_rd b huv
      exact ⟨_, Ev.of fun k => by simp only [f14_L11010]; simp only [Option.bind_some, decide_eq_true_eq, decide_eq_false_iff_not, Bool.not_eq_true', Bool.not_true, Bool.not_false, Bool.false_eq_true, Bool.true_eq_false, Bool.not_eq_eq_eq_not, beq_self_eq_true, beqFT, beqTF, decide_true, decide_false, not_false_eq_true, not_true_eq_false, ne_eq, true_and, and_true, false_and, and_false, and_self, if_true, if_false, ite_true, ite_false, Bool.and_true, Bool.and_false, Bool.true_and, Bool.false_and, Bool.or_true, Bool.true_or, Bool.or_false, Bool.false_or, or_true, true_or, or_false, false_or, or_self, AV.asInt, AV.asBool, AV.asSl, AV.asPtr, AV.asFn, AV.asStr, AV.asMap, AV.asIfc, AV.item, List.length_cons, List.length_nil, List.getElem?_cons_zero, List.getElem?_cons_succ, Nat.zero_add, i0, i1, i2, i3, g0, g1, g2, g3, w], rfl⟩)
    (by
      rintro s rfl
      exact ⟨_, Ev.of fun k => by simp only [f14_L11010]; simp only [Option.bind_some, decide_eq_true_eq, decide_eq_false_iff_not, Bool.not_eq_true', Bool.not_true, Bool.not_false, Bool.false_eq_true, Bool.true_eq_false, Bool.not_eq_eq_eq_not, beq_self_eq_true, beqFT, beqTF, decide_true, decide_false, not_false_eq_true, not_true_eq_false, ne_eq, true_and, and_true, false_and, and_false, and_self, if_true, if_false, ite_true, ite_false, Bool.and_true, Bool.and_false, Bool.true_and, Bool.false_and, Bool.or_true, Bool.true_or, Bool.or_false, Bool.false_or, or_true, true_or, or_false, false_or, or_self, AV.asInt, AV.asBool, AV.asSl, AV.asPtr, AV.asFn, AV.asStr, AV.asMap, AV.asIfc, AV.item, List.length_cons, List.length_nil, List.getElem?_cons_zero, List.getElem?_cons_succ, Nat.zero_add, Int.lt_irrefl], rfl⟩)
    (s := ([.int .i64 0, .int .i64 L.length, .slice h', .slice h], σ)) rfl
  refine Runs.intro (fn := Try.f14) (by kernel_rfl) (by kernel_rfl) ?_
  refine (Ev.bind (loopF_ev e) (Ev.of fun k => f14_X11010_2 (gm Try.prog k) k σ)).congr fun k => ?_
  rw [f14_eq]
  have : (h.len : Int) = h'.len := by omega
  have la' : (h'.len : Int) = L.length := by omega
  simp only [Option.bind_some, decide_eq_true_eq, decide_eq_false_iff_not, Bool.not_eq_true', Bool.not_true, Bool.not_false, Bool.false_eq_true, Bool.true_eq_false, Bool.not_eq_eq_eq_not, beq_self_eq_true, beqFT, beqTF, decide_true, decide_false, not_false_eq_true, not_true_eq_false, ne_eq, true_and, and_true, false_and, and_false, and_self, if_true, if_false, ite_true, ite_false, Bool.and_true, Bool.and_false, Bool.true_and, Bool.false_and, Bool.or_true, Bool.true_or, Bool.or_false, Bool.false_or, or_true, true_or, or_false, false_or, or_self, AV.asInt, AV.asBool, AV.asSl, AV.asPtr, AV.asFn, AV.asStr, AV.asMap, AV.asIfc, AV.item, List.length_cons, List.length_nil, List.getElem?_cons_zero, List.getElem?_cons_succ, Nat.zero_add, this, la']
end Go.Ab


/- The reference's parts, sorted rows, pairs. -/
namespace Go.Ab
open Go Go.Proofs Go.Ab.Wd Go.Ab.Bs Go.Ab.Sai
set_option linter.unusedVariables false
set_option linter.unusedSimpArgs false
/-! ### plain -/
def insr (x : Int) : List Int → List Int
  | [] => [x]
  | y :: o => if y ≤ x then y :: insr x o else x :: y :: o
def srt (l : List Int) : List Int := l.foldl (fun o x => insr x o) []
theorem dis_congr {s t : List Int} {lo n : Nat} (h : ∀ v : Nat, lo ≤ v → v < lo + n → Bs.cnt (fun x => decide (x = (v : Int))) s = Bs.cnt (fun x => decide (x = (v : Int))) t) : dis s lo n = dis t lo n := by
  unfold dis
  have e : ((List.range' lo n).filter fun v : Nat => decide (0 < Bs.cnt (fun x => decide (x = (v : Int))) s)) = ((List.range' lo n).filter fun v : Nat => decide (0 < Bs.cnt (fun x => decide (x = (v : Int))) t)) := by
    apply List.filter_congr
    intro v hv
    simp only [List.mem_range'_1] at hv
    rw [h v hv.1 hv.2]
  rw [e]
  apply List.map_congr_left
  intro v hv
  have hv := (List.mem_filter.1 hv).1
  simp only [List.mem_range'_1] at hv
  rw [h v hv.1 hv.2]
/-! ### Part -/
/-! ### Sorted -/
end Go.Ab


/- The law WaveRanges. -/
namespace Go.Ab
open Go Go.Proofs Go.Ab.Wd Go.Ab.Bs Go.Ab.Sai
set_option linter.unusedVariables false
set_option linter.unusedSimpArgs false
end Go.Ab


/- Parts in memory: Len, Less, Swap. -/
namespace Go.Ab
open Go Go.Proofs Go.Ab.Wd Go.Ab.Bs Go.Ab.Sai
set_option linter.unusedVariables false
set_option linter.unusedSimpArgs false
abbrev Pt := Nat × Nat × Nat × Nat × Nat
def pcs (x : Pt) : List AV := [.int .i64 x.1, .int .i64 x.2.1, .int .i64 x.2.2.1, .int .i64 x.2.2.2.1, .int .i64 x.2.2.2.2]
abbrev pfl (L : List Pt) : List AV := (L.map pcs).flatten
theorem pfl_uni (L : List Pt) : Uni 5 (L.map pcs) := fun x hx => by
  obtain ⟨y, _, rfl⟩ := List.mem_map.1 hx; rfl
def pn (x : Pt) : Nat := x.2.2.2.2 - x.2.2.2.1
def plt (x y : Pt) : Bool := decide (pn y < pn x) || (decide (pn x = pn y) && decide (x.2.2.1 < y.2.2.1))
theorem plt_iff {x y : Pt} : plt x y = true ↔ pn y < pn x ∨ (pn x = pn y ∧ x.2.2.1 < y.2.2.1) := by unfold plt; simp
theorem plt_not {x y : Pt} : plt x y = false ↔ pn x < pn y ∨ (pn x = pn y ∧ y.2.2.1 ≤ x.2.2.1) := by rw [← Bool.not_eq_true, plt_iff]; omega
theorem plt_ord : Hp.Ord plt :=
  ⟨fun a => by rw [plt_not]; omega,
  fun a b c h k => by rw [plt_not] at *; omega,
  fun a b h => by rw [plt_iff] at h; rw [plt_not]; omega⟩
/-- A part that is fit. -/
structure Fit (x : Pt) : Prop where
  l : x.1 < 2 ^ 40
  c : x.2.1 < 2 ^ 40
  e : x.2.2.1 < 2 ^ 40
  a : x.2.2.2.1 ≤ x.2.2.2.2
  b : x.2.2.2.2 < 2 ^ 40
section
variable {σ : Store} {h : Hdl} {L : List Pt}
theorem pslen (s : σ.Sl h 5 (pfl L)) : h.len = L.length := by
  have := slS_len s (pfl_uni L) (by omega); simpa using this
theorem plen_run (s : σ.Sl h 5 (pfl L)) : Runs Try.prog 102 [.slice h] σ (.int .i64 L.length) σ := by
  have := pslen s
  refine Runs.intro (fn := Try.f102) (by kernel_rfl) (by kernel_rfl) (Ev.of fun k => ?_)
  simp only [f102_eq, this]
theorem isNan_run (σ : Store) (x : Int) : Runs Try.prog 83 [.int .i64 x] σ (.bool false) σ := by
  refine Runs.intro (fn := Try.f83) (by kernel_rfl) (by kernel_rfl) (Ev.of fun k => ?_)
  simp only [f83_eq]
  simp
def cmpI (x y : Int) : Int := if x < y then -1 else if y < x then 1 else 0
theorem cmpI_run (σ : Store) (x y : Int) : Runs Try.prog 106 [.int .i64 x, .int .i64 y] σ (.int .i64 (cmpI x y)) σ := by
  obtain ⟨n1, r1⟩ := isNan_run σ x
  obtain ⟨n2, r2⟩ := isNan_run σ y
  refine Runs.intro (fn := Try.f106) (by kernel_rfl) (by kernel_rfl) ⟨n1 + n2, fun k hk => ?_⟩
  have r1 := r1 k (by omega)
  have r2 := r2 k (by omega)
  simp only at r1 r2
  simp only [f106_eq]
  simp only [Option.bind_some, decide_eq_true_eq, decide_eq_false_iff_not, Bool.not_eq_true', Bool.not_true, Bool.not_false, Bool.false_eq_true, Bool.true_eq_false, Bool.not_eq_eq_eq_not, beq_self_eq_true, beqFT, beqTF, decide_true, decide_false, not_false_eq_true, not_true_eq_false, ne_eq, true_and, and_true, false_and, and_false, and_self, if_true, if_false, ite_true, ite_false, Bool.and_true, Bool.and_false, Bool.true_and, Bool.false_and, Bool.or_true, Bool.true_or, Bool.or_false, Bool.false_or, or_true, true_or, or_false, false_or, or_self, AV.asInt, AV.asBool, AV.asSl, AV.asPtr, AV.asFn, AV.asStr, AV.asMap, AV.asIfc, AV.item, List.length_cons, List.length_nil, List.getElem?_cons_zero, List.getElem?_cons_succ, Nat.zero_add, r1, r2]
  unfold cmpI
  split
  · rfl
  · split <;> rfl
theorem or_run {h : Hdl} {x y : Int} (s : σ.Ints h [x, y]) : Runs Try.prog 105 [.slice h] σ (.int .i64 (if x ≠ 0 then x else y)) σ := by
  have hl := s.ilen
  simp only [List.length_cons, List.length_nil, Nat.zero_add] at hl
  have g0 : σ.ldInt .i64 (h.idx 0 1) = some x := s.rd (i := 0) (by omega) (by simp)
  have g1 : σ.ldInt .i64 (h.idx 1 1) = some y := s.rd (i := 1) (by omega) (by simp)
  have w1 : IntKind.wrap .i64 1 = 1 := by rfl
  have w2 : IntKind.wrap .i64 2 = 2 := by rfl
  by_cases c : x = 0
  · rw [if_neg (by simpa using c)]
    have s0 : Ev (fun k => stepF Try.prog (gm Try.prog k) drawn k Try.f105 [1, 1, 0, 1, 0] [8, 7, 6, 3] ([.int .i64 0, .int .i64 2, .slice h, .int .i64 0], σ)) (.inl ([.int .i64 1, .int .i64 2, .slice h, .int .i64 0], σ)) := Ev.of fun k => by
      simp only [f105_L11010]
      simp [hl, g0, c, w1]
    by_cases d : y = 0
    · have e : EvI (fun k s => stepF Try.prog (gm Try.prog k) drawn k Try.f105 [1, 1, 0, 1, 0] [8, 7, 6, 3] s) ([.int .i64 0, .int .i64 2, .slice h, .int .i64 0], σ) (AX.exit 0, [(3, .int .i64 0)], σ) := by
        refine EvI.step s0 (EvI.step (s' := ([.int .i64 2, .int .i64 2, .slice h, .int .i64 0], σ)) (Ev.of fun k => ?_) (EvI.done (Ev.of fun k => ?_)))
        · simp only [f105_L11010]
          simp [hl, g1, d, w2]
        · simp only [f105_L11010]
          simp
      obtain ⟨n, e⟩ := loopF_ev e
      refine Runs.intro (fn := Try.f105) (by kernel_rfl) (by kernel_rfl) ⟨n, fun k hk => ?_⟩
      have e := e k hk
      simp only at e
      simp only [f105_eq, hl]
      rw [show ((2 : Nat) : Int) = 2 from rfl, e, Option.bind_some, f105_X11010_2, d]
    · have e : EvI (fun k s => stepF Try.prog (gm Try.prog k) drawn k Try.f105 [1, 1, 0, 1, 0] [8, 7, 6, 3] s) ([.int .i64 0, .int .i64 2, .slice h, .int .i64 0], σ) (AX.ret, [(2, .int .i64 y)], σ) := by
        refine EvI.step s0 (EvI.done (Ev.of fun k => ?_))
        simp only [f105_L11010]
        simp [hl, g1, d]
      obtain ⟨n, e⟩ := loopF_ev e
      refine Runs.intro (fn := Try.f105) (by kernel_rfl) (by kernel_rfl) ⟨n, fun k hk => ?_⟩
      have e := e k hk
      simp only at e
      simp only [f105_eq, hl]
      rw [show ((2 : Nat) : Int) = 2 from rfl, e, Option.bind_some, f105_X11010_1]
  · rw [if_pos c]
    have e : EvI (fun k s => stepF Try.prog (gm Try.prog k) drawn k Try.f105 [1, 1, 0, 1, 0] [8, 7, 6, 3] s) ([.int .i64 0, .int .i64 2, .slice h, .int .i64 0], σ) (AX.ret, [(2, .int .i64 x)], σ) := by
      refine EvI.done (Ev.of fun k => ?_)
      simp only [f105_L11010]
      simp [hl, g0, c]
    obtain ⟨n, e⟩ := loopF_ev e
    refine Runs.intro (fn := Try.f105) (by kernel_rfl) (by kernel_rfl) ⟨n, fun k hk => ?_⟩
    have e := e k hk
    simp only at e
    simp only [f105_eq, hl]
    rw [show ((2 : Nat) : Int) = 2 from rfl, e, Option.bind_some, f105_X11010_1]
theorem psidx (s : σ.Sl h 5 (pfl L)) (hn : 0 < L.length) (i : Int) : ∃ q, h.idx i 5 = some q := by
  have := pslen s
  rcases s.row with h1 | ⟨b, o, cs, rw, h1, _⟩
  · omega
  · exact ⟨(b, o + i.toNat * 5), by simp only [Hdl.idx, Ptr.add, h1, Option.map_some]⟩
theorem pget {i : Nat} {x : Pt} (hi : L[i]? = some x) : (L.map pcs)[i]? = some (pcs x) := by rw [List.getElem?_map, hi]; rfl
theorem pless_run (s : σ.Sl h 5 (pfl L)) {i j : Nat} {x y : Pt} (hi : L[i]? = some x) (hj : L[j]? = some y) (fx : Fit x) (fy : Fit y) :
    ∃ c1 c2 : Int, Runs Try.prog 103 [.slice h, .int .i64 i, .int .i64 j] σ (.bool (plt x y)) (σ.push [.int .i64 c1, .int .i64 c2] 1) := by
  have hl := pslen s
  have il : i < L.length := (List.getElem?_eq_some_iff.1 hi).1
  have jl : j < L.length := (List.getElem?_eq_some_iff.1 hj).1
  obtain ⟨q, hq⟩ := psidx s (by omega) (i : Int)
  obtain ⟨r, hr⟩ := psidx s (by omega) (j : Int)
  have u := pfl_uni L
  have i2 := slS_int s u (pget hi) (f := 2) (by omega) rfl
  have i3 := slS_int s u (pget hi) (f := 3) (by omega) rfl
  have i4 := slS_int s u (pget hi) (f := 4) (by omega) rfl
  have j2 := slS_int s u (pget hj) (f := 2) (by omega) rfl
  have j3 := slS_int s u (pget hj) (f := 3) (by omega) rfl
  have j4 := slS_int s u (pget hj) (f := 4) (by omega) rfl
  rw [hq] at i2 i3 i4
  rw [hr] at j2 j3 j4
  have nx : IntKind.wrap .i64 ((x.2.2.2.2 : Int) - x.2.2.2.1) = ((pn x : Nat) : Int) := by
    have h1 := fx.a
    have h2 := fx.b
    unfold pn; rw [wrap64 (by omega) (by omega)]; omega
  have ny : IntKind.wrap .i64 ((y.2.2.2.2 : Int) - y.2.2.2.1) = ((pn y : Nat) : Int) := by
    have h1 := fy.a
    have h2 := fy.b
    unfold pn; rw [wrap64 (by omega) (by omega)]; omega
  obtain ⟨n1, r1⟩ := cmpI_run { σ with prot := σ.objs.length } (pn y) (pn x)
  obtain ⟨n2, r2⟩ := cmpI_run σ (x.2.2.1) (y.2.2.1)
  have rw_ : (σ.push [.int .i64 (cmpI (pn y) (pn x)), .int .i64 (cmpI x.2.2.1 y.2.2.1)] 1).Ints ⟨some (σ.objs.length, 0), 2, some 2⟩ [cmpI (pn y) (pn x), cmpI x.2.2.1 y.2.2.1] := Store.Row.new.sl (by rfl)
  obtain ⟨n3, r3⟩ := or_run rw_
  refine ⟨cmpI (pn y) (pn x), cmpI x.2.2.1 y.2.2.1, Runs.intro (fn := Try.f103) (by kernel_rfl) (by kernel_rfl) ⟨n1 + n2 + n3, fun k hk => ?_⟩⟩
  have r1 := r1 k (by omega)
  have r2 := r2 k (by omega)
  have r3 := r3 k (by omega)
  simp only at r1 r2 r3
  have q1 := callG_same r1
  have c1 : (0 : Int) ≤ i ∧ (i : Int) < h.len := by omega
  have c2 : (0 : Int) ≤ j ∧ (j : Int) < h.len := by omega
  have fin : decide ((if cmpI (pn y) (pn x) ≠ 0 then cmpI (pn y) (pn x) else cmpI x.2.2.1 y.2.2.1) < 0) = plt x y := by
    rw [Bool.eq_iff_iff, plt_iff, decide_eq_true_eq]
    unfold cmpI
    split <;> split <;> (try split) <;> (try split) <;> omega
  simp only [f103_eq]
  rw [if_pos c2]
  simp only [hr, hq, Option.bind_some, j4, if_pos c2, j3, if_pos c1, i4, i3, nx, ny, q1, AV.asInt, if_true, i2, j2, r2]
  erw [r3]
  simp only [Option.bind_some, AV.asInt, if_true, fin]
/-- Nothing changes but what a slice lies in. -/
structure Mw (h : Hdl) (σ σ' : Store) : Prop where
  prot : σ'.prot = σ.prot
  len : σ.objs.length ≤ σ'.objs.length
  kp : ∀ x, x < σ.objs.length → h.row ≠ some x → σ'.objs[x]? = σ.objs[x]?
theorem Mw.refl (h : Hdl) (σ : Store) : Mw h σ σ := ⟨rfl, Nat.le_refl _, fun _ _ _ => rfl⟩
theorem Mw.trans {σ1 σ2 : Store} (a : Mw h σ σ1) (b : Mw h σ1 σ2) : Mw h σ σ2 := ⟨b.prot.trans a.prot, Nat.le_trans a.len b.len, fun x hx hr => (b.kp x (Nat.lt_of_lt_of_le hx a.len) hr).trans (a.kp x hx hr)⟩
theorem Mw.kpl {σ' : Store} (k : Kp σ.objs.length σ σ') : Mw h σ σ' := ⟨k.prot, k.len, fun x hx _ => k.keep x hx⟩
theorem Mw.push (h : Hdl) (σ : Store) (l : List AV) (es : Nat) : Mw h σ (σ.push l es) := Mw.kpl (Kp.push l es (Nat.le_refl _))
theorem Mw.row {σ' : Store} {b es : Nat} {l : List AV} (m : Mw h σ σ') (r : σ.Row b es l) (hb : h.row ≠ some b) : σ'.Row b es l := (m.kp b r.lt hb).trans r
theorem pswap_run {n : Nat} (g : Grow σ n h 5 (pfl L)) (hp : σ.prot ≤ n) {i j : Nat} (il : i < L.length) (jl : j < L.length) :
    ∃ σ', Runs Try.prog 104 [.slice h, .int .i64 i, .int .i64 j] σ (.tuple []) σ' ∧ Mw h σ σ' ∧ Grow σ' n h 5 (pfl (Hp.swap L i j)) := by
  have s := g.sl
  have hl := pslen s
  obtain ⟨x, hi⟩ : ∃ x, L[i]? = some x := ⟨_, List.getElem?_eq_getElem il⟩
  obtain ⟨y, hj⟩ : ∃ y, L[j]? = some y := ⟨_, List.getElem?_eq_getElem jl⟩
  have u := pfl_uni L
  have i0 := slS_int s u (pget hi) (f := 0) (by omega) rfl
  have i1 := slS_int s u (pget hi) (f := 1) (by omega) rfl
  have i2 := slS_int s u (pget hi) (f := 2) (by omega) rfl
  have i3 := slS_int s u (pget hi) (f := 3) (by omega) rfl
  have i4 := slS_int s u (pget hi) (f := 4) (by omega) rfl
  have j0 := slS_int s u (pget hj) (f := 0) (by omega) rfl
  have j1 := slS_int s u (pget hj) (f := 1) (by omega) rfl
  have j2 := slS_int s u (pget hj) (f := 2) (by omega) rfl
  have j3 := slS_int s u (pget hj) (f := 3) (by omega) rfl
  have j4 := slS_int s u (pget hj) (f := 4) (by omega) rfl
  obtain ⟨σ1, e1, k1, g1, l1, f1⟩ := growS_st g u hp (i := i) (by simpa using il) (v := pcs y) rfl (by omega) (fun z hz => by simp [pcs] at hz; rcases hz with rfl | rfl | rfl | rfl | rfl <;> rfl)
  rw [← List.map_set] at g1
  obtain ⟨σ2, e2, k2, g2, l2, f2⟩ := growS_st g1 (pfl_uni _) (by rw [k1.prot]; exact hp) (i := j) (by simpa using jl) (v := pcs x) rfl (by omega) (fun z hz => by simp [pcs] at hz; rcases hz with rfl | rfl | rfl | rfl | rfl <;> rfl)
  rw [← List.map_set] at g2
  have ex : Hp.at_ L i = x := by rw [Hp.at_get il]; rw [List.getElem?_eq_getElem il] at hi; injection hi
  have ey : Hp.at_ L j = y := by rw [Hp.at_get jl]; rw [List.getElem?_eq_getElem jl] at hj; injection hj
  refine ⟨σ2, Runs.intro (fn := Try.f104) (by kernel_rfl) (by kernel_rfl) (Ev.of fun k => ?_), ⟨k2.prot.trans k1.prot, by omega, fun z hz hr => (f2 z hr).trans (f1 z hr)⟩, by unfold Hp.swap; rw [ex, ey]; exact g2⟩
  have c1 : (0 : Int) ≤ i ∧ (i : Int) < h.len := by omega
  have c2 : (0 : Int) ≤ j ∧ (j : Int) < h.len := by omega
  unfold pcs at e1 e2
  simp only [f104_eq]
  simp only [if_pos c1, if_pos c2, Option.bind_some, i0, i1, i2, i3, i4, j0, j1, j2, j3, j4, e1, e2]
end
end Go.Ab


/- Parts in memory: a heap's up and down. -/
namespace Go.Ab
open Go Go.Proofs Go.Ab.Wd Go.Ab.Bs Go.Ab.Sai
set_option linter.unusedVariables false
set_option linter.unusedSimpArgs false
section
variable {σ : Store} {h : Hdl} {L : List Pt} {n b : Nat} {pm : Ptr}
theorem ld1 (R : σ.Row b 2 [.ptr pm, .slice h]) : σ.ldSl (some (b, 1)) = some h := by
  have := row_sl R (o := 1) rfl
  simpa [Ptr.add] using this
theorem half_wrap {m : Nat} (h0 : 0 < m) (h1 : m < 2 ^ 40) : IntKind.wrap .i64 (Int.tdiv (IntKind.wrap .i64 ((m : Int) - 1)) 2) = (((m - 1) / 2 : Nat) : Int) := by
  rw [wrap64 (x := (m : Int) - 1) (by omega) (by omega), show ((m : Int) - 1) = ((m - 1 : Nat) : Int) by omega, Int.tdiv_eq_ediv_of_nonneg (by omega)]
  rw [wrap64 (by omega) (by omega)]; omega
theorem fitp {L' : List Pt} (p : L'.Perm L) (F : ∀ x ∈ L, Fit x) : ∀ x ∈ L', Fit x := fun x hx => F x (p.mem_iff.1 hx)
theorem atg {i : Nat} (hi : i < L.length) : L[i]? = some (Hp.at_ L i) := by rw [Hp.at_get hi, List.getElem?_eq_getElem hi]
theorem atm {i : Nat} (hi : i < L.length) : Hp.at_ L i ∈ L := by rw [Hp.at_get hi]; exact List.getElem_mem hi
theorem up_run (R : σ.Row b 2 [.ptr pm, .slice h]) (hb : h.row ≠ some b) (g : Grow σ n h 5 (pfl L)) (hp : σ.prot ≤ n) (F : ∀ x ∈ L, Fit x) (hL : L.length < 2 ^ 40) {j : Nat} (U : Hp.UpI plt L L.length j) (hj : j < L.length) :
    ∃ L' σ', Runs Try.prog 64 [.iface 81 (.ptr (some (b, 1))), .int .i64 j] σ (.tuple []) σ' ∧ Mw h σ σ' ∧ Grow σ' n h 5 (pfl L') ∧ L'.Perm L ∧ Hp.Heap plt L' L'.length := by
  obtain ⟨r, e, L', σ', rfl, M, G, P, H⟩ := EvI.while (f := fun k s => stepF Try.prog (gm Try.prog k) drawn k Try.f64 [0] [1, 0] s)
    (fun m s => ∃ L' σ', s = ([.int .i64 (m : Nat), .iface 81 (.ptr (some (b, 1)))], σ') ∧ Mw h σ σ' ∧ Grow σ' n h 5 (pfl L') ∧ L'.Perm L ∧ Hp.UpI plt L' L'.length m ∧ m < L'.length)
    (fun r => ∃ L' σ', r = (AX.exit 0, [], σ') ∧ Mw h σ σ' ∧ Grow σ' n h 5 (pfl L') ∧ L'.Perm L ∧ Hp.Heap plt L' L'.length)
    (by
      rintro m s ⟨L', σ', rfl, M, G, P, U, hm⟩
      have ll := P.length_eq
      rcases Nat.eq_zero_or_pos m with rfl | m0
      · refine .inr ⟨_, Ev.of fun k => ?_, L', σ', rfl, M, G, P, U.stop (.inl rfl)⟩
        simp only [f64_L0]
        rw [if_pos (by decide)]
      · have hw := half_wrap m0 (by omega)
        have ne : ¬ ((((m - 1) / 2 : Nat) : Int) = (m : Int)) := by omega
        have R1 := M.row R hb
        have l1 := ld1 R1
        have il : (m - 1) / 2 < L'.length := by omega
        have F' := fitp P F
        obtain ⟨c1, c2, n1, r1⟩ := pless_run G.sl (atg hm) (atg il) (F' _ (atm hm)) (F' _ (atm il))
        have M1 := M.trans (Mw.push h σ' [.int .i64 c1, .int .i64 c2] 1)
        have G1 := G.kp (Kp.push [.int .i64 c1, .int .i64 c2] 1 (Nat.le_refl _))
        have l2 := ld1 (M1.row R hb)
        cases hc : plt (Hp.at_ L' m) (Hp.at_ L' ((m - 1) / 2)) with
        | false =>
          refine .inr ⟨_, ⟨n1, fun k hk => ?_⟩, L', _, rfl, M1, G1, P, U.stop (.inr hc)⟩
          have r1 := r1 k hk
          simp only at r1
          simp only [f64_L0, hw]
          simp only [Option.bind_some, decide_eq_true_eq, decide_eq_false_iff_not, Bool.not_eq_true', Bool.not_true, Bool.not_false, Bool.false_eq_true, Bool.true_eq_false, Bool.not_eq_eq_eq_not, beq_self_eq_true, beqFT, beqTF, decide_true, decide_false, not_false_eq_true, not_true_eq_false, ne_eq, true_and, and_true, false_and, and_false, and_self, if_true, if_false, ite_true, ite_false, Bool.and_true, Bool.and_false, Bool.true_and, Bool.false_and, Bool.or_true, Bool.true_or, Bool.or_false, Bool.false_or, or_true, true_or, or_false, false_or, or_self, AV.asInt, AV.asBool, AV.asSl, AV.asPtr, AV.asFn, AV.asStr, AV.asMap, AV.asIfc, AV.item, List.length_cons, List.length_nil, List.getElem?_cons_zero, List.getElem?_cons_succ, Nat.zero_add, ne, l1, r1, hc]
        | true =>
          obtain ⟨σ2, ⟨n2, r2⟩, M2, G2⟩ := pswap_run (i := (m - 1) / 2) (j := m) G1 (by rw [M1.prot]; exact hp) il hm
          refine .inl ⟨(m - 1) / 2, _, by omega, ⟨n1 + n2, fun k hk => ?_⟩, _, σ2, rfl, M1.trans M2, G2, (Hp.swap_perm il hm).trans P, ?_, by simpa using il⟩
          · have r1 := r1 k (by omega)
            have r2 := r2 k (by omega)
            simp only at r1 r2
            simp only [f64_L0, hw]
            simp only [Option.bind_some, decide_eq_true_eq, decide_eq_false_iff_not, Bool.not_eq_true', Bool.not_true, Bool.not_false, Bool.false_eq_true, Bool.true_eq_false, Bool.not_eq_eq_eq_not, beq_self_eq_true, beqFT, beqTF, decide_true, decide_false, not_false_eq_true, not_true_eq_false, ne_eq, true_and, and_true, false_and, and_false, and_self, if_true, if_false, ite_true, ite_false, Bool.and_true, Bool.and_false, Bool.true_and, Bool.false_and, Bool.or_true, Bool.true_or, Bool.or_false, Bool.false_or, or_true, true_or, or_false, false_or, or_self, AV.asInt, AV.asBool, AV.asSl, AV.asPtr, AV.asFn, AV.asStr, AV.asMap, AV.asIfc, AV.item, List.length_cons, List.length_nil, List.getElem?_cons_zero, List.getElem?_cons_succ, Nat.zero_add, ne, l1, r1, hc, l2, r2]
          · rw [Hp.swap_length]; exact U.step plt_ord (Nat.le_refl _) m0 hm hc)
    j _ ⟨L, σ, rfl, Mw.refl _ _, g, List.Perm.refl _, U, hj⟩
  obtain ⟨n1, e⟩ := loopF_ev e
  refine ⟨L', σ', Runs.intro (fn := Try.f64) (by kernel_rfl) (by kernel_rfl) ⟨n1, fun k hk => ?_⟩, M, G, P, H⟩
  have e := e k hk
  simp only at e
  simp only [f64_eq]
  rw [e, Option.bind_some, f64_X0_1]
theorem down_hrun (R : σ.Row b 2 [.ptr pm, .slice h]) (hb : h.row ≠ some b) (g : Grow σ n h 5 (pfl L)) (hp : σ.prot ≤ n) (F : ∀ x ∈ L, Fit x) (hL : L.length < 2 ^ 40) {N : Nat} (hN : N < L.length) (U : Hp.DnI plt L N 0) :
    ∃ L' σ' v, Runs Try.prog 56 [.iface 81 (.ptr (some (b, 1))), .int .i64 0, .int .i64 (N : Nat)] σ (.bool v) σ' ∧ Mw h σ σ' ∧ Grow σ' n h 5 (pfl L') ∧ L'.length = L.length ∧ (L'.take N).Perm (L.take N) ∧ L'.drop N = L.drop N ∧ Hp.Heap plt L' N := by
  obtain ⟨r, e, L', σ', i, rfl, M, G, ll, P, D, H⟩ := EvI.while (f := fun k s => stepF Try.prog (gm Try.prog k) drawn k Try.f56 [1, 1, 0, 0] [7, 2, 1, 0] s)
    (fun m s => ∃ L' σ' i, m = N - i ∧ s = ([.int .i64 (i : Nat), .int .i64 (N : Nat), .int .i64 0, .iface 81 (.ptr (some (b, 1)))], σ') ∧ Mw h σ σ' ∧ Grow σ' n h 5 (pfl L') ∧ L'.length = L.length ∧ (L'.take N).Perm (L.take N) ∧ L'.drop N = L.drop N ∧ Hp.DnI plt L' N i ∧ i ≤ N)
    (fun r => ∃ L' σ' i, r = (AX.exit 0, [(7, .int .i64 (i : Nat)), (1, .int .i64 0)], σ') ∧ Mw h σ σ' ∧ Grow σ' n h 5 (pfl L') ∧ L'.length = L.length ∧ (L'.take N).Perm (L.take N) ∧ L'.drop N = L.drop N ∧ Hp.Heap plt L' N)
    (by
      rintro m s ⟨L', σ', i, rfl, rfl, M, G, ll, P, D, U, hi⟩
      have w1 : IntKind.wrap .i64 (2 * (i : Int)) = ((2 * i : Nat) : Int) := by rw [wrap64 (by omega) (by omega)]; omega
      have w2 : IntKind.wrap .i64 (((2 * i : Nat) : Int) + 1) = ((2 * i + 1 : Nat) : Int) := by rw [wrap64 (by omega) (by omega)]; omega
      have w3 : IntKind.wrap .i64 (((2 * i + 1 : Nat) : Int) + 1) = ((2 * i + 2 : Nat) : Int) := by rw [wrap64 (by omega) (by omega)]; omega
      by_cases c0 : N ≤ 2 * i + 1
      · refine .inr ⟨_, Ev.of fun k => ?_, L', σ', i, rfl, M, G, ll, P, D, U.stop (fun h => by omega) (fun h => by omega)⟩
        simp only [f56_L1100, w1, w2]
        rw [if_pos (by rw [decide_eq_true_eq]; omega)]
      have n0 : ¬ ((N : Int) ≤ ((2 * i + 1 : Nat) : Int)) := by omega
      have n1 : ¬ (((2 * i + 1 : Nat) : Int) < 0) := by omega
      have F' : ∀ k, k < N → Fit (Hp.at_ L' k) := fun k hk => F _ (by
        have : Hp.at_ L' k ∈ L'.take N := by
          rw [Hp.at_get (by omega)]
          exact List.mem_take_iff_getElem.2 ⟨k, by omega, rfl⟩
        exact List.mem_of_mem_take (P.mem_iff.1 this))
      have R1 := M.row R hb
      have l1 := ld1 R1
      have il : i < L'.length := by omega
      -- the child that is taken
      have fin : ∀ (j : Nat) (σ1 : Store), (j = 2 * i + 1 ∨ j = 2 * i + 2) → j < N → Mw h σ σ1 → Grow σ1 n h 5 (pfl L') → (∀ k, k = 2 * i + 1 ∨ k = 2 * i + 2 → k < N → plt (Hp.at_ L' k) (Hp.at_ L' j) = false) →
          ∃ c1 c2 : Int, Runs Try.prog 103 [.slice h, .int .i64 j, .int .i64 i] σ1 (.bool (plt (Hp.at_ L' j) (Hp.at_ L' i))) (σ1.push [.int .i64 c1, .int .i64 c2] 1) ∧ σ1.ldSl (some (b, 1)) = some h ∧ (σ1.push [.int .i64 c1, .int .i64 c2] 1).ldSl (some (b, 1)) = some h ∧
            Mw h σ (σ1.push [.int .i64 c1, .int .i64 c2] 1) ∧ Grow (σ1.push [.int .i64 c1, .int .i64 c2] 1) n h 5 (pfl L') ∧ (plt (Hp.at_ L' j) (Hp.at_ L' i) = false → Hp.Heap plt L' N) ∧
            (plt (Hp.at_ L' j) (Hp.at_ L' i) = true → ∃ σ2, Runs Try.prog 104 [.slice h, .int .i64 i, .int .i64 j] (σ1.push [.int .i64 c1, .int .i64 c2] 1) (.tuple []) σ2 ∧ Mw h σ σ2 ∧ Grow σ2 n h 5 (pfl (Hp.swap L' i j)) ∧ (Hp.swap L' i j).length = L.length ∧ ((Hp.swap L' i j).take N).Perm (L.take N) ∧ (Hp.swap L' i j).drop N = L.drop N ∧ Hp.DnI plt (Hp.swap L' i j) N j) := by
        intro j σ1 hj jn M1 G1 hb2
        have jl : j < L'.length := by omega
        obtain ⟨c1, c2, r1⟩ := pless_run G1.sl (atg jl) (atg il) (F' _ jn) (F' _ (by omega))
        have M2 := M1.trans (Mw.push h σ1 [.int .i64 c1, .int .i64 c2] 1)
        have G2 := G1.kp (Kp.push [.int .i64 c1, .int .i64 c2] 1 (Nat.le_refl _))
        refine ⟨c1, c2, r1, ld1 (M1.row R hb), ld1 (M2.row R hb), M2, G2, fun hc => ?_, fun hc => ?_⟩
        · refine U.stop (fun h1 => ?_) (fun h2 => ?_)
          · exact plt_ord.tr _ _ _ (hb2 _ (.inl rfl) h1) hc
          · exact plt_ord.tr _ _ _ (hb2 _ (.inr rfl) h2) hc
        · obtain ⟨σ2, r2, M3, G3⟩ := pswap_run (i := i) (j := j) G2 (by rw [M2.prot]; exact hp) il jl
          exact ⟨σ2, r2, M2.trans M3, G3, by rw [Hp.swap_length]; exact ll, (Hp.swap_take_perm (by omega) jn (by omega)).trans P, (Hp.swap_drop (by omega) jn).trans D, U.step plt_ord (by omega) hj jn hc hb2⟩
      by_cases c1 : 2 * i + 2 < N
      · have n2 : (((2 * i + 2 : Nat) : Int) < (N : Int)) := by omega
        obtain ⟨d1, d2, k1, r1⟩ := pless_run G.sl (atg (i := 2 * i + 2) (by omega)) (atg (i := 2 * i + 1) (by omega)) (F' _ c1) (F' _ (by omega))
        have M1 := M.trans (Mw.push h σ' [.int .i64 d1, .int .i64 d2] 1)
        have G1 := G.kp (Kp.push [.int .i64 d1, .int .i64 d2] 1 (Nat.le_refl _))
        cases hc : plt (Hp.at_ L' (2 * i + 2)) (Hp.at_ L' (2 * i + 1)) with
        | true =>
          obtain ⟨e1, e2, ⟨k2, r2⟩, l2, l3, M2, G2, stop, go⟩ := fin (2 * i + 2) _ (.inr rfl) c1 M1 G1 (fun k hk _ => by
            rcases hk with rfl | rfl
            · exact plt_ord.asy _ _ hc
            · exact plt_ord.irr _)
          cases hd : plt (Hp.at_ L' (2 * i + 2)) (Hp.at_ L' i) with
          | false =>
            refine .inr ⟨_, ⟨k1 + k2, fun k hk => ?_⟩, L', _, i, rfl, M2, G2, ll, P, D, stop hd⟩
            have r1 := r1 k (by omega)
            have r2 := r2 k (by omega)
            simp only at r1 r2
            simp only [f56_L1100, w1, w2, w3]
            simp only [Option.bind_some, decide_eq_true_eq, decide_eq_false_iff_not, Bool.not_eq_true', Bool.not_true, Bool.not_false, Bool.false_eq_true, Bool.true_eq_false, Bool.not_eq_eq_eq_not, beq_self_eq_true, beqFT, beqTF, decide_true, decide_false, not_false_eq_true, not_true_eq_false, ne_eq, true_and, and_true, false_and, and_false, and_self, if_true, if_false, ite_true, ite_false, Bool.and_true, Bool.and_false, Bool.true_and, Bool.false_and, Bool.or_true, Bool.true_or, Bool.or_false, Bool.false_or, or_true, true_or, or_false, false_or, or_self, AV.asInt, AV.asBool, AV.asSl, AV.asPtr, AV.asFn, AV.asStr, AV.asMap, AV.asIfc, AV.item, List.length_cons, List.length_nil, List.getElem?_cons_zero, List.getElem?_cons_succ, Nat.zero_add, n0, n1, n2, l1, r1, hc, l2, r2, hd]
          | true =>
            obtain ⟨σ2, ⟨k3, r3⟩, M3, G3, l4, P3, D3, U3⟩ := go hd
            refine .inl ⟨N - (2 * i + 2), _, by omega, ⟨k1 + k2 + k3, fun k hk => ?_⟩, _, σ2, 2 * i + 2, rfl, rfl, M3, G3, l4, P3, D3, U3, by omega⟩
            have r1 := r1 k (by omega)
            have r2 := r2 k (by omega)
            have r3 := r3 k (by omega)
            simp only at r1 r2 r3
            simp only [f56_L1100, w1, w2, w3]
            simp only [Option.bind_some, decide_eq_true_eq, decide_eq_false_iff_not, Bool.not_eq_true', Bool.not_true, Bool.not_false, Bool.false_eq_true, Bool.true_eq_false, Bool.not_eq_eq_eq_not, beq_self_eq_true, beqFT, beqTF, decide_true, decide_false, not_false_eq_true, not_true_eq_false, ne_eq, true_and, and_true, false_and, and_false, and_self, if_true, if_false, ite_true, ite_false, Bool.and_true, Bool.and_false, Bool.true_and, Bool.false_and, Bool.or_true, Bool.true_or, Bool.or_false, Bool.false_or, or_true, true_or, or_false, false_or, or_self, AV.asInt, AV.asBool, AV.asSl, AV.asPtr, AV.asFn, AV.asStr, AV.asMap, AV.asIfc, AV.item, List.length_cons, List.length_nil, List.getElem?_cons_zero, List.getElem?_cons_succ, Nat.zero_add, n0, n1, n2, l1, r1, hc, l2, r2, hd, l3, r3]
        | false =>
          obtain ⟨e1, e2, ⟨k2, r2⟩, l2, l3, M2, G2, stop, go⟩ := fin (2 * i + 1) _ (.inl rfl) (by omega) M1 G1 (fun k hk _ => by
            rcases hk with rfl | rfl
            · exact plt_ord.irr _
            · exact hc)
          cases hd : plt (Hp.at_ L' (2 * i + 1)) (Hp.at_ L' i) with
          | false =>
            refine .inr ⟨_, ⟨k1 + k2, fun k hk => ?_⟩, L', _, i, rfl, M2, G2, ll, P, D, stop hd⟩
            have r1 := r1 k (by omega)
            have r2 := r2 k (by omega)
            simp only at r1 r2
            simp only [f56_L1100, w1, w2, w3]
            simp only [Option.bind_some, decide_eq_true_eq, decide_eq_false_iff_not, Bool.not_eq_true', Bool.not_true, Bool.not_false, Bool.false_eq_true, Bool.true_eq_false, Bool.not_eq_eq_eq_not, beq_self_eq_true, beqFT, beqTF, decide_true, decide_false, not_false_eq_true, not_true_eq_false, ne_eq, true_and, and_true, false_and, and_false, and_self, if_true, if_false, ite_true, ite_false, Bool.and_true, Bool.and_false, Bool.true_and, Bool.false_and, Bool.or_true, Bool.true_or, Bool.or_false, Bool.false_or, or_true, true_or, or_false, false_or, or_self, AV.asInt, AV.asBool, AV.asSl, AV.asPtr, AV.asFn, AV.asStr, AV.asMap, AV.asIfc, AV.item, List.length_cons, List.length_nil, List.getElem?_cons_zero, List.getElem?_cons_succ, Nat.zero_add, n0, n1, n2, l1, r1, hc, l2, r2, hd]
          | true =>
            obtain ⟨σ2, ⟨k3, r3⟩, M3, G3, l4, P3, D3, U3⟩ := go hd
            refine .inl ⟨N - (2 * i + 1), _, by omega, ⟨k1 + k2 + k3, fun k hk => ?_⟩, _, σ2, 2 * i + 1, rfl, rfl, M3, G3, l4, P3, D3, U3, by omega⟩
            have r1 := r1 k (by omega)
            have r2 := r2 k (by omega)
            have r3 := r3 k (by omega)
            simp only at r1 r2 r3
            simp only [f56_L1100, w1, w2, w3]
            simp only [Option.bind_some, decide_eq_true_eq, decide_eq_false_iff_not, Bool.not_eq_true', Bool.not_true, Bool.not_false, Bool.false_eq_true, Bool.true_eq_false, Bool.not_eq_eq_eq_not, beq_self_eq_true, beqFT, beqTF, decide_true, decide_false, not_false_eq_true, not_true_eq_false, ne_eq, true_and, and_true, false_and, and_false, and_self, if_true, if_false, ite_true, ite_false, Bool.and_true, Bool.and_false, Bool.true_and, Bool.false_and, Bool.or_true, Bool.true_or, Bool.or_false, Bool.false_or, or_true, true_or, or_false, false_or, or_self, AV.asInt, AV.asBool, AV.asSl, AV.asPtr, AV.asFn, AV.asStr, AV.asMap, AV.asIfc, AV.item, List.length_cons, List.length_nil, List.getElem?_cons_zero, List.getElem?_cons_succ, Nat.zero_add, n0, n1, n2, l1, r1, hc, l2, r2, hd, l3, r3]
      · have n2 : ¬ (((2 * i + 2 : Nat) : Int) < (N : Int)) := by omega
        obtain ⟨e1, e2, ⟨k2, r2⟩, l2, l3, M2, G2, stop, go⟩ := fin (2 * i + 1) _ (.inl rfl) (by omega) M G (fun k hk hkn => by
          rcases hk with rfl | rfl
          · exact plt_ord.irr _
          · omega)
        cases hd : plt (Hp.at_ L' (2 * i + 1)) (Hp.at_ L' i) with
        | false =>
          refine .inr ⟨_, ⟨k2, fun k hk => ?_⟩, L', _, i, rfl, M2, G2, ll, P, D, stop hd⟩
          have r2 := r2 k (by omega)
          simp only at r2
          simp only [f56_L1100, w1, w2, w3]
          simp only [Option.bind_some, decide_eq_true_eq, decide_eq_false_iff_not, Bool.not_eq_true', Bool.not_true, Bool.not_false, Bool.false_eq_true, Bool.true_eq_false, Bool.not_eq_eq_eq_not, beq_self_eq_true, beqFT, beqTF, decide_true, decide_false, not_false_eq_true, not_true_eq_false, ne_eq, true_and, and_true, false_and, and_false, and_self, if_true, if_false, ite_true, ite_false, Bool.and_true, Bool.and_false, Bool.true_and, Bool.false_and, Bool.or_true, Bool.true_or, Bool.or_false, Bool.false_or, or_true, true_or, or_false, false_or, or_self, AV.asInt, AV.asBool, AV.asSl, AV.asPtr, AV.asFn, AV.asStr, AV.asMap, AV.asIfc, AV.item, List.length_cons, List.length_nil, List.getElem?_cons_zero, List.getElem?_cons_succ, Nat.zero_add, n0, n1, n2, l1, r2, hd]
        | true =>
          obtain ⟨σ2, ⟨k3, r3⟩, M3, G3, l4, P3, D3, U3⟩ := go hd
          refine .inl ⟨N - (2 * i + 1), _, by omega, ⟨k2 + k3, fun k hk => ?_⟩, _, σ2, 2 * i + 1, rfl, rfl, M3, G3, l4, P3, D3, U3, by omega⟩
          have r2 := r2 k (by omega)
          have r3 := r3 k (by omega)
          simp only at r2 r3
          simp only [f56_L1100, w1, w2, w3]
          simp only [Option.bind_some, decide_eq_true_eq, decide_eq_false_iff_not, Bool.not_eq_true', Bool.not_true, Bool.not_false, Bool.false_eq_true, Bool.true_eq_false, Bool.not_eq_eq_eq_not, beq_self_eq_true, beqFT, beqTF, decide_true, decide_false, not_false_eq_true, not_true_eq_false, ne_eq, true_and, and_true, false_and, and_false, and_self, if_true, if_false, ite_true, ite_false, Bool.and_true, Bool.and_false, Bool.true_and, Bool.false_and, Bool.or_true, Bool.true_or, Bool.or_false, Bool.false_or, or_true, true_or, or_false, false_or, or_self, AV.asInt, AV.asBool, AV.asSl, AV.asPtr, AV.asFn, AV.asStr, AV.asMap, AV.asIfc, AV.item, List.length_cons, List.length_nil, List.getElem?_cons_zero, List.getElem?_cons_succ, Nat.zero_add, n0, n1, n2, l1, r2, hd, l3, r3])
    N _ ⟨L, σ, 0, rfl, rfl, Mw.refl _ _, g, rfl, List.Perm.refl _, rfl, U, Nat.zero_le _⟩
  obtain ⟨n1, e⟩ := loopF_ev e
  refine ⟨L', σ', decide ((0 : Int) < (i : Int)), Runs.intro (fn := Try.f56) (by kernel_rfl) (by kernel_rfl) ⟨n1, fun k hk => ?_⟩, M, G, ll, P, D, H⟩
  have e := e k hk
  simp only at e
  rw [show (((0 : Nat)) : Int) = 0 from rfl] at e
  simp only [f56_eq]
  rw [e, Option.bind_some, f56_X1100_1]
end
end Go.Ab


/- Parts in memory: Push, Pop; of a heap. -/
namespace Go.Ab
open Go Go.Proofs Go.Ab.Wd Go.Ab.Bs Go.Ab.Sai
set_option linter.unusedVariables false
set_option linter.unusedSimpArgs false
/-- What a search may change: its own row, and what its parts lie in. -/
structure Mv (b : Nat) (h h' : Hdl) (σ σ' : Store) : Prop where
  prot : σ'.prot = σ.prot
  len : σ.objs.length ≤ σ'.objs.length
  kp : ∀ x, x < σ.objs.length → x ≠ b → h.row ≠ some x → σ'.objs[x]? = σ.objs[x]?
  row : h'.row = h.row ∨ ∀ x, h'.row = some x → σ.objs.length ≤ x
theorem Mv.trans {b : Nat} {h h1 h2 : Hdl} {σ σ1 σ2 : Store} (a : Mv b h h1 σ σ1) (c : Mv b h1 h2 σ1 σ2) : Mv b h h2 σ σ2 := by
  refine ⟨c.prot.trans a.prot, Nat.le_trans a.len c.len, fun x hx hb hr => ?_, ?_⟩
  · have : h1.row ≠ some x := fun e => by
      rcases a.row with r | r
      · exact hr (r ▸ e)
      · have := r x e; omega
    exact (c.kp x (Nat.lt_of_lt_of_le hx a.len) hb this).trans (a.kp x hx hb hr)
  · rcases c.row with r | r
    · rcases a.row with q | q
      · exact .inl (r.trans q)
      · exact .inr fun x hx => q x (r ▸ hx)
    · exact .inr fun x hx => Nat.le_trans a.len (r x hx)
theorem Mw.mv {b : Nat} {h : Hdl} {σ σ' : Store} (m : Mw h σ σ') : Mv b h h σ σ' := ⟨m.prot, m.len, fun x hx _ hr => m.kp x hx hr, .inl rfl⟩
theorem Mv.kpl {b : Nat} {h : Hdl} {σ σ' : Store} (k : Kp σ.objs.length σ σ') : Mv b h h σ σ' := (Mw.kpl k).mv
/-- A search in memory. -/
structure Srch (σ : Store) (n b : Nat) (pm : Ptr) (h : Hdl) (L : List Pt) : Prop where
  nb : n ≤ b
  R : σ.Row b 2 [.ptr pm, .slice h]
  hb : h.row ≠ some b
  g : Grow σ n h 5 (pfl L)
theorem Srch.kp {σ σ' : Store} {n b : Nat} {pm : Ptr} {h : Hdl} {L : List Pt} (s : Srch σ n b pm h L) (k : Kp σ.objs.length σ σ') : Srch σ' n b pm h L := ⟨s.nb, s.R.kp k s.R.lt, s.hb, s.g.kp k⟩
theorem Srch.mw {σ σ' : Store} {n b : Nat} {pm : Ptr} {h : Hdl} {L L' : List Pt} (s : Srch σ n b pm h L) (m : Mw h σ σ') (g : Grow σ' n h 5 (pfl L')) : Srch σ' n b pm h L' := ⟨s.nb, m.row s.R s.hb, s.hb, g⟩
theorem Srch.kpn {σ σ' : Store} {n b : Nat} {pm : Ptr} {h h' : Hdl} {L : List Pt} (s : Srch σ n b pm h L) (m : Mv b h h' σ σ') : Kp n σ σ' := by
  refine ⟨m.prot, m.len, fun x hx => ?_⟩
  have hn := s.nb
  have hl := s.R.lt
  refine m.kp x (by omega) (by omega) fun e => ?_
  have := (s.g.row x e).1; omega
section
variable {σ : Store} {h : Hdl} {L : List Pt} {n b : Nat} {pm : Ptr}
theorem st1 (R : σ.Row b 2 [.ptr pm, .slice h]) (hp : σ.prot ≤ b) (h' : Hdl) : σ.stL (some (b, 1)) [.slice h'] 0 = some (σ.setO b (.cells [.ptr pm, .slice h'] true 2)) := by
  have := st_fld R hp (o := 1) (by simp) (v := .slice h') rfl
  simpa [Ptr.add] using this
theorem growS_cut {es : Nat} {K : List (List AV)} (g : Grow σ n h es K.flatten) (u : Uni es K) (he : 0 < es) {m : Nat} (hm : m ≤ K.length) :
    ∃ h', σ.sub h es none (some (m : Int)) none = some h' ∧ Grow σ n h' es (K.take m).flatten ∧ h'.row = h.row := by
  have s := g.sl
  have hl := slS_len s u he
  have hes : σ.esOk h es = true := by
    unfold Store.esOk
    cases ha : h.a with
    | none => rfl
    | some bo =>
      obtain ⟨b, o⟩ := bo
      rcases s.row with h1 | ⟨b', o', cs, rw, k1, k2, _⟩
      · simp [h1]
      · rw [ha] at k1; injection k1 with k1; injection k1 with k1 k1'; subst k1 k1'
        simp only [k2]
        cases Nat.beq h.len 0 <;> simp
  have ut : Uni es (K.take m) := fun x hx => u x (List.mem_of_mem_take hx)
  have ft : (K.take m).flatten = K.flatten.take (m * es) := by
    have e : K.flatten = (K.take m).flatten ++ (K.drop m).flatten := by rw [← List.flatten_append, List.take_append_drop]
    have hm' : (K.take m).flatten.length = m * es := by rw [flat_length ut, List.length_take, Nat.min_eq_left hm]
    exact (by rw [e, ← hm']; exact List.take_left.symm : (K.take m).flatten = K.flatten.take (m * es))
  have mle : m * es ≤ K.length * es := Nat.mul_le_mul_right _ hm
  have fl := flat_length u
  refine ⟨⟨h.a.map fun x => (x.1, x.2 + 0 * es), m - 0, h.cap.map (· - 0)⟩, ?_, ⟨⟨?_, ?_⟩, ⟨fun b o e => ?_, fun e => ?_⟩⟩, ?_⟩
  · unfold Store.sub
    rw [if_pos ⟨⟨hes, by simp, by simp⟩, ⟨by simp, by simp; omega⟩, by simp, by simp⟩]
    simp
  · rw [flat_length ut, List.length_take, Nat.min_eq_left hm]; simp
  · by_cases c : m = 0
    · exact .inl (by simp [c])
    · rcases s.row with k0 | ⟨b, o, cs, rw, k1, k2, k3, k4⟩
      · omega
      · refine .inr ⟨b, o, cs, rw, by simp [k1], k2, ?_, ?_⟩
        · rw [flat_length ut, List.length_take, Nat.min_eq_left hm]; omega
        · rw [flat_length ut, List.length_take, Nat.min_eq_left hm, ft, ← k4, List.take_take, fl, Nat.min_eq_left mle]
  · cases ha : h.a with
    | none => simp [ha] at e
    | some bo =>
      obtain ⟨b', o'⟩ := bo
      rw [ha] at e
      simp only [Option.map_some, Option.some.injEq, Prod.mk.injEq, Nat.zero_mul, Nat.add_zero] at e
      obtain ⟨rfl, rfl⟩ := e
      obtain ⟨h1, cs, h2, h3, h4⟩ := g.own.own b' o' ha
      refine ⟨h1, cs, h2, ?_, fun c hc => ?_⟩
      · rw [hl] at h3; simp only [Nat.sub_zero]; omega
      · cases hq : h.cap with
        | none => rw [hq] at hc; cases hc
        | some q => rw [hq] at hc; simp at hc; subst hc; exact h4 q hq
  · cases ha : h.a with
    | none => have := g.own.nil ha; simp only [Nat.sub_zero]; omega
    | some bo => simp [ha] at e
  · cases ha : h.a with
    | none => simp [Hdl.row, ha]
    | some bo => simp [Hdl.row, ha]
theorem ppop_run (S : Srch σ n b pm h L) (hp : σ.prot ≤ n) {x : Pt} {K : List Pt} (hL : L = K ++ [x]) (hs : L.length < 2 ^ 40) :
    ∃ h' σ', Runs Try.prog 107 [.ptr (some (b, 1))] σ (.iface 79 (.agg (pcs x))) σ' ∧ Mv b h h' σ σ' ∧ Srch σ' n b pm h' K := by
  have hl := pslen S.g.sl
  have ll : L.length = K.length + 1 := by rw [hL]; simp
  have hnb := S.nb
  have hbl := S.R.lt
  have hi : L[K.length]? = some x := by rw [hL]; simp
  have u := pfl_uni L
  have sl := S.g.sl
  have w1 : IntKind.wrap .i64 ((h.len : Int) - 1) = ((K.length : Nat) : Int) := by rw [wrap64 (by omega) (by omega)]; omega
  have j0 := slS_int sl u (pget hi) (f := 0) (by omega) rfl
  have j1 := slS_int sl u (pget hi) (f := 1) (by omega) rfl
  have j2 := slS_int sl u (pget hi) (f := 2) (by omega) rfl
  have j3 := slS_int sl u (pget hi) (f := 3) (by omega) rfl
  have j4 := slS_int sl u (pget hi) (f := 4) (by omega) rfl
  have l1 := ld1 S.R
  -- the struct that is handed on
  have r0 : (σ.push [.int .i64 0, .int .i64 0, .int .i64 0, .int .i64 0, .int .i64 0] 5).Row σ.objs.length 5 [.int .i64 0, .int .i64 0, .int .i64 0, .int .i64 0, .int .i64 0] := Store.Row.new
  have st := stL_row (pcs x) (o := 0) (i := 0) r0 (by show σ.prot ≤ _; omega) (by simp [pcs]) (fun z hz => by simp [pcs] at hz; rcases hz with rfl | rfl | rfl | rfl | rfl <;> rfl)
  rw [if_neg (by simp [pcs])] at st
  obtain ⟨σ1, h1⟩ : ∃ σ1, σ1 = (σ.push [.int .i64 0, .int .i64 0, .int .i64 0, .int .i64 0, .int .i64 0] 5).setO σ.objs.length (.cells (pcs x) true 5) := ⟨_, rfl⟩
  have st1' : (σ.push [.int .i64 0, .int .i64 0, .int .i64 0, .int .i64 0, .int .i64 0] 5).stL (some (σ.objs.length, 0)) (pcs x) 0 = some σ1 := by
    rw [st, h1]; simp [pcs]
  have k1 : Kp σ.objs.length σ σ1 := by rw [h1]; exact (Kp.push _ _ (Nat.le_refl _)).setO (Nat.le_refl _)
  have R1 : σ1.Row σ.objs.length 5 (pcs x) := by rw [h1]; exact Store.Row.setO_eq (by simp)
  have S1 := S.kp k1
  have l2 := ld1 S1.R
  obtain ⟨h', eh, G', hr⟩ := growS_cut S1.g (pfl_uni L) (by omega) (m := K.length) (by simp; omega)
  have hk : (L.map pcs).take K.length = K.map pcs := by rw [hL]; simp
  rw [hk] at G'
  have e3 := st1 S1.R (by rw [k1.prot]; omega) h'
  obtain ⟨σ2, h2⟩ : ∃ σ2, σ2 = σ1.setO b (.cells [.ptr pm, .slice h'] true 2) := ⟨_, rfl⟩
  rw [← h2] at e3
  have R2 : σ2.Row σ.objs.length 5 (pcs x) := by rw [h2]; exact R1.setO_ne (by omega)
  have f0 := row_int R2 (o := 0) rfl
  have f1 := row_int R2 (o := 1) rfl
  have f2 := row_int R2 (o := 2) rfl
  have f3 := row_int R2 (o := 3) rfl
  have f4 := row_int R2 (o := 4) rfl
  have nb2 : h'.row ≠ some b := by rw [hr]; exact S.hb
  refine ⟨h', σ2, Runs.intro (fn := Try.f107) (by kernel_rfl) (by kernel_rfl) (Ev.of fun k => ?_), ⟨by rw [h2]; exact k1.prot, by rw [h2]; simpa using k1.len, fun x hx hxb _ => ?_, .inl hr⟩, ⟨hnb, ?_, nb2, ?_⟩⟩
  · have c1 : (0 : Int) ≤ (K.length : Nat) ∧ ((K.length : Nat) : Int) < h.len := by omega
    unfold pcs at st1'
    simp only [f107_eq]
    simp only [Option.bind_some, l1, w1, if_pos c1, j0, j1, j2, j3, j4, st1', l2, eh, e3, f0, f1, f2, f3, f4]
    rfl
  · rw [h2]; show (σ1.objs.set b _)[x]? = _
    rw [List.getElem?_set, if_neg (Ne.symm hxb)]; exact k1.keep x hx
  · rw [h2]; exact Store.Row.setO_eq S1.R.lt
  · rw [h2]; refine G'.keepX fun c hc => ?_
    show (σ1.objs.set b _)[c]? = _
    rw [List.getElem?_set, if_neg (show ¬ b = c from fun e => nb2 (e ▸ hc))]
theorem ppush_run (S : Srch σ n b pm h L) (hp : σ.prot ≤ n) (x : Pt) (hs : L.length < 2 ^ 40) :
    ∃ h' σ', Runs Try.prog 108 [.ptr (some (b, 1)), .iface 79 (.agg (pcs x))] σ (.tuple []) σ' ∧ Mv b h h' σ σ' ∧ Srch σ' n b pm h' (L ++ [x]) := by
  have hnb := S.nb
  have hbl := S.R.lt
  have l1 := ld1 S.R
  have rd := readS σ (pcs x) (some 1) 5 rfl
  obtain ⟨h', σ1, ea, k1, G1, fr, hr⟩ := growS_app S.g (pfl_uni L) hp (by omega) (v := pcs x) rfl (by omega) rfl (bs := 40) (by omega) (by simp; omega)
  have lt1 : σ.objs.length ≤ σ1.objs.length := k1.len
  have Rb : σ1.Row b 2 [.ptr pm, .slice h] := (fr b hbl S.hb).trans S.R
  have nb2 : h'.row ≠ some b := fun e => by
    rcases hr with r | r
    · exact S.hb (r ▸ e)
    · have := r b e; omega
  have e3 := st1 Rb (by rw [k1.prot]; omega) h'
  have G1' : Grow σ1 n h' 5 (pfl (L ++ [x])) := by unfold pfl; rw [List.map_append]; exact G1
  refine ⟨h', σ1.setO b (.cells [.ptr pm, .slice h'] true 2), Runs.intro (fn := Try.f108) (by kernel_rfl) (by kernel_rfl) (Ev.of fun k => ?_), ⟨k1.prot, by simpa using lt1, fun x hx hxb hxr => ?_, hr⟩, ⟨hnb, Store.Row.setO_eq Rb.lt, nb2, G1'.keepX fun c hc => ?_⟩⟩
  · unfold pcs at rd ea ⊢
    simp only [f108_eq]
    simp only [Option.bind_some, l1, AV.cells, List.nil_append, List.length_cons, List.length_nil, Bool.false_eq_true, if_false, Nat.le_refl, and_self, if_true, rd, ea, e3]
  · show (σ1.objs.set b _)[x]? = _
    rw [List.getElem?_set, if_neg (Ne.symm hxb)]; exact fr x hx hxr
  · show (σ1.objs.set b _)[c]? = _
    rw [List.getElem?_set, if_neg (show ¬ b = c from fun e => nb2 (e ▸ hc))]
theorem hpush_run (S : Srch σ n b pm h L) (hp : σ.prot ≤ n) (F : ∀ x ∈ L, Fit x) (hs : L.length + 1 < 2 ^ 40) (H : Hp.Heap plt L L.length) {x : Pt} (fx : Fit x) :
    ∃ h' σ' L', Runs Try.prog 55 [.iface 81 (.ptr (some (b, 1))), .iface 79 (.agg (pcs x))] σ (.tuple []) σ' ∧ Mv b h h' σ σ' ∧ Srch σ' n b pm h' L' ∧ L'.Perm (L ++ [x]) ∧ Hp.Heap plt L' L'.length := by
  obtain ⟨h1, σ1, ⟨n1, r1⟩, m1, S1⟩ := ppush_run S hp x (by omega)
  have l1 := ld1 S1.R
  obtain ⟨n2, r2⟩ := plen_run S1.g.sl
  have F1 : ∀ y ∈ L ++ [x], Fit y := fun y hy => by
    rcases List.mem_append.1 hy with hy | hy
    · exact F y hy
    · rw [List.mem_singleton] at hy; subst hy; exact fx
  obtain ⟨L', σ2, ⟨n3, r3⟩, m2, G2, P, H2⟩ := up_run S1.R S1.hb S1.g (by rw [m1.prot]; exact hp) F1 (by simp; omega) (j := L.length) (by rw [List.length_append]; exact Hp.Heap.upI H) (by simp)
  refine ⟨h1, σ2, L', Runs.intro (fn := Try.f55) (by kernel_rfl) (by kernel_rfl) ⟨n1 + n2 + n3, fun k hk => ?_⟩, m1.trans m2.mv, S1.mw m2 G2, P, H2⟩
  have r1 := r1 k (by omega)
  have r2 := r2 k (by omega)
  have r3 := r3 k (by omega)
  have w1 : IntKind.wrap .i64 (((L ++ [x]).length : Int) - 1) = ((L.length : Nat) : Int) := by
    rw [List.length_append, List.length_singleton, wrap64 (by omega) (by omega)]; omega
  simp only at r1 r2 r3
  unfold pcs at r1 ⊢
  simp only [f55_eq]
  simp only [Option.bind_some, r1, l1, r2, AV.asInt, if_true, w1, r3]
theorem hpop_run (S : Srch σ n b pm h L) (hp : σ.prot ≤ n) (F : ∀ x ∈ L, Fit x) (hs : L.length < 2 ^ 40) (H : Hp.Heap plt L L.length) (h0 : 0 < L.length) :
    ∃ x h' σ' L', Runs Try.prog 35 [.iface 81 (.ptr (some (b, 1)))] σ (.iface 79 (.agg (pcs x))) σ' ∧ Mv b h h' σ σ' ∧ Srch σ' n b pm h' L' ∧ L.Perm (x :: L') ∧ Hp.Heap plt L' L'.length ∧ ∀ y ∈ L', plt y x = false := by
  have l1 := ld1 S.R
  obtain ⟨n1, r1⟩ := plen_run S.g.sl
  obtain ⟨N, hN⟩ : ∃ N, N = L.length - 1 := ⟨_, rfl⟩
  have w1 : IntKind.wrap .i64 ((L.length : Int) - 1) = ((N : Nat) : Int) := by rw [wrap64 (by omega) (by omega)]; omega
  obtain ⟨σ1, ⟨n2, r2⟩, m1, G1⟩ := pswap_run (i := 0) (j := N) S.g hp h0 (by omega)
  have S1 := S.mw m1 G1
  have P1 := Hp.swap_perm (l := L) (i := 0) (j := N) h0 (by omega)
  have D1 := Hp.Heap.dnI plt_ord H h0
  rw [← hN] at D1
  obtain ⟨L2, σ2, v, ⟨n3, r3⟩, m2, G2, ll, P2, D2, H2⟩ := down_hrun (N := N) S1.R S1.hb S1.g (by rw [m1.prot]; exact hp) (fitp P1 F) (by rw [Hp.swap_length]; exact hs) (by rw [Hp.swap_length]; omega) D1
  rw [Hp.swap_length] at ll
  have S2 := S1.mw m2 G2
  have dr : L2.drop N = [Hp.at_ L 0] := by
    rw [D2]
    have hlen : N < (Hp.swap L 0 N).length := by rw [Hp.swap_length]; omega
    rw [List.drop_eq_getElem_cons hlen, List.drop_eq_nil_of_le (by rw [Hp.swap_length]; omega)]
    congr 1
    rw [← Hp.at_get hlen, Hp.at_swap h0 (by omega) (by omega), if_pos rfl]
  have eL : L2 = L2.take N ++ [Hp.at_ L 0] := by rw [← dr, List.take_append_drop]
  obtain ⟨h3, σ3, ⟨n4, r4⟩, m3, S3⟩ := ppop_run S2 (by rw [m2.prot, m1.prot]; exact hp) eL (by omega)
  have lt : (L2.take N).length = N := by rw [List.length_take]; omega
  have P3 : L2.Perm L := by
    have a : ((Hp.swap L 0 N).take N ++ (Hp.swap L 0 N).drop N).Perm L := by rw [List.take_append_drop]; exact P1
    have c : L2.Perm ((Hp.swap L 0 N).take N ++ (Hp.swap L 0 N).drop N) := by
      rw [← D2]
      conv => lhs; rw [← List.take_append_drop N L2]
      exact P2.append_right _
    exact c.trans a
  refine ⟨Hp.at_ L 0, h3, σ3, L2.take N, Runs.intro (fn := Try.f35) (by kernel_rfl) (by kernel_rfl) ⟨n1 + n2 + n3 + n4, fun k hk => ?_⟩, (m1.mv.trans m2.mv).trans m3, S3, ?_, ?_, fun y hy => ?_⟩
  · have r1 := r1 k (by omega)
    have r2 := r2 k (by omega)
    have r3 := r3 k (by omega)
    have r4 := r4 k (by omega)
    simp only at r1 r2 r3 r4
    rw [show ((0 : Nat) : Int) = 0 from rfl] at r2
    simp only [f35_eq]
    simp only [Option.bind_some, l1, r1, AV.asInt, if_true, w1, r2, r3, AV.asBool, r4, AV.asIfc]
  · refine P3.symm.trans ?_
    conv => lhs; rw [eL]
    exact List.perm_append_comm
  · rw [lt]
    intro i i0 i1
    have a1 : ∀ i, i < N → Hp.at_ (L2.take N) i = Hp.at_ L2 i := fun i hi => by
      rw [Hp.at_get (by omega), Hp.at_get (by omega), List.getElem_take]
    rw [a1 i i1, a1 _ (by omega)]
    exact H2 i i0 i1
  · have hyL : y ∈ L := P3.mem_iff.1 (List.mem_of_mem_take hy)
    obtain ⟨i, hi, rfl⟩ := List.mem_iff_getElem.1 hyL
    rw [← Hp.at_get hi]
    exact H.first plt_ord i hi
end
end Go.Ab


/- A search: what it holds; put. -/
namespace Go.Ab
open Go Go.Proofs Go.Ab.Wd Go.Ab.Bs Go.Ab.Sai
set_option linter.unusedVariables false
set_option linter.unusedSimpArgs false
/-! ### how much is left -/
def nsum (s : List Int) (S : List (Nat × Nat)) : Nat := (S.map (nOf s)).sum
def qsum (s : List Int) (S : List (Nat × Nat)) : Nat := (S.map fun p => nOf s p * p.1).sum
theorem sum_perm {α : Type} (f : α → Nat) {a b : List α} (p : a.Perm b) : (a.map f).sum = (b.map f).sum := (p.map f).sum_nat
theorem nsum_kid (s : List Int) (p : Nat × Nat) : nsum s (kid s p) = nOf s p := by
  unfold nsum kid; split
  · simp
  · simp; omega
theorem qsum_kid (s : List Int) (p : Nat × Nat) : qsum s (kid s p) = nOf s p * p.1 := by
  unfold qsum kid; split
  · simp
  · rename_i h; rw [show nOf s p = 0 by omega]; simp
theorem nOf_split (s : List Int) (k c : Nat) : nOf s (k + 1, c) = nOf s (k, 2 * c) + nOf s (k, 2 * c + 1) := by
  unfold nOf
  simp only
  have h : ∀ x : Int, pre (k + 1) c x = (pre k (2 * c) x || pre k (2 * c + 1) x) ∧ ¬ (pre k (2 * c) x = true ∧ pre k (2 * c + 1) x = true) := fun x => by
    have e1 : 2 ^ (k + 1) = 2 ^ k + 2 ^ k := by rw [Nat.pow_succ]; omega
    have e2 : c * (2 ^ k + 2 ^ k) = 2 * c * 2 ^ k := by generalize 2 ^ k = m; rw [Nat.mul_add, Nat.mul_assoc, Nat.two_mul]
    have e3 : (2 * c + 1) * 2 ^ k = 2 * c * 2 ^ k + 2 ^ k := by rw [Nat.add_mul, Nat.one_mul]
    refine ⟨?_, fun ⟨h1, h2⟩ => ?_⟩
    · rw [Bool.eq_iff_iff, Bool.or_eq_true, pre_iff, pre_iff, pre_iff, e1, e2, e3]
      generalize 2 * c * 2 ^ k = u
      generalize 2 ^ k = v
      omega
    · rw [pre_iff] at h1 h2
      rw [e3] at h2
      omega
  induction s with
  | nil => rfl
  | cons x s ih =>
    have hx := h x
    simp only [List.filter_cons]
    cases h1 : pre k (2 * c) x <;> cases h2 : pre k (2 * c + 1) x <;> rw [h1, h2] at hx <;> simp at hx <;> simp [hx, ih] <;> omega
theorem nsum_app (s : List Int) (a b : List (Nat × Nat)) : nsum s (a ++ b) = nsum s a + nsum s b := by simp [nsum]
theorem qsum_app (s : List Int) (a b : List (Nat × Nat)) : qsum s (a ++ b) = qsum s a + qsum s b := by simp [qsum]
theorem nsum_cons (s : List Int) (p : Nat × Nat) (b : List (Nat × Nat)) : nsum s (p :: b) = nOf s p + nsum s b := by simp [nsum]
theorem qsum_cons (s : List Int) (p : Nat × Nat) (b : List (Nat × Nat)) : qsum s (p :: b) = nOf s p * p.1 + qsum s b := by simp [qsum]
theorem nsum_split (s : List Int) (S : List (Nat × Nat)) (k c : Nat) : nsum s (S ++ kid s (k, 2 * c) ++ kid s (k, 2 * c + 1)) = nsum s ((k + 1, c) :: S) := by
  rw [nsum_app, nsum_app, nsum_kid, nsum_kid, nsum_cons, nOf_split]; omega
theorem qsum_split (s : List Int) (S : List (Nat × Nat)) (k c : Nat) : qsum s (S ++ kid s (k, 2 * c) ++ kid s (k, 2 * c + 1)) + nOf s (k + 1, c) = qsum s ((k + 1, c) :: S) := by
  rw [qsum_app, qsum_app, qsum_kid, qsum_kid, qsum_cons, nOf_split]
  simp only
  generalize nOf s (k, 2 * c) = u
  generalize nOf s (k, 2 * c + 1) = v
  rw [Nat.mul_add, Nat.add_mul, Nat.mul_one]
  omega
theorem nsum_len {s : List Int} : ∀ {S : List (Nat × Nat)}, (∀ p ∈ S, 0 < nOf s p) → S.length ≤ nsum s S
  | [], _ => by simp
  | p :: S, h => by
    rw [nsum_cons, List.length_cons]
    have := nsum_len (S := S) fun q hq => h q (by simp [hq])
    have := h p (by simp)
    omega
/-! ### what a part is -/
def abx (w : Nat) (x : Pt) : Nat × Nat := (w - x.1, x.2.1)
structure Okp (w : Nat) (l s : List Int) (x : Pt) : Prop where
  lv : x.1 ≤ w
  c : x.2.1 < 2 ^ x.1
  e : x.2.2.1 = loOf (abx w x)
  b : x.2.2.2.2 = x.2.2.2.1 + nOf s (abx w x)
  p : Part (Bs.rowAt w l (w - x.1)) x.2.2.2.1 (s.filter (pre (w - x.1) x.2.1))
theorem Okp.fit {w : Nat} {l s : List Int} {x : Pt} (h : Okp w l s x) (hw : w ≤ 24) (hl : l.length ≤ 4194304) : Fit x := by
  have h1 := h.lv
  have h2 := h.c
  have h3 := h.b
  have h4 := h.p.le
  rw [rowAt_length] at h4
  have p1 : 2 ^ x.1 ≤ 2 ^ 24 := Nat.pow_le_pow_right (by omega) (by omega)
  have p2 : x.2.2.1 < 2 ^ 40 := by
    rw [h.e]; unfold loOf abx
    simp only
    have : (x.2.1 + 1) * 2 ^ (w - x.1) ≤ 2 ^ x.1 * 2 ^ (w - x.1) := Nat.mul_le_mul_right _ h2
    rw [← Nat.pow_add, show x.1 + (w - x.1) = w by omega] at this
    have q : 2 ^ w ≤ 2 ^ 24 := Nat.pow_le_pow_right (by omega) hw
    have q2 : 0 < 2 ^ (w - x.1) := Nat.two_pow_pos _
    rw [Nat.add_mul] at this
    omega
  have e : nOf s (abx w x) = (s.filter (pre (w - x.1) x.2.1)).length := rfl
  exact ⟨by omega, by omega, p2, by omega, by omega⟩
theorem plt_nlt {w : Nat} {l s : List Int} {x y : Pt} (hx : Okp w l s x) (hy : Okp w l s y) : plt x y = nlt s (abx w x) (abx w y) := by
  have h1 := hx.b
  have h2 := hy.b
  have h3 := hx.e
  have h4 := hy.e
  rw [Bool.eq_iff_iff, plt_iff, nlt_iff]
  unfold pn
  omega
section
variable {σ : Store} {h : Hdl} {L : List Pt} {n b : Nat} {pm : Ptr}
theorem put_no (R : σ.Row b 2 [.ptr pm, .slice h]) {i1 i2 i3 i4 i5 : Int} (hc : ¬ i4 < i5) :
    Runs Try.prog 33 [.ptr (some (b, 0)), .agg [.int .i64 i1, .int .i64 i2, .int .i64 i3, .int .i64 i4, .int .i64 i5]] σ (.tuple []) (σ.push [.int .i64 i1, .int .i64 i2, .int .i64 i3, .int .i64 i4, .int .i64 i5] 5) := by
  have r0 : (σ.push [.int .i64 i1, .int .i64 i2, .int .i64 i3, .int .i64 i4, .int .i64 i5] 5).Row σ.objs.length 5 [.int .i64 i1, .int .i64 i2, .int .i64 i3, .int .i64 i4, .int .i64 i5] := Store.Row.new
  have f3 := row_int r0 (o := 3) rfl
  have f4 := row_int r0 (o := 4) rfl
  refine Runs.intro (fn := Try.f33) (by kernel_rfl) (by kernel_rfl) (Ev.of fun k => ?_)
  simp only [f33_eq]
  simp only [Option.bind_some, f3, f4, decide_eq_true_eq, if_neg hc]
theorem put_yes (S : Srch σ n b pm h L) (hp : σ.prot ≤ n) (F : ∀ x ∈ L, Fit x) (hs : L.length + 1 < 2 ^ 40) (H : Hp.Heap plt L L.length) {x : Pt} (fx : Fit x) (hx : x.2.2.2.1 < x.2.2.2.2) :
    ∃ h' σ' L', Runs Try.prog 33 [.ptr (some (b, 0)), .agg (pcs x)] σ (.tuple []) σ' ∧ Mv b h h' σ σ' ∧ Srch σ' n b pm h' L' ∧ L'.Perm (L ++ [x]) ∧ Hp.Heap plt L' L'.length := by
  have r0 : (σ.push (pcs x) 5).Row σ.objs.length 5 (pcs x) := Store.Row.new
  have f0 := row_int r0 (o := 0) rfl
  have f1 := row_int r0 (o := 1) rfl
  have f2 := row_int r0 (o := 2) rfl
  have f3 := row_int r0 (o := 3) rfl
  have f4 := row_int r0 (o := 4) rfl
  have K := Kp.push (pcs x) 5 (σ := σ) (Nat.le_refl _)
  obtain ⟨h', σ', L', ⟨n1, r1⟩, m, S', P, H'⟩ := hpush_run (S.kp K) (by simpa using hp) F hs H fx
  refine ⟨h', σ', L', Runs.intro (fn := Try.f33) (by kernel_rfl) (by kernel_rfl) ⟨n1, fun k hk => ?_⟩, (Mv.kpl K).trans m, S', P, H'⟩
  have r1 := r1 k hk
  simp only at r1
  unfold pcs at r1 f0 f1 f2 f3 f4 ⊢
  have hx' : (x.2.2.2.1 : Int) < x.2.2.2.2 := by omega
  have pa : Ptr.add (some (b, 0)) 1 = some (b, 1) := by simp [Ptr.add]
  simp only [f33_eq]
  simp only [Option.bind_some, f0, f1, f2, f3, f4, decide_eq_true_eq, if_pos hx', pa, r1]
theorem put_run (S : Srch σ n b pm h L) (hp : σ.prot ≤ n) (F : ∀ x ∈ L, Fit x) (hs : L.length + 1 < 2 ^ 40) (H : Hp.Heap plt L L.length) {x : Pt} (fx : Fit x) :
    ∃ h' σ' L', Runs Try.prog 33 [.ptr (some (b, 0)), .agg (pcs x)] σ (.tuple []) σ' ∧ Mv b h h' σ σ' ∧ Srch σ' n b pm h' L' ∧ L'.Perm (L ++ if 0 < pn x then [x] else []) ∧ Hp.Heap plt L' L'.length := by
  by_cases c : x.2.2.2.1 < x.2.2.2.2
  · rw [if_pos (by unfold pn; omega)]
    exact put_yes S hp F hs H fx c
  · rw [if_neg (by unfold pn; omega), List.append_nil]
    have K := Kp.push (pcs x) 5 (σ := σ) (Nat.le_refl _)
    exact ⟨h, _, L, put_no S.R (by omega), Mv.kpl K, S.kp K, List.Perm.refl _, H⟩
end
/-- A search over the numbers of a range: what it has told. -/
structure Sst (σ : Store) (n b : Nat) (pm : Ptr) (h : Hdl) (l s : List Int) (w : Nat) (O : List (Int × Int)) (q : Nat) : Prop where
  ex : ∃ L, Srch σ n b pm h L ∧ Hp.Heap plt L L.length ∧ (∀ x ∈ L, Okp w l s x) ∧ SI s (2 ^ w) O (L.map (abx w)) ∧ ((nsum s (L.map (abx w)) : Nat) : Int) + sum2 O = s.length ∧ qsum s (L.map (abx w)) = q
theorem SI.opos {s : List Int} {M : Nat} {O : List (Int × Int)} {S : List (Nat × Nat)} (h : SI s M O S) : ∀ o ∈ O, 0 < o.2 := fun o ho => by
  have : o ∈ dis s 0 M := h.perm.mem_iff.1 (List.mem_append_left _ ho)
  obtain ⟨v, _, _, rfl, hv⟩ := dis_fst_mem this
  simpa using hv
theorem sum2_nn {O : List (Int × Int)} (h : ∀ o ∈ O, 0 < o.2) : (O.length : Int) ≤ sum2 O := by
  induction O with
  | nil => simp [sum2]
  | cons o O ih =>
    have := ih fun x hx => h x (by simp [hx])
    have := h o (by simp)
    simp only [sum2, List.map_cons, List.sum_cons, List.length_cons] at *
    omega
theorem Sst.kp {σ σ' : Store} {n b : Nat} {pm : Ptr} {h : Hdl} {l s : List Int} {w q : Nat} {O : List (Int × Int)} (S : Sst σ n b pm h l s w O q) (k : Kp σ.objs.length σ σ') : Sst σ' n b pm h l s w O q := by
  obtain ⟨L, a, c⟩ := S.ex
  exact ⟨L, a.kp k, c⟩
end Go.Ab


/- A step of a search. -/
namespace Go.Ab
open Go Go.Proofs Go.Ab.Wd Go.Ab.Bs Go.Ab.Sai
set_option linter.unusedVariables false
set_option linter.unusedSimpArgs false
theorem row_ptrB {σ : Store} {b es o : Nat} {l : List AV} {x : Ptr} (r : σ.Row b es l) (h : l[o]? = some (.ptr x)) : σ.ldPtr (Ptr.add (some (b, 0)) o) = some x := by
  have := r.cell (0 + o)
  simp only [Nat.zero_add] at this
  simp only [Store.ldPtr, Ptr.add, Option.map_some, Nat.zero_add, this, h]
theorem shl1 {k : Nat} (hk : k ≤ 24) : shlI .i64 1 (k : Int) = ((2 ^ k : Nat) : Int) := by
  have : ∀ k : Fin 25, shlI .i64 1 ((k.val : Nat) : Int) = ((2 ^ k.val : Nat) : Int) := by decide +kernel
  exact this ⟨k, by omega⟩
/-- A row of two, written whole. -/
theorem st2 {σ : Store} {r : Nat} {x y : AV} (R : σ.Row r 2 [x, y]) (hp : σ.prot ≤ r) (u v : Int) : σ.stL (some (r, 0)) [.int .i64 u, .int .i64 v] 0 = some (σ.setO r (.cells [.int .i64 u, .int .i64 v] true 2)) := by
  have := stL_row [.int .i64 u, .int .i64 v] (o := 0) (i := 0) R hp (by simp) (fun z hz => by simp at hz; rcases hz with rfl | rfl <;> rfl)
  rw [if_neg (by simp)] at this
  simpa using this
theorem take5 {σ : Store} (x : Pt) (hp : σ.prot ≤ σ.objs.length) : ∃ σ', Store.stL (σ.push [.int .i64 0, .int .i64 0, .int .i64 0, .int .i64 0, .int .i64 0] 5) (some (σ.objs.length, 0)) (pcs x) 0 = some σ' ∧ Kp σ.objs.length σ σ' ∧ σ'.Row σ.objs.length 5 (pcs x) := by
  have r0 : (σ.push [.int .i64 0, .int .i64 0, .int .i64 0, .int .i64 0, .int .i64 0] 5).Row σ.objs.length 5 [.int .i64 0, .int .i64 0, .int .i64 0, .int .i64 0, .int .i64 0] := Store.Row.new
  have st := stL_row (pcs x) (o := 0) (i := 0) r0 (by show σ.prot ≤ _; omega) (by simp [pcs]) (fun z hz => by simp [pcs] at hz; rcases hz with rfl | rfl | rfl | rfl | rfl <;> rfl)
  rw [if_neg (by simp [pcs])] at st
  refine ⟨(σ.push [.int .i64 0, .int .i64 0, .int .i64 0, .int .i64 0, .int .i64 0] 5).setO σ.objs.length (.cells (pcs x) true 5), ?_, (Kp.push _ _ (Nat.le_refl _)).setO (Nat.le_refl _), Store.Row.setO_eq (by simp)⟩
  rw [st]; simp [pcs]
theorem Mv.setO {b : Nat} {h h' : Hdl} {σ σ' : Store} (m : Mv b h h' σ σ') {r : Nat} (hr : σ.objs.length ≤ r) {o : AObj} : Mv b h h' σ (σ'.setO r o) :=
  ⟨m.prot, by simpa using m.len, fun x hx hb hh => by
    show (σ'.objs.set r o)[x]? = _
    rw [List.getElem?_set, if_neg (by omega)]; exact m.kp x hx hb hh, m.row⟩
theorem Mv.rowk {b es : Nat} {h h' : Hdl} {σ σ' : Store} (m : Mv b h h' σ σ') {r : Nat} {l : List AV} (R : σ.Row r es l) (h1 : r ≠ b) (h2 : h.row ≠ some r) : σ'.Row r es l := (m.kp r R.lt h1 h2).trans R
theorem Srch.setO {σ : Store} {n b : Nat} {pm : Ptr} {h : Hdl} {L : List Pt} (s : Srch σ n b pm h L) {r : Nat} (h1 : r ≠ b) (h2 : h.row ≠ some r) {o : AObj} : Srch (σ.setO r o) n b pm h L :=
  ⟨s.nb, s.R.setO_ne h1, s.hb, s.g.keepX fun c hc => by
    show (σ.objs.set r o)[c]? = _
    rw [List.getElem?_set, if_neg (show ¬ r = c from fun e => h2 (e ▸ hc))]⟩
theorem Vec.keepQ {σ σ' : Store} {p : Ptr} {B : List Bool} (v : Vec σ p B) (k : ∀ x : Nat, x < σ.objs.length → σ'.objs[x]? = σ.objs[x]?) : Vec σ' p B := v.keep k
/-- The levels of a matrix that stays. -/
theorem levels_of {σ0 : Store} {p : Ptr} {l : List Int} {w : Nat} (M : Mat σ0 p l w) : ∃ ps : List Ptr, ps.length = w ∧ (∀ j, j < w → ∃ q, ps[j]? = some q ∧ Vec σ0 q (lev w l j)) ∧
    ∀ σ, Kp σ0.objs.length σ0 σ → σ.prot ≤ σ.objs.length → ∃ ho σ', Runs Try.prog 36 [.ptr p] σ (.slice ho) σ' ∧ Kp σ.objs.length σ σ' ∧ Grow σ' σ.objs.length ho 1 (ptrsL ps) := by
  obtain ⟨b, hl, ps, rfl, R, S, lp, V⟩ := M.ex
  refine ⟨ps, lp, V, fun σ K hp => ?_⟩
  have e2 := row_sl (R.kp K R.lt) (o := 2) rfl
  obtain ⟨ho, σ', ⟨k1, r1⟩, K', G⟩ := cloneP_run (Store.Sl.kp S K) hp (by have := M.wid; omega)
  refine ⟨ho, σ', Runs.intro (fn := Try.f36) (by kernel_rfl) (by kernel_rfl) ⟨k1, fun k hk => ?_⟩, K', G⟩
  have r1 := r1 k hk
  simp only at r1
  simp only [f36_eq]
  simp only [Option.bind_some, decide_eq_true_eq, decide_eq_false_iff_not, Bool.not_eq_true', Bool.not_true, Bool.not_false, Bool.false_eq_true, Bool.true_eq_false, Bool.not_eq_eq_eq_not, beq_self_eq_true, beqFT, beqTF, decide_true, decide_false, not_false_eq_true, not_true_eq_false, ne_eq, true_and, and_true, false_and, and_false, and_self, if_true, if_false, ite_true, ite_false, Bool.and_true, Bool.and_false, Bool.true_and, Bool.false_and, Bool.or_true, Bool.true_or, Bool.or_false, Bool.false_or, or_true, true_or, or_false, false_or, or_self, AV.asInt, AV.asBool, AV.asSl, AV.asPtr, AV.asFn, AV.asStr, AV.asMap, AV.asIfc, AV.item, List.length_cons, List.length_nil, List.getElem?_cons_zero, List.getElem?_cons_succ, Nat.zero_add, Option.isNone_some, e2, r1]
theorem sz79 : szOf Try.prog 79 = some 5 := by kernel_rfl
section
variable {σ0 σ : Store} {h : Hdl} {n b w q : Nat} {pm : Ptr} {l s : List Int} {O : List (Int × Int)}
theorem step_run (M : Mat σ0 pm l w) (hn : σ0.objs.length = n) (K0 : Kp n σ0 σ) (S : Sst σ n b pm h l s w O q) (hp : σ.prot ≤ n) (hs : s.length ≤ 4194304) (s0 : ∀ x ∈ s, 0 ≤ x) :
    ∃ h' σ', Mv b h h' σ σ' ∧
      ((sum2 O = s.length ∧ O = rk (dis s 0 (2 ^ w)) ∧ Sst σ' n b pm h' l s w O q ∧ Runs Try.prog 17 [.ptr (some (b, 0))] σ (.tuple [.agg [.int .i64 0, .int .i64 0], .bool false, .bool false]) σ') ∨
      (∃ c m : Int, Sst σ' n b pm h' l s w (O ++ [(c, m)]) q ∧ Runs Try.prog 17 [.ptr (some (b, 0))] σ (.tuple [.agg [.int .i64 c, .int .i64 m], .bool true, .bool true]) σ') ∨
      (∃ q', q' < q ∧ Sst σ' n b pm h' l s w O q' ∧ Runs Try.prog 17 [.ptr (some (b, 0))] σ (.tuple [.agg [.int .i64 0, .int .i64 0], .bool false, .bool true]) σ')) := by
  obtain ⟨L, S0, H, OK, si, tot, hq⟩ := S.ex
  have wd := M.wid
  have sm := M.small
  have hnb := S0.nb
  have hbl := S0.R.lt
  have F : ∀ x ∈ L, Fit x := fun x hx => (OK x hx).fit wd.2 sm
  have opos := sum2_nn si.opos
  have ls : L.length ≤ 4194304 := by
    have := nsum_len si.pos
    rw [List.length_map] at this
    omega
  have pa0 : Ptr.add (some (b, 0)) 1 = some (b, 1) := by simp [Ptr.add]
  have KP := Kp.push [.int .i64 0, .int .i64 0] 2 (σ := σ) (Nat.le_refl _)
  have S1 := S0.kp KP
  have l1 := ld1 S1.R
  have hlen := pslen S0.g.sl
  by_cases c0 : L = []
  · subst c0
    obtain ⟨σ', e1, k1, R1⟩ := take2 (σ := σ) (u := 0) (v := 0) (by omega)
    have f0 := row_int R1 (o := 0) rfl
    have f1 := row_int R1 (o := 1) rfl
    refine ⟨h, σ', Mv.kpl k1, .inl ⟨?_, SI.done si, S.kp k1, Runs.intro (fn := Try.f17) (by kernel_rfl) (by kernel_rfl) (Ev.of fun k => ?_)⟩⟩
    · have : nsum s (([] : List Pt).map (abx w)) = 0 := rfl
      rw [this] at tot; omega
    · simp only [f17_eq]
      simp only [Option.bind_some, pa0, l1, hlen, List.length_nil, decide_eq_true_eq, if_true, e1, f0, f1, Int.ofNat_zero]
  have h0 : 0 < L.length := List.length_pos_iff.2 c0
  obtain ⟨x, h1, σ1, L1, ⟨n1, r1⟩, m1, S2, P, H1, best⟩ := hpop_run S1 (by simpa using hp) F (by omega) H h0
  have okx := OK x (P.mem_iff.2 (by simp))
  have fx := okx.fit wd.2 sm
  have OK1 : ∀ y ∈ L1, Okp w l s y := fun y hy => OK y (P.mem_iff.2 (by simp [hy]))
  have hlen1 := P.length_eq
  simp only [List.length_cons] at hlen1
  have si1 := si.congr (P.map (abx w))
  rw [List.map_cons] at si1
  have ns1 : nsum s (L.map (abx w)) = nOf s (abx w x) + nsum s (L1.map (abx w)) := by rw [← nsum_cons, ← List.map_cons]; exact sum_perm _ (P.map (abx w))
  have qs1 : qsum s (L.map (abx w)) = nOf s (abx w x) * (abx w x).1 + qsum s (L1.map (abx w)) := by rw [← qsum_cons, ← List.map_cons]; exact sum_perm _ (P.map (abx w))
  have hpos : 0 < nOf s (abx w x) := si1.pos _ (by simp)
  have m1' : Mv b h h1 σ σ1 := (Mv.kpl KP).trans m1
  have g1 : ∀ {r}, h1.row = some r → r < σ1.objs.length := fun {r} e => (S2.g.row r e).2
  have len1 : σ.objs.length < σ1.objs.length := by have := m1.len; simp at this; omega
  have nr : h1.row ≠ some σ.objs.length := fun e => by
    rcases m1.row with r | r
    · have := (S0.g.row _ (r ▸ e)).2; omega
    · have := r _ e; simp at this; omega
  have Rr : σ1.Row σ.objs.length 2 [.int .i64 0, .int .i64 0] := m1.rowk Store.Row.new (by omega) (fun e => by have := (S0.g.row _ e).2; omega)
  obtain ⟨σ2, e2, k2, Rq⟩ := take5 (σ := σ1) x (by rw [m1'.prot]; omega)
  have R2 := (S2.kp k2).R
  have pb := row_ptrB R2 (o := 0) rfl
  have KN1 : Kp n σ σ1 := S0.kpn m1'
  obtain ⟨ps, lps, VV, lvr⟩ := levels_of M
  have KN2 : Kp σ0.objs.length σ0 σ2 := by rw [hn]; exact (K0.trans KN1).trans (k2.mono (by omega))
  have prot2 : σ2.prot ≤ n := by rw [k2.prot, m1'.prot]; exact hp
  have len2 := k2.len
  have q1lt : σ1.objs.length < σ2.objs.length := Rq.lt
  obtain ⟨ho, σ3, ⟨n2, r2⟩, k3, G3⟩ := lvr σ2 KN2 (by omega)
  have lho := G3.len
  have lpl : (ptrsL ps).length = w := by simp [ptrsL, lps]
  have k23 : Kp σ1.objs.length σ1 σ3 := k2.trans (k3.mono len2)
  have S3 := S2.kp k23
  have Rq3 := Rq.kp k3 Rq.lt
  have Rr3 : σ3.Row σ.objs.length 2 [.int .i64 0, .int .i64 0] := Rr.kp k23 Rr.lt
  have m3 : Mv b h h1 σ σ3 := m1'.trans (Mv.kpl k23)
  have v0 := row_int Rq3 (o := 0) rfl
  have v1 := row_int Rq3 (o := 1) rfl
  have v2 := row_int Rq3 (o := 2) rfl
  have v3 := row_int Rq3 (o := 3) rfl
  have v4 := row_int Rq3 (o := 4) rfl
  have ne0 : ¬ ((h.len : Int) = 0) := by omega
  have prot3 : σ3.prot ≤ n := by rw [k3.prot]; exact prot2
  have nbn : σ.objs.length ≠ b := by omega
  have len3 := k3.len
  have unf : pcs x = [.int .i64 x.1, .int .i64 x.2.1, .int .i64 x.2.2.1, .int .i64 x.2.2.2.1, .int .i64 x.2.2.2.2] := rfl
  rw [unf] at r1 e2
  by_cases c1 : x.1 = w
  · -- a number is told
    have wm : IntKind.wrap .i64 ((x.2.2.2.2 : Int) - x.2.2.2.1) = ((nOf s (abx w x) : Nat) : Int) := by
      have h1 := fx.a
      have h2 := fx.b
      have h3 := okx.b
      rw [wrap64 (by omega) (by omega)]; omega
    have e3 := st2 Rr3 (by omega) x.2.1 (nOf s (abx w x) : Nat)
    obtain ⟨σ4, h4⟩ : ∃ σ4, σ4 = σ3.setO σ.objs.length (.cells [.int .i64 x.2.1, .int .i64 ((nOf s (abx w x) : Nat) : Int)] true 2) := ⟨_, rfl⟩
    rw [← h4] at e3
    have R4 : σ4.Row σ.objs.length 2 [.int .i64 x.2.1, .int .i64 ((nOf s (abx w x) : Nat) : Int)] := by rw [h4]; exact Store.Row.setO_eq Rr3.lt
    have f0 := row_int R4 (o := 0) rfl
    have f1 := row_int R4 (o := 1) rfl
    have ab0 : abx w x = (0, x.2.1) := by unfold abx; rw [c1, Nat.sub_self]
    refine ⟨h1, σ4, by rw [h4]; exact m3.setO (Nat.le_refl _), .inr (.inl ⟨x.2.1, (nOf s (abx w x) : Nat), ⟨L1, by rw [h4]; exact S3.setO nbn nr, H1, OK1, ?_, ?_, ?_⟩, Runs.intro (fn := Try.f17) (by kernel_rfl) (by kernel_rfl) ⟨n1 + n2, fun k hk => ?_⟩⟩)⟩
    · rw [ab0] at si1 ⊢
      refine si1.tell s0 fun p hp' => ?_
      obtain ⟨y, hy, rfl⟩ := List.mem_map.1 hp'
      rw [← ab0, ← plt_nlt (OK1 y hy) okx]
      exact best y hy
    · rw [sum2_append]
      have : sum2 [((x.2.1 : Int), ((nOf s (abx w x) : Nat) : Int))] = (nOf s (abx w x) : Nat) := by simp [sum2]
      rw [this]; omega
    · rw [ab0] at qs1; simp only [Nat.mul_zero, Nat.zero_add] at qs1; omega
    · have r1 := r1 k (by omega)
      have r2 := r2 k (by omega)
      simp only at r1 r2
      have cw : (x.1 : Int) = ho.len := by omega
      simp only [f17_eq]
      simp only [Option.bind_some, pa0, l1, decide_eq_true_eq, if_neg ne0, r1, AV.asIfc, if_true, AV.aggAt, AV.asInt, List.length_cons, List.length_nil, List.getElem?_cons_zero, List.getElem?_cons_succ, AV.cells, Bool.false_eq_true, if_false, sz79, e2, pb, r2, AV.asSl, v0, if_pos cw, v1, v4, v3, wm, e3, f0, f1, Nat.zero_add, Nat.reduceAdd]
      simp [e2, pb, r2, AV.asSl, v0, cw, v1, v4, v3, wm, e3, f0, f1]
  · -- a part is split
    have xw := okx.lv
    obtain ⟨j, hj⟩ : ∃ j, j = x.1 := ⟨_, rfl⟩
    obtain ⟨k, hk⟩ : ∃ k, w = j + (k + 1) := ⟨w - x.1 - 1, by omega⟩
    have abk : abx w x = (k + 1, x.2.1) := by unfold abx; rw [show w - x.1 = k + 1 by omega]
    have okp := okx.p
    rw [show w - x.1 = k + 1 by omega] at okp
    have okb := okx.b
    have eN : nOf s (abx w x) = (s.filter (pre (k + 1) x.2.1)).length := by rw [abk]; rfl
    rw [eN] at okb
    have st0 := okp.step (by omega) false
    have st1 := okp.step (by omega) true
    rw [← lev_eq l hk, ← okb] at st0 st1
    simp only [bn, Bool.false_eq_true, if_false, if_true, Nat.add_zero, goto] at st0 st1
    obtain ⟨qv, hqv, V0⟩ := VV j (by omega)
    have KN3 : Kp σ0.objs.length σ0 σ3 := by rw [hn] at KN2 ⊢; exact KN2.trans (k3.mono (by omega))
    have V3 : Vec σ3 qv (lev w l j) := V0.kp KN3
    have lb := lev_length w l j
    have ldv := ptrs_rd G3.sl hqv
    obtain ⟨m1_, r3⟩ := vec_len V3
    obtain ⟨m2_, r4⟩ := vec_ones V3
    obtain ⟨m3_, r5⟩ := vec_zeros (V3.keepQ (σ' := { σ3 with prot := σ3.objs.length }) fun _ _ => rfl) (x.2.2.2.1 : Nat)
    obtain ⟨m4_, r6⟩ := vec_zeros (V3.keepQ (σ' := { σ3 with prot := σ3.objs.length }) fun _ _ => rfl) (x.2.2.2.2 : Nat)
    rw [Int.toNat_natCast] at r5 r6
    have fl := fx.l
    have fc := okx.c
    have fe := fx.e
    have pj : 2 ^ x.1 ≤ 2 ^ 24 := Nat.pow_le_pow_right (by omega) (by omega)
    have pk : 2 ^ k ≤ 2 ^ 24 := Nat.pow_le_pow_right (by omega) (by omega)
    have w1 : IntKind.wrap .i64 ((x.1 : Int) + 1) = ((x.1 + 1 : Nat) : Int) := by rw [wrap64 (by omega) (by omega)]; omega
    have w2 : IntKind.wrap .i64 (2 * (x.2.1 : Int)) = ((2 * x.2.1 : Nat) : Int) := by rw [wrap64 (by omega) (by omega)]; omega
    have w3 : IntKind.wrap .i64 (((2 * x.2.1 : Nat) : Int) + 1) = ((2 * x.2.1 + 1 : Nat) : Int) := by rw [wrap64 (by omega) (by omega)]; omega
    have w4 : IntKind.wrap .i64 (IntKind.wrap .i64 ((ho.len : Int) - x.1) - 1) = ((k : Nat) : Int) := by rw [wrap64 (x := (ho.len : Int) - x.1) (by omega) (by omega), wrap64 (by omega) (by omega)]; omega
    have w5 : IntKind.wrap .i64 ((x.2.2.1 : Int) + ((2 ^ k : Nat) : Int)) = ((x.2.2.1 + 2 ^ k : Nat) : Int) :=
      (fun (t : Nat) (ht : t ≤ 2 ^ 24) => by rw [wrap64 (by omega) (by omega)]; omega : ∀ t : Nat, t ≤ 2 ^ 24 → IntKind.wrap .i64 ((x.2.2.1 : Int) + (t : Int)) = ((x.2.2.1 + t : Nat) : Int)) (2 ^ k) pk
    have ol := onesTo_len (lev w l j) (lev w l j).length
    have zl : zerosTo (lev w l j) (lev w l j).length = (lev w l j).length - onesTo (lev w l j) (lev w l j).length := by unfold zerosTo; rw [Nat.min_self]
    have w6 : IntKind.wrap .i64 (((lev w l j).length : Int) - (onesTo (lev w l j) (lev w l j).length : Nat)) = ((zerosTo (lev w l j) (lev w l j).length : Nat) : Int) := by rw [wrap64 (by omega) (by omega)]; omega
    have oa := onesTo_len (lev w l j) x.2.2.2.1
    have ob := onesTo_len (lev w l j) x.2.2.2.2
    have w7 : IntKind.wrap .i64 (((zerosTo (lev w l j) (lev w l j).length : Nat) : Int) + (onesTo (lev w l j) x.2.2.2.1 : Nat)) = ((zerosTo (lev w l j) (lev w l j).length + onesTo (lev w l j) x.2.2.2.1 : Nat) : Int) := by rw [wrap64 (by omega) (by omega)]; omega
    have w8 : IntKind.wrap .i64 (((zerosTo (lev w l j) (lev w l j).length : Nat) : Int) + (onesTo (lev w l j) x.2.2.2.2 : Nat)) = ((zerosTo (lev w l j) (lev w l j).length + onesTo (lev w l j) x.2.2.2.2 : Nat) : Int) := by rw [wrap64 (by omega) (by omega)]; omega
    -- the two halves
    obtain ⟨x1, hx1⟩ : ∃ y : Pt, y = (x.1 + 1, 2 * x.2.1, x.2.2.1, zerosTo (lev w l j) x.2.2.2.1, zerosTo (lev w l j) x.2.2.2.2) := ⟨_, rfl⟩
    obtain ⟨x2, hx2⟩ : ∃ y : Pt, y = (x.1 + 1, 2 * x.2.1 + 1, x.2.2.1 + 2 ^ k, zerosTo (lev w l j) (lev w l j).length + onesTo (lev w l j) x.2.2.2.1, zerosTo (lev w l j) (lev w l j).length + onesTo (lev w l j) x.2.2.2.2) := ⟨_, rfl⟩
    have a1 : abx w x1 = (k, 2 * x.2.1) := by rw [hx1]; unfold abx; simp only; rw [show w - (x.1 + 1) = k by omega]
    have a2 : abx w x2 = (k, 2 * x.2.1 + 1) := by rw [hx2]; unfold abx; simp only; rw [show w - (x.1 + 1) = k by omega]
    have e0 : x.2.2.1 = x.2.1 * 2 ^ (k + 1) := by have := okx.e; rw [abk] at this; exact this
    have e1' : 2 * x.2.1 * 2 ^ k = x.2.1 * 2 ^ (k + 1) := by rw [Nat.pow_succ, Nat.mul_comm 2 x.2.1, Nat.mul_assoc, Nat.mul_comm 2 (2 ^ k)]
    have ok1 : Okp w l s x1 := by
      refine ⟨by rw [hx1]; simp only; omega, by rw [hx1]; simp only; rw [Nat.pow_succ]; omega, ?_, ?_, ?_⟩
      · rw [a1]; rw [hx1]; unfold loOf; simp only; omega
      · rw [a1]; rw [hx1]; simp only; rw [st0.2]; rfl
      · rw [hx1]; simp only; rw [show w - (x.1 + 1) = k by omega]; exact st0.1
    have ok2 : Okp w l s x2 := by
      refine ⟨by rw [hx2]; simp only; omega, by rw [hx2]; simp only; rw [Nat.pow_succ]; omega, ?_, ?_, ?_⟩
      · rw [a2]; rw [hx2]; unfold loOf; simp only; rw [Nat.add_mul, Nat.one_mul]; omega
      · rw [a2]; rw [hx2]; simp only; rw [st1.2]; rfl
      · rw [hx2]; simp only; rw [show w - (x.1 + 1) = k by omega]; exact st1.1
    have f1 := ok1.fit wd.2 sm
    have f2 := ok2.fit wd.2 sm
    have pn1 : pn x1 = nOf s (k, 2 * x.2.1) := by have := ok1.b; rw [a1] at this; unfold pn; omega
    have pn2 : pn x2 = nOf s (k, 2 * x.2.1 + 1) := by have := ok2.b; rw [a2] at this; unfold pn; omega
    obtain ⟨h4, σ4, L4, ⟨m5_, r7⟩, m4, S4, P4, H4⟩ := put_run S3 prot3 (fun y hy => (OK1 y hy).fit wd.2 sm) (by omega) H1 f1
    have OK4 : ∀ y ∈ L4, Okp w l s y := fun y hy => by
      rcases List.mem_append.1 (P4.mem_iff.1 hy) with hy | hy
      · exact OK1 y hy
      · split at hy
        · rw [List.mem_singleton] at hy; subst hy; exact ok1
        · cases hy
    have len4 := m4.len
    have KN4 : Kp σ0.objs.length σ0 σ4 := by rw [hn] at KN3 ⊢; exact KN3.trans (S3.kpn m4)
    have V4 : Vec σ4 qv (lev w l j) := V0.kp KN4
    have qne : h1.row ≠ some σ1.objs.length := fun e => by have := g1 e; omega
    have Rq4 := m4.rowk Rq3 (by have := S2.R.lt; omega) qne
    have Rr4 := m4.rowk Rr3 nbn nr
    have nr4 : h4.row ≠ some σ.objs.length := fun e => by
      rcases m4.row with r | r
      · exact nr (r ▸ e)
      · have := r _ e; omega
    have u0 := row_int Rq4 (o := 0) rfl
    have u1 := row_int Rq4 (o := 1) rfl
    have u2 := row_int Rq4 (o := 2) rfl
    have u3 := row_int Rq4 (o := 3) rfl
    have u4 := row_int Rq4 (o := 4) rfl
    obtain ⟨m6_, r8⟩ := vec_rank (V4.keepQ (σ' := { σ4 with prot := σ4.objs.length }) fun _ _ => rfl) (x.2.2.2.1 : Nat)
    obtain ⟨m7_, r9⟩ := vec_rank (V4.keepQ (σ' := { σ4 with prot := σ4.objs.length }) fun _ _ => rfl) (x.2.2.2.2 : Nat)
    rw [Int.toNat_natCast] at r8 r9
    have ll4 := P4.length_eq
    have ll4' : L4.length ≤ L1.length + 1 := by
      rw [ll4, List.length_append]; split <;> simp
    obtain ⟨h5, σ5, L5, ⟨m8_, r10⟩, m5, S5, P5, H5⟩ := put_run S4 (by rw [m4.prot]; exact prot3) (fun y hy => (OK4 y hy).fit wd.2 sm) (by omega) H4 f2
    have OK5 : ∀ y ∈ L5, Okp w l s y := fun y hy => by
      rcases List.mem_append.1 (P5.mem_iff.1 hy) with hy | hy
      · exact OK4 y hy
      · split at hy
        · rw [List.mem_singleton] at hy; subst hy; exact ok2
        · cases hy
    have nr5 : h5.row ≠ some σ.objs.length := fun e => by
      rcases m5.row with r | r
      · exact nr4 (r ▸ e)
      · have := r _ e; omega
    have Rr5 := m5.rowk Rr4 nbn nr4
    have e3 := st2 Rr5 (by rw [m5.prot, m4.prot]; omega) 0 0
    obtain ⟨σ6, h6⟩ : ∃ σ6, σ6 = σ5.setO σ.objs.length (.cells [.int .i64 0, .int .i64 0] true 2) := ⟨_, rfl⟩
    rw [← h6] at e3
    have R6 : σ6.Row σ.objs.length 2 [.int .i64 0, .int .i64 0] := by rw [h6]; exact Store.Row.setO_eq Rr5.lt
    have z0 := row_int R6 (o := 0) rfl
    have z1 := row_int R6 (o := 1) rfl
    have PL : (L5.map (abx w)).Perm (L1.map (abx w) ++ kid s (k, 2 * x.2.1) ++ kid s (k, 2 * x.2.1 + 1)) := by
      have t1 : ((if 0 < pn x1 then [x1] else []).map (abx w)) = kid s (k, 2 * x.2.1) := by
        rw [pn1]; unfold kid; split
        · simp [a1]
        · rfl
      have t2 : ((if 0 < pn x2 then [x2] else []).map (abx w)) = kid s (k, 2 * x.2.1 + 1) := by
        rw [pn2]; unfold kid; split
        · simp [a2]
        · rfl
      have q1 := P5.map (abx w)
      have q2 := P4.map (abx w)
      rw [List.map_append, t2] at q1
      rw [List.map_append, t1] at q2
      exact q1.trans (q2.append_right _)
    rw [abk] at si1 ns1 qs1 hpos
    have nn := sum_perm (nOf s) PL
    have qq := sum_perm (fun p => nOf s p * p.1) PL
    have ns2 := nsum_split s (L1.map (abx w)) k x.2.1
    have qs2 := qsum_split s (L1.map (abx w)) k x.2.1
    rw [nsum_cons] at ns2
    rw [qsum_cons] at qs2
    have nn' : nsum s (L5.map (abx w)) = nsum s (L1.map (abx w) ++ kid s (k, 2 * x.2.1) ++ kid s (k, 2 * x.2.1 + 1)) := nn
    have qq' : qsum s (L5.map (abx w)) = qsum s (L1.map (abx w) ++ kid s (k, 2 * x.2.1) ++ kid s (k, 2 * x.2.1 + 1)) := qq
    refine ⟨h5, σ6, by rw [h6]; exact ((m3.trans m4).trans m5).setO (Nat.le_refl _), .inr (.inr ⟨qsum s (L5.map (abx w)), ?_, ⟨L5, by rw [h6]; exact S5.setO nbn nr5, H5, OK5, si1.split.congr PL.symm, ?_, rfl⟩, Runs.intro (fn := Try.f17) (by kernel_rfl) (by kernel_rfl) ⟨n1 + n2 + m1_ + m2_ + m3_ + m4_ + m5_ + m6_ + m7_ + m8_, fun K hK => ?_⟩⟩)⟩
    · simp only at qs1 qs2; omega
    · omega
    · have r1 := r1 K (by omega)
      have r2 := r2 K (by omega)
      have r3 := r3 K (by omega)
      have r4 := r4 K (by omega)
      have r5 := r5 K (by omega)
      have r6 := r6 K (by omega)
      have r7 := r7 K (by omega)
      have r8 := r8 K (by omega)
      have r9 := r9 K (by omega)
      have r10 := r10 K (by omega)
      simp only at r1 r2 r3 r4 r5 r6 r7 r8 r9 r10
      have g5 := callG_same r5
      have g6 := callG_same r6
      have g8 := callG_same r8
      have g9 := callG_same r9
      have cw : ¬ ((x.1 : Int) = ho.len) := by omega
      have ci : (0 : Int) ≤ x.1 ∧ (x.1 : Int) < ho.len := by omega
      have ck : (0 : Int) ≤ (k : Nat) := by omega
      rw [hj] at ldv
      unfold pcs at r7 r10
      rw [hx1] at r7
      rw [hx2] at r10
      simp only at r7 r10
      simp only [f17_eq]
      simp only [Option.bind_some, pa0, l1, decide_eq_true_eq, if_neg ne0, r1, AV.asIfc, if_true, AV.aggAt, AV.asInt, List.length_cons, List.length_nil, List.getElem?_cons_zero, List.getElem?_cons_succ, AV.cells, Bool.false_eq_true, if_false, sz79, e2, pb, r2, AV.asSl, v0, if_neg cw, if_pos ci, ldv, w4, if_pos ck, r3, r4, v1, v2, v3, v4, g5, g6, w1, w2, r7, u0, u1, u2, u3, u4, g8, g9, w3, shl1 (show k ≤ 24 by omega), w5, w6, w7, w8, r10, e3, z0, z1, Nat.zero_add, Nat.reduceAdd]
      simp [e2, pb, r2, AV.asSl, v0, cw, ldv, w4, r3, r4, v1, v2, v3, v4, g5, g6, w1, w2, r7, u0, u1, u2, u3, u4, g8, g9, w3, shl1 (show k ≤ 24 by omega), w5, w6, w7, w8, r10, e3, z0, z1]
end
end Go.Ab


/- A new search; its next number. -/
namespace Go.Ab
open Go Go.Proofs Go.Ab.Wd Go.Ab.Bs Go.Ab.Sai
set_option linter.unusedVariables false
set_option linter.unusedSimpArgs false
theorem nOf_top {s : List Int} {w : Nat} (h : ∀ x ∈ s, x.toNat < 2 ^ w) : nOf s (w, 0) = s.length := by
  unfold nOf; rw [List.filter_eq_self.2 fun x hx => pre_top (h x hx)]
theorem Sst.setO {σ : Store} {n b : Nat} {pm : Ptr} {h : Hdl} {l s : List Int} {w q : Nat} {O : List (Int × Int)} (S : Sst σ n b pm h l s w O q) {r : Nat} (h1 : r ≠ b) (h2 : h.row ≠ some r) {o : AObj} : Sst (σ.setO r o) n b pm h l s w O q := by
  obtain ⟨L, a, c⟩ := S.ex
  exact ⟨L, a.setO h1 h2, c⟩
theorem Sst.keepS {σ σ' : Store} {n b : Nat} {pm : Ptr} {h : Hdl} {l s : List Int} {w q : Nat} {O : List (Int × Int)} (S : Sst σ n b pm h l s w O q) (k : ∀ x, x < σ.objs.length → (x = b ∨ h.row = some x) → σ'.objs[x]? = σ.objs[x]?) : Sst σ' n b pm h l s w O q := by
  obtain ⟨L, a, c⟩ := S.ex
  exact ⟨L, ⟨a.nb, (k b a.R.lt (.inl rfl)).trans a.R, a.hb, a.g.keepX fun x hx => k x (a.g.row x hx).2 (.inr hx)⟩, c⟩
theorem Sst.lt {σ : Store} {n b : Nat} {pm : Ptr} {h : Hdl} {l s : List Int} {w q : Nat} {O : List (Int × Int)} (S : Sst σ n b pm h l s w O q) : n ≤ b ∧ b < σ.objs.length ∧ h.row ≠ some b ∧ ∀ x, h.row = some x → n ≤ x ∧ x < σ.objs.length := by
  obtain ⟨L, a, c⟩ := S.ex
  exact ⟨a.nb, a.R.lt, a.hb, fun x hx => a.g.row x hx⟩
theorem Sst.kpn {σ σ' : Store} {n b : Nat} {pm : Ptr} {h h' : Hdl} {l s : List Int} {w q : Nat} {O : List (Int × Int)} (S : Sst σ n b pm h l s w O q) (m : Mv b h h' σ σ') : Kp n σ σ' := by
  obtain ⟨L, a, c⟩ := S.ex
  exact a.kpn m
theorem bnew_run {σ : Store} {pm : Ptr} {l : List Int} {w : Nat} (M : Mat σ pm l w) (hp : σ.prot ≤ σ.objs.length) (a b : Int) :
    ∃ h σ', Runs Try.prog 16 [.ptr pm, .int .i64 a, .int .i64 b] σ (.ptr (some (σ.objs.length, 0))) σ' ∧ Kp σ.objs.length σ σ' ∧ Sst σ' σ.objs.length σ.objs.length pm h l (seg l a b) w [] ((seg l a b).length * w) := by
  have KP := Kp.push [.ptr pm, .slice Hdl.nil] 2 (σ := σ) (Nat.le_refl _)
  have M1 := M.kp KP
  have wd := M.wid
  have sm := M.small
  obtain ⟨n1, r1⟩ := matLen_run M1
  have S0 : Srch (σ.push [.ptr pm, .slice Hdl.nil] 2) σ.objs.length σ.objs.length pm Hdl.nil [] := ⟨Nat.le_refl _, Store.Row.new, by simp [Hdl.row, Hdl.nil], Grow.nil _ _ _⟩
  obtain ⟨s, hs⟩ : ∃ s, s = seg l a b := ⟨_, rfl⟩
  have sw : ∀ x ∈ s, x.toNat < 2 ^ w := fun x hx => M.nat x (seg_mem (hs ▸ hx))
  have st := SI.start (s := s) (w := w)
  by_cases c : max a 0 < min b l.length
  · have lo : segLo a < l.length := by unfold segLo; omega
    obtain ⟨s1, s2, s3⟩ := seg_length (l := l) (a := a) (b := b) lo
    have hlo : ((segLo a : Nat) : Int) = mx2 a 0 := by rw [mx2_eq]; unfold segLo; omega
    have hhi : ((segHi l a b : Nat) : Int) = mn2 b l.length := by rw [mn2_eq]; unfold segHi; omega
    have hlt : segLo a < segHi l a b := by rw [mx2_eq] at hlo; rw [mn2_eq] at hhi; omega
    obtain ⟨x, hx⟩ : ∃ x : Pt, x = (0, 0, 0, segLo a, segHi l a b) := ⟨_, rfl⟩
    have ax : abx w x = (w, 0) := by rw [hx]; rfl
    have ok : Okp w l s x := by
      refine ⟨by rw [hx]; exact Nat.zero_le _, by rw [hx]; simp, by rw [ax, hx]; simp [loOf], ?_, ?_⟩
      · rw [ax, nOf_top sw, hs, s1, hx]; simp only; omega
      · rw [hx]; simp only [Nat.sub_zero]; rw [hs]; exact Part.top M.nat s2 s3
    have fx := ok.fit wd.2 sm
    obtain ⟨h', σ', L', ⟨n2, r2⟩, m, S', P, H⟩ := put_yes S0 (by simpa using hp) (fun y hy => by cases hy) (by simp) (fun i i0 i1 => by simp at i1) fx (by rw [hx]; exact hlt)
    rw [List.nil_append] at P
    have eL : L' = [x] := List.perm_singleton.1 P
    subst eL
    have pc : pcs x = [.int .i64 0, .int .i64 0, .int .i64 0, .int .i64 (mx2 a 0), .int .i64 (mn2 b l.length)] := by
      rw [hx, ← hlo, ← hhi]; rfl
    rw [pc] at r2
    have hk : kid s (w, 0) = [(w, 0)] := by unfold kid; rw [if_pos (by rw [nOf_top sw, hs, s1]; omega)]
    rw [hk] at st
    refine ⟨h', σ', Runs.intro (fn := Try.f16) (by kernel_rfl) (by kernel_rfl) ⟨n1 + n2, fun k hk => ?_⟩, KP.trans (S0.kpn m), [x], S', H, fun y hy => by rw [List.mem_singleton] at hy; subst hy; rw [← hs]; exact ok, by rw [← hs, List.map_singleton, ax]; exact st, ?_, ?_⟩
    · have r1 := r1 k (by omega)
      have r2 := r2 k (by omega)
      simp only at r1 r2
      simp only [f16_eq]
      simp only [Option.bind_some, r1, AV.asInt, if_true, r2]
    · rw [← hs, List.map_singleton, ax]; simp [nsum, sum2, nOf_top sw]
    · rw [← hs, List.map_singleton, ax]; simp [qsum, nOf_top sw]
  · have e : s = [] := by
      rw [hs]
      apply List.eq_nil_of_length_eq_zero
      unfold seg segHi segLo
      simp
      omega
    have hk : kid s (w, 0) = [] := by rw [e]; rfl
    rw [hk] at st
    have r2' := put_no (σ := σ.push [.ptr pm, .slice Hdl.nil] 2) S0.R (i1 := 0) (i2 := 0) (i3 := 0) (i4 := mx2 a 0) (i5 := mn2 b l.length) (by rw [mx2_eq, mn2_eq]; exact c)
    obtain ⟨n2, r2⟩ := r2'
    have K2 := Kp.push [.int .i64 0, .int .i64 0, .int .i64 0, .int .i64 (mx2 a 0), .int .i64 (mn2 b l.length)] 5 (σ := σ.push [.ptr pm, .slice Hdl.nil] 2) (Nat.le_refl _)
    refine ⟨Hdl.nil, _, Runs.intro (fn := Try.f16) (by kernel_rfl) (by kernel_rfl) ⟨n1 + n2, fun k hk => ?_⟩, KP.then K2 (by simp), [], S0.kp K2, (fun i i0 i1 => by simp at i1), (fun y hy => by cases hy), (by rw [← hs]; exact st), ?_, ?_⟩
    · have r1 := r1 k (by omega)
      have r2 := r2 k (by omega)
      simp only at r1 r2
      simp only [f16_eq]
      simp only [Option.bind_some, r1, AV.asInt, if_true, r2]
    · rw [← hs, e]; simp [nsum, sum2]
    · rw [← hs, e]; simp [qsum]
section
variable {σ0 σ : Store} {h : Hdl} {n b w q : Nat} {pm : Ptr} {l s : List Int} {O : List (Int × Int)}
theorem next_run (M : Mat σ0 pm l w) (hn : σ0.objs.length = n) (K0 : Kp n σ0 σ) (S : Sst σ n b pm h l s w O q) (hp : σ.prot ≤ n) (hs : s.length ≤ 4194304) (s0 : ∀ x ∈ s, 0 ≤ x) :
    ∃ h' σ' c m f, Runs Try.prog 18 [.ptr (some (b, 0))] σ (.tuple [.agg [.int .i64 c, .int .i64 m], .bool f]) σ' ∧ Mv b h h' σ σ' ∧
      ((f = false ∧ O = rk (dis s 0 (2 ^ w)) ∧ ∃ q, Sst σ' n b pm h' l s w O q) ∨ (f = true ∧ ∃ q, Sst σ' n b pm h' l s w (O ++ [(c, m)]) q)) := by
  have KP := Kp.push [.int .i64 0, .int .i64 0] 2 (σ := σ) (Nat.le_refl _)
  obtain ⟨hnb, hbl, hhb, hrw⟩ := S.lt
  have nbn : σ.objs.length ≠ b := by omega
  obtain ⟨r, e, h', σ', c, m, f, rfl, mm, R, fin⟩ := EvI.while (f := fun k s => stepF Try.prog (gm Try.prog k) drawn k Try.f18 [1, 0] [2, 0] s)
    (fun q st => ∃ h' σ', st = ([.ptr (some (σ.objs.length, 0)), .ptr (some (b, 0))], σ') ∧ Mv b h h' σ σ' ∧ h'.row ≠ some σ.objs.length ∧ σ'.Row σ.objs.length 2 [.int .i64 0, .int .i64 0] ∧ Sst σ' n b pm h' l s w O q)
    (fun r => ∃ h' σ' c m f, r = (AX.ret, [(3, .bool f), (2, .ptr (some (σ.objs.length, 0)))], σ') ∧ Mv b h h' σ σ' ∧ σ'.Row σ.objs.length 2 [.int .i64 c, .int .i64 m] ∧
      ((f = false ∧ O = rk (dis s 0 (2 ^ w)) ∧ ∃ q, Sst σ' n b pm h' l s w O q) ∨ (f = true ∧ ∃ q, Sst σ' n b pm h' l s w (O ++ [(c, m)]) q)))
    (by
      rintro q' st ⟨h1, σ1, rfl, m1, ap1, R1, S1⟩
      have K1 : Kp n σ0 σ1 := K0.trans (S.kpn m1)
      have p1 : σ1.prot ≤ n := by rw [m1.prot]; exact hp
      obtain ⟨h2, σ2, m2, cs⟩ := step_run M hn K1 S1 p1 hs s0
      have R2 := m2.rowk R1 nbn ap1
      have m12 := m1.trans m2
      have ap2 : h2.row ≠ some σ.objs.length := fun e => by
        rcases m2.row with r | r
        · exact ap1 (r ▸ e)
        · have := r _ e; have := R1.lt; omega
      have p2 : σ2.prot ≤ σ.objs.length := by rw [m2.prot]; omega
      have l12 := m12.len
      have tk : ∀ c m : Int, ∃ σ3, Store.stL (σ2.push [.int .i64 0, .int .i64 0] 2) (some (σ2.objs.length, 0)) [.int .i64 c, .int .i64 m] 0 = some σ3 ∧ Kp σ2.objs.length σ2 σ3 ∧ σ3.Row σ2.objs.length 2 [.int .i64 c, .int .i64 m] := fun c m => take2 (by omega)
      rcases cs with ⟨t1, t2, S2, n1, r1⟩ | ⟨c, m, S2, n1, r1⟩ | ⟨q2, hq2, S2, n1, r1⟩
      · obtain ⟨σ3, e3, k3, R3⟩ := tk 0 0
        have f0 := row_int R3 (o := 0) rfl
        have f1 := row_int R3 (o := 1) rfl
        have Rr := R2.kp k3 R2.lt
        have e4 := st2 Rr (by rw [k3.prot]; exact p2) 0 0
        refine .inr ⟨_, ⟨n1, fun k hk => ?_⟩, h2, σ3.setO σ.objs.length (.cells [.int .i64 0, .int .i64 0] true 2), 0, 0, false, rfl, (m12.trans (Mv.kpl k3)).setO (Nat.le_refl _), Store.Row.setO_eq Rr.lt, .inl ⟨rfl, t2, _, (S2.kp k3).setO nbn ap2⟩⟩
        have r1 := r1 k hk
        simp only at r1
        simp only [f18_L10]
        simp only [Option.bind_some, decide_eq_true_eq, decide_eq_false_iff_not, Bool.not_eq_true', Bool.not_true, Bool.not_false, Bool.false_eq_true, Bool.true_eq_false, Bool.not_eq_eq_eq_not, beq_self_eq_true, beqFT, beqTF, decide_true, decide_false, not_false_eq_true, not_true_eq_false, ne_eq, true_and, and_true, false_and, and_false, and_self, if_true, if_false, ite_true, ite_false, Bool.and_true, Bool.and_false, Bool.true_and, Bool.false_and, Bool.or_true, Bool.true_or, Bool.or_false, Bool.false_or, or_true, true_or, or_false, false_or, or_self, AV.asInt, AV.asBool, AV.asSl, AV.asPtr, AV.asFn, AV.asStr, AV.asMap, AV.asIfc, AV.item, List.length_cons, List.length_nil, List.getElem?_cons_zero, List.getElem?_cons_succ, Nat.zero_add, r1, AV.aggAt, e3, f0, f1, e4]
      · obtain ⟨σ3, e3, k3, R3⟩ := tk c m
        have f0 := row_int R3 (o := 0) rfl
        have f1 := row_int R3 (o := 1) rfl
        have Rr := R2.kp k3 R2.lt
        have e4 := st2 Rr (by rw [k3.prot]; exact p2) c m
        refine .inr ⟨_, ⟨n1, fun k hk => ?_⟩, h2, σ3.setO σ.objs.length (.cells [.int .i64 c, .int .i64 m] true 2), c, m, true, rfl, (m12.trans (Mv.kpl k3)).setO (Nat.le_refl _), Store.Row.setO_eq Rr.lt, .inr ⟨rfl, _, (S2.kp k3).setO nbn ap2⟩⟩
        have r1 := r1 k hk
        simp only at r1
        simp only [f18_L10]
        simp only [Option.bind_some, decide_eq_true_eq, decide_eq_false_iff_not, Bool.not_eq_true', Bool.not_true, Bool.not_false, Bool.false_eq_true, Bool.true_eq_false, Bool.not_eq_eq_eq_not, beq_self_eq_true, beqFT, beqTF, decide_true, decide_false, not_false_eq_true, not_true_eq_false, ne_eq, true_and, and_true, false_and, and_false, and_self, if_true, if_false, ite_true, ite_false, Bool.and_true, Bool.and_false, Bool.true_and, Bool.false_and, Bool.or_true, Bool.true_or, Bool.or_false, Bool.false_or, or_true, true_or, or_false, false_or, or_self, AV.asInt, AV.asBool, AV.asSl, AV.asPtr, AV.asFn, AV.asStr, AV.asMap, AV.asIfc, AV.item, List.length_cons, List.length_nil, List.getElem?_cons_zero, List.getElem?_cons_succ, Nat.zero_add, r1, AV.aggAt, e3, f0, f1, e4]
      · obtain ⟨σ3, e3, k3, R3⟩ := tk 0 0
        have f0 := row_int R3 (o := 0) rfl
        have f1 := row_int R3 (o := 1) rfl
        have Rr := R2.kp k3 R2.lt
        refine .inl ⟨q2, _, hq2, ⟨n1, fun k hk => ?_⟩, h2, σ3, rfl, m12.trans (Mv.kpl k3), ap2, Rr, S2.kp k3⟩
        have r1 := r1 k hk
        simp only at r1
        simp only [f18_L10]
        simp only [Option.bind_some, decide_eq_true_eq, decide_eq_false_iff_not, Bool.not_eq_true', Bool.not_true, Bool.not_false, Bool.false_eq_true, Bool.true_eq_false, Bool.not_eq_eq_eq_not, beq_self_eq_true, beqFT, beqTF, decide_true, decide_false, not_false_eq_true, not_true_eq_false, ne_eq, true_and, and_true, false_and, and_false, and_self, if_true, if_false, ite_true, ite_false, Bool.and_true, Bool.and_false, Bool.true_and, Bool.false_and, Bool.or_true, Bool.true_or, Bool.or_false, Bool.false_or, or_true, true_or, or_false, false_or, or_self, AV.asInt, AV.asBool, AV.asSl, AV.asPtr, AV.asFn, AV.asStr, AV.asMap, AV.asIfc, AV.item, List.length_cons, List.length_nil, List.getElem?_cons_zero, List.getElem?_cons_succ, Nat.zero_add, r1, AV.aggAt, e3, f0, f1])
    q _ ⟨h, _, rfl, Mv.kpl KP, (fun e => by have := (hrw _ e).2; omega), Store.Row.new, S.kp KP⟩
  obtain ⟨n1, e⟩ := loopF_ev e
  have f0 := row_int R (o := 0) rfl
  have f1 := row_int R (o := 1) rfl
  refine ⟨h', σ', c, m, f, Runs.intro (fn := Try.f18) (by kernel_rfl) (by kernel_rfl) ⟨n1, fun k hk => ?_⟩, mm, fin⟩
  have e := e k hk
  simp only at e
  simp only [f18_eq]
  rw [e, Option.bind_some, f18_X10_1]
  simp only [f0, f1, Option.bind_some]
end
end Go.Ab


/- The top numbers of a range. -/
namespace Go.Ab
open Go Go.Proofs Go.Ab.Wd Go.Ab.Bs Go.Ab.Sai
set_option linter.unusedVariables false
set_option linter.unusedSimpArgs false
/-- A pair is added; what else stays. -/
theorem pair_appX {σ : Store} {n : Nat} {h : Hdl} {L : List (Int × Int)} (G : Grow σ n h 2 (pairsL L)) (hp : σ.prot ≤ n) (hn : n ≤ σ.objs.length) (u v : Int) (hl : L.length < 2 ^ 40) :
    ∃ h' σ', Store.app (σ.push [.int .i64 u, .int .i64 v] 2) h 2 16 [.int .i64 u, .int .i64 v] 1 = some (h', σ') ∧ Kp n σ σ' ∧ Grow σ' n h' 2 (pairsL (L ++ [(u, v)])) ∧
      (∀ b, b < σ.objs.length → h.row ≠ some b → σ'.objs[b]? = σ.objs[b]?) ∧ (h'.row = h.row ∨ ∀ b, h'.row = some b → σ.objs.length ≤ b) := by
  have G1 := G.kp (Kp.push [.int .i64 u, .int .i64 v] 2 (Nat.le_refl _))
  have hh := pairs_len G.sl
  obtain ⟨h', σ', ea, Ka, Sa, Oa, _, fr⟩ := app_spec (xs := [.int .i64 u, .int .i64 v]) (by_ := 16) (m := 1) G1.sl G1.own (by simpa using hp) (by simp; omega) (by omega) (by simp) rfl (by omega) (by omega)
  refine ⟨h', σ', ea, (Kp.push _ _ hn).trans Ka, ⟨by rw [pairsL_append]; exact Sa, Oa⟩, fun b hb hr => ?_, ?_⟩
  · rw [fr b (fun c o e' e2 => hr (by simp [Hdl.row, e', e2])) (by simp; omega)]
    simp only [Store.push]; rw [List.getElem?_append_left hb]
  · rcases app_row ea with r | r
    · exact .inl r
    · refine .inr fun b hb => ?_
      rw [r] at hb; injection hb with hb; subst hb; simp
theorem Grow.row2 {σ : Store} {n : Nat} {h : Hdl} {es : Nat} {l : List AV} (g : Grow σ n h es l) : ∀ b, h.row = some b → n ≤ b ∧ b < σ.objs.length := fun b e => by
  cases ha : h.a with
  | none => simp [Hdl.row, ha] at e
  | some bo => obtain ⟨c, o⟩ := bo; simp [Hdl.row, ha] at e; subst e; exact g.rowLt c o ha
theorem top_run {σ : Store} {pm : Ptr} {l : List Int} {w : Nat} (M : Mat σ pm l w) (hp : σ.prot ≤ σ.objs.length) (a b k : Int) :
    ∃ ho σ', Runs Try.prog 15 [.ptr pm, .int .i64 a, .int .i64 b, .int .i64 k] σ (.slice ho) σ' ∧ Kp σ.objs.length σ σ' ∧ Grow σ' σ.objs.length ho 2 (pairsL ((rk (dis (seg l a b) 0 (2 ^ w))).take k.toNat)) := by
  obtain ⟨s, hs⟩ : ∃ s, s = seg l a b := ⟨_, rfl⟩
  have sm := M.small
  have s0 : ∀ x ∈ s, 0 ≤ x := fun x hx => (M.rng x (seg_mem (hs ▸ hx))).1
  have ssm : s.length ≤ 4194304 := by
    rw [hs]; unfold seg; rw [List.length_drop, List.length_take]; omega
  obtain ⟨h0, σ1, ⟨n1, r1⟩, K1, S1⟩ := bnew_run M hp a b
  rw [← hs] at S1 ⊢
  obtain ⟨r, e, ho, σ', rfl, KK, GG⟩ := EvI.while (f := fun kk st => stepF Try.prog (gm Try.prog kk) drawn kk Try.f15 [1, 1, 1, 0, 0] [10, 9, 3] st)
    (fun m st => ∃ ho h σ' O q, m = k.toNat - O.length ∧ st = ([.slice ho, .ptr (some (σ.objs.length, 0)), .int .i64 k], σ') ∧ Kp σ.objs.length σ σ' ∧ Grow σ' σ.objs.length ho 2 (pairsL O) ∧ Sst σ' σ.objs.length σ.objs.length pm h l s w O q ∧
      O.length ≤ k.toNat ∧ ho.row ≠ some σ.objs.length ∧ ∀ x, ho.row = some x → h.row ≠ some x)
    (fun r => ∃ ho σ', r = (AX.exit 0, [(10, .slice ho)], σ') ∧ Kp σ.objs.length σ σ' ∧ Grow σ' σ.objs.length ho 2 (pairsL ((rk (dis s 0 (2 ^ w))).take k.toNat)))
    (by
      rintro m st ⟨ho, h, σ2, O, q, rfl, rfl, K2, G2, S2, hO, nb, ap⟩
      have hl := pairs_len G2.sl
      have si := S2.ex
      have tak : O = (rk (dis s 0 (2 ^ w))).take O.length := by obtain ⟨_, _, _, _, si, _⟩ := si; exact si.take
      have osm : O.length ≤ s.length := by
        obtain ⟨_, _, _, _, si, tot, _⟩ := si
        have := sum2_nn si.opos
        omega
      have p2 : σ2.prot ≤ σ.objs.length := by rw [K2.prot]; exact hp
      have l2 := K2.len
      by_cases c : (O.length : Int) < k
      · obtain ⟨h3, σ3, cc, mm, f, ⟨n2, r2⟩, m3, cs⟩ := next_run M rfl K2 S2 p2 ssm s0
        have K3 := K2.trans (S2.kpn m3)
        have l3 := m3.len
        have G3 : Grow σ3 σ.objs.length ho 2 (pairsL O) := G2.keepX fun x hx => m3.kp x (G2.row2 x hx).2 (fun e => nb (e ▸ hx)) (ap x hx)
        obtain ⟨σ4, e4, k4, R4⟩ := take2 (σ := σ3) (u := cc) (v := mm) (by rw [m3.prot]; omega)
        have f0 := row_int R4 (o := 0) rfl
        have f1 := row_int R4 (o := 1) rfl
        have K4 : Kp σ.objs.length σ σ4 := K3.trans (k4.mono (by omega))
        have G4 := G3.kp k4
        have l4 := k4.len
        have cl : (ho.len : Int) < k := by omega
        rcases cs with ⟨rfl, eO, _⟩ | ⟨rfl, q3, S3⟩
        · refine .inr ⟨_, ⟨n2, fun kk hk => ?_⟩, ho, σ4, rfl, K4, ?_⟩
          · have r2 := r2 kk hk
            simp only at r2
            simp only [f15_L11100]
            simp only [Option.bind_some, decide_eq_true_eq, decide_eq_false_iff_not, Bool.not_eq_true', Bool.not_true, Bool.not_false, Bool.false_eq_true, Bool.true_eq_false, Bool.not_eq_eq_eq_not, beq_self_eq_true, beqFT, beqTF, decide_true, decide_false, not_false_eq_true, not_true_eq_false, ne_eq, true_and, and_true, false_and, and_false, and_self, if_true, if_false, ite_true, ite_false, Bool.and_true, Bool.and_false, Bool.true_and, Bool.false_and, Bool.or_true, Bool.true_or, Bool.or_false, Bool.false_or, or_true, true_or, or_false, false_or, or_self, AV.asInt, AV.asBool, AV.asSl, AV.asPtr, AV.asFn, AV.asStr, AV.asMap, AV.asIfc, AV.item, List.length_cons, List.length_nil, List.getElem?_cons_zero, List.getElem?_cons_succ, Nat.zero_add, cl, r2, AV.aggAt, e4]
          · rw [← eO, List.take_of_length_le (by omega)]; exact G4
        · have S4 := S3.kp k4
          have rd2 := read2 σ4 (.int .i64 cc) (.int .i64 mm) (some 1)
          obtain ⟨ho', σ5, e5, k5, G5, fr, hr⟩ := pair_appX G4 (by rw [K4.prot]; exact hp) K4.len cc mm (by omega)
          have ol : (O ++ [(cc, mm)]).length = O.length + 1 := by simp
          have rl : ∀ x, ho.row = some x → x < σ2.objs.length := fun x hx => (G2.row2 x hx).2
          have ap3 : ∀ x, ho.row = some x → h3.row ≠ some x := fun x hx e => by
            rcases m3.row with r | r
            · exact ap x hx (r ▸ e)
            · have := r x e; have := rl x hx; omega
          refine .inl ⟨k.toNat - (O ++ [(cc, mm)]).length, _, by omega, ⟨n2, fun kk hk => ?_⟩, ho', h3, σ5, O ++ [(cc, mm)], q3, rfl, rfl, K4.trans k5, G5, S4.keepS fun x hx hbr => ?_, by omega, fun e => ?_, fun x hx e => ?_⟩
          · have r2 := r2 kk hk
            simp only at r2
            simp only [f15_L11100]
            simp only [Option.bind_some, decide_eq_true_eq, decide_eq_false_iff_not, Bool.not_eq_true', Bool.not_true, Bool.not_false, Bool.false_eq_true, Bool.true_eq_false, Bool.not_eq_eq_eq_not, beq_self_eq_true, beqFT, beqTF, decide_true, decide_false, not_false_eq_true, not_true_eq_false, ne_eq, true_and, and_true, false_and, and_false, and_self, if_true, if_false, ite_true, ite_false, Bool.and_true, Bool.and_false, Bool.true_and, Bool.false_and, Bool.or_true, Bool.true_or, Bool.or_false, Bool.false_or, or_true, true_or, or_false, false_or, or_self, AV.asInt, AV.asBool, AV.asSl, AV.asPtr, AV.asFn, AV.asStr, AV.asMap, AV.asIfc, AV.item, List.length_cons, List.length_nil, List.getElem?_cons_zero, List.getElem?_cons_succ, Nat.zero_add, cl, r2, AV.aggAt, e4, f0, f1, rd2, e5]
          · refine fr x hx fun e => ?_
            rcases hbr with rfl | hbr
            · exact nb e
            · exact ap3 x e hbr
          · rcases hr with r | r
            · exact nb (r ▸ e)
            · have := r _ e; have := S2.lt; omega
          · rcases hr with r | r
            · exact ap3 x (r ▸ hx) e
            · have := r x hx; have := (S4.lt.2.2.2 x e).2; omega
      · have cl : ¬ ((ho.len : Int) < k) := by omega
        refine .inr ⟨_, Ev.of fun kk => ?_, ho, σ2, rfl, K2, ?_⟩
        · simp only [f15_L11100]
          simp only [Option.bind_some, decide_eq_true_eq, decide_eq_false_iff_not, Bool.not_eq_true', Bool.not_true, Bool.not_false, Bool.false_eq_true, Bool.true_eq_false, Bool.not_eq_eq_eq_not, beq_self_eq_true, beqFT, beqTF, decide_true, decide_false, not_false_eq_true, not_true_eq_false, ne_eq, true_and, and_true, false_and, and_false, and_self, if_true, if_false, ite_true, ite_false, Bool.and_true, Bool.and_false, Bool.true_and, Bool.false_and, Bool.or_true, Bool.true_or, Bool.or_false, Bool.false_or, or_true, true_or, or_false, false_or, or_self, AV.asInt, AV.asBool, AV.asSl, AV.asPtr, AV.asFn, AV.asStr, AV.asMap, AV.asIfc, AV.item, List.length_cons, List.length_nil, List.getElem?_cons_zero, List.getElem?_cons_succ, Nat.zero_add, cl]
        · rw [show k.toNat = O.length by omega, ← tak]; exact G2)
    k.toNat _ ⟨Hdl.nil, h0, σ1, [], _, by simp, rfl, K1, Grow.nil _ _ _, S1, by simp, by simp [Hdl.row, Hdl.nil], fun x hx => by simp [Hdl.row, Hdl.nil] at hx⟩
  obtain ⟨n2, e⟩ := loopF_ev e
  refine ⟨ho, σ', Runs.intro (fn := Try.f15) (by kernel_rfl) (by kernel_rfl) ⟨n1 + n2, fun kk hk => ?_⟩, KK, GG⟩
  have r1 := r1 kk (by omega)
  have e := e kk (by omega)
  simp only at r1 e
  simp only [f15_eq]
  simp only [Option.bind_some, r1, AV.asPtr, e]
  rw [f15_X11100_1]
end Go.Ab


/- The law BestFirsts. -/
namespace Go.Ab
open Go Go.Proofs Go.Ab.Wd Go.Ab.Bs Go.Ab.Sai
set_option linter.unusedVariables false
set_option linter.unusedSimpArgs false
theorem first18_told (σ : Store) : Runs Try.prog 9 [] σ (.bool true) σ := Runs.told (f := fun args σ => match args with | [] => some (.bool true, σ) | _ => none) (by kernel_rfl) rfl
theorem okT_okW {l : List Int} {m m1 : Int} (h : okT l m1 = true) (e : m1 = m + 1) (m0 : 0 ≤ m) (mm : m < 4194304) : okW l m = true := by
  obtain ⟨h1, h2, h3, h4⟩ := okT_iff.1 h
  exact okW_iff.2 ⟨m0, mm, h3, fun x hx => by have := h4 x hx; omega⟩
end Go.Ab


/- The law BestMoves. -/
namespace Go.Ab
open Go Go.Proofs Go.Ab.Wd Go.Ab.Bs Go.Ab.Sai
set_option linter.unusedVariables false
set_option linter.unusedSimpArgs false
theorem at_rd (L : List Int) (i : Nat) : Hp.at_ L i = rd L (i : Nat) := by unfold Hp.at_ rd; rfl
theorem seg_all (l : List Int) : seg l 0 l.length = l := by
  unfold seg segLo segHi
  rw [show (max (0 : Int) 0).toNat = 0 by omega, List.drop_zero, List.take_of_length_le (by omega)]
theorem dis_perm {a b : List Int} (p : a.Perm b) (lo n : Nat) : dis a lo n = dis b lo n := dis_congr fun v _ _ => (p.filter _).length_eq
theorem growI_stB {σ : Store} {n : Nat} {h : Hdl} {l : List Int} (g : GrowI σ n h l) (hp : σ.prot ≤ n) {i : Int} (h0 : 0 ≤ i) (h1 : i < l.length) (x : Int) :
    ∃ σ', σ.stL (h.idx i 1) [.int .i64 x] 0 = some σ' ∧ Kp n σ σ' ∧ GrowI σ' n h (l.set i.toNat x) := by
  obtain ⟨σ', e, k, g', l', f⟩ := Grow.stX g hp h0 (by simpa using h1) (v := .int .i64 x) rfl
  exact ⟨σ', e, k, by rw [intsL_set'] at g'; exact g'⟩
theorem law_BestMoves {σ : Store} {h : Hdl} {l : List Int} {tq kq : Int} (hT : σ.Ints h l) (hH : σ.Has h) (hn : l.length < 2 ^ 44) (hw : ∀ n ∈ l, IntKind.min .i64 ≤ n ∧ n ≤ IntKind.max .i64)
    (ht : IntKind.min .i64 ≤ tq ∧ tq ≤ IntKind.max .i64) (hk : IntKind.min .i64 ≤ kq ∧ kq ≤ IntKind.max .i64) (hp : σ.prot ≤ σ.objs.length) :
    ∃ σ', Runs Try.prog 4 [.slice h, .int .i64 tq, .int .i64 kq] σ (.bool true) σ' := by
  have ll := hT.ilen
  obtain ⟨k0, r0⟩ := first18_told σ
  by_cases c0 : (200 : Int) < h.len
  · refine ⟨σ, Runs.intro (fn := Try.f4) (by kernel_rfl) (by kernel_rfl) ⟨k0, fun k hk => ?_⟩⟩
    have r0 := r0 k hk
    simp only at r0
    simp only [f4_eq]
    simp only [Option.bind_some, decide_eq_true_eq, decide_eq_false_iff_not, Bool.not_eq_true', Bool.not_true, Bool.not_false, Bool.false_eq_true, Bool.true_eq_false, Bool.not_eq_eq_eq_not, beq_self_eq_true, beqFT, beqTF, decide_true, decide_false, not_false_eq_true, not_true_eq_false, ne_eq, true_and, and_true, false_and, and_false, and_self, if_true, if_false, ite_true, ite_false, Bool.and_true, Bool.and_false, Bool.true_and, Bool.false_and, Bool.or_true, Bool.true_or, Bool.or_false, Bool.false_or, or_true, true_or, or_false, false_or, or_self, AV.asInt, AV.asBool, AV.asSl, AV.asPtr, AV.asFn, AV.asStr, AV.asMap, AV.asIfc, AV.item, List.length_cons, List.length_nil, List.getElem?_cons_zero, List.getElem?_cons_succ, Nat.zero_add, r0, c0]
  obtain ⟨k1, r1⟩ := right_run (al := 301) hT (by omega)
  cases hok : okT l 301 with
  | false =>
    rw [hok] at r1
    refine ⟨σ, Runs.intro (fn := Try.f4) (by kernel_rfl) (by kernel_rfl) ⟨k0 + k1, fun k hk => ?_⟩⟩
    have r0 := r0 k (by omega)
    have r1 := r1 k (by omega)
    simp only at r0 r1
    simp only [f4_eq]
    simp only [Option.bind_some, decide_eq_true_eq, decide_eq_false_iff_not, Bool.not_eq_true', Bool.not_true, Bool.not_false, Bool.false_eq_true, Bool.true_eq_false, Bool.not_eq_eq_eq_not, beq_self_eq_true, beqFT, beqTF, decide_true, decide_false, not_false_eq_true, not_true_eq_false, ne_eq, true_and, and_true, false_and, and_false, and_self, if_true, if_false, ite_true, ite_false, Bool.and_true, Bool.and_false, Bool.true_and, Bool.false_and, Bool.or_true, Bool.true_or, Bool.or_false, Bool.false_or, or_true, true_or, or_false, false_or, or_self, AV.asInt, AV.asBool, AV.asSl, AV.asPtr, AV.asFn, AV.asStr, AV.asMap, AV.asIfc, AV.item, List.length_cons, List.length_nil, List.getElem?_cons_zero, List.getElem?_cons_succ, Nat.zero_add, r0, c0, r1]
  | true =>
  rw [hok] at r1
  by_cases cz : (h.len : Int) = 0
  · refine ⟨σ, Runs.intro (fn := Try.f4) (by kernel_rfl) (by kernel_rfl) ⟨k0 + k1, fun k hk => ?_⟩⟩
    have r0 := r0 k (by omega)
    have r1 := r1 k (by omega)
    simp only at r0 r1
    simp only [f4_eq]
    simp only [Option.bind_some, decide_eq_true_eq, decide_eq_false_iff_not, Bool.not_eq_true', Bool.not_true, Bool.not_false, Bool.false_eq_true, Bool.true_eq_false, Bool.not_eq_eq_eq_not, beq_self_eq_true, beqFT, beqTF, decide_true, decide_false, not_false_eq_true, not_true_eq_false, ne_eq, true_and, and_true, false_and, and_false, and_self, if_true, if_false, ite_true, ite_false, Bool.and_true, Bool.and_false, Bool.true_and, Bool.false_and, Bool.or_true, Bool.true_or, Bool.or_false, Bool.false_or, or_true, true_or, or_false, false_or, or_self, AV.asInt, AV.asBool, AV.asSl, AV.asPtr, AV.asFn, AV.asStr, AV.asMap, AV.asIfc, AV.item, List.length_cons, List.length_nil, List.getElem?_cons_zero, List.getElem?_cons_succ, Nat.zero_add, r0, c0, r1, cz, show ¬ (200 : Int) < 0 by omega]
  have ln : l.length ≤ 200 := by omega
  have wu : IntKind.wrap .u64 (h.len : Int) = ((l.length : Nat) : Int) := by rw [ll, wrapu64 (by omega) (by omega)]
  have wne : ¬ ((l.length : Nat) : Int) = 0 := by omega
  obtain ⟨t, ht_, htl⟩ : ∃ t : Nat, IntKind.wrap .i64 (Int.tmod (IntKind.wrap .u64 tq) ((l.length : Nat) : Int)) = (t : Int) ∧ t < l.length := by
    obtain ⟨_, k, h1, h2⟩ := umod (a := tq) (n := l.length - 1) (by omega)
    refine ⟨k, ?_, by omega⟩
    rw [← h1]; congr 2; omega
  -- the turned row
  obtain ⟨σ1, h1⟩ : ∃ s, s = σ.push ([] : List AV) 1 := ⟨_, rfl⟩
  have K1 : Kp σ.objs.length σ σ1 := by rw [h1]; exact Kp.push _ _ (Nat.le_refl _)
  have l1 : σ1.objs.length = σ.objs.length + 1 := by rw [h1]; simp
  obtain ⟨z, hz⟩ : ∃ h : Hdl, h = ⟨some (σ.objs.length, 0), 0, some 0⟩ := ⟨_, rfl⟩
  have GZ : Grow σ1 σ.objs.length z 1 [] := by
    rw [hz, h1]
    exact ⟨⟨by simp, .inl rfl⟩, ⟨fun b o e => by
      simp only [Option.some.injEq, Prod.mk.injEq] at e
      obtain ⟨rfl, rfl⟩ := e
      exact ⟨Nat.le_refl _, [], Store.Row.new, by simp, by simp⟩, by simp⟩⟩
  have T1 : σ1.Ints h l := Store.Sl.kp hT K1
  obtain ⟨h7, e7, s7, _, _⟩ := sub_spec T1 (hH.kp K1) (lo := some (t : Int)) (hi := none) (by simp) (by simp; omega) (by simp)
  simp only [Option.getD_none, Option.getD_some, Int.toNat_natCast] at s7
  rw [List.take_of_length_le (by simp; omega)] at s7
  have s7l := s7.len
  simp at s7l
  have rd7 := Store.Sl.read s7
  have hp1 : σ1.prot ≤ σ.objs.length := by rw [K1.prot]; exact hp
  have zl : z.len = 0 := by rw [hz]
  obtain ⟨hY, σ2, e8, k8, s8, o8, yl, _⟩ := app_spec (xs := (intsL l).drop t) (by_ := 8) (m := h7.len) GZ.sl GZ.own hp1 (by omega) (by omega) (by simp; omega) (by simp only [List.all_eq_true]; intro x hx; exact List.all_eq_true.1 (intsL_one l) x (List.mem_of_mem_drop hx)) (by omega) (by rw [zl]; omega)
  rw [List.nil_append] at s8
  have K2 : Kp σ.objs.length σ σ2 := K1.trans k8
  have T2 : σ2.Ints h l := Store.Sl.kp hT K2
  obtain ⟨h10, e10, s10, _, _⟩ := sub_spec T2 (hH.kp K2) (lo := none) (hi := some (t : Int)) (by simp) (by simp) (by simp; omega)
  simp only [Option.getD_none, Option.getD_some, Int.toNat_natCast] at s10
  rw [show (0 : Int).toNat = 0 from rfl, List.drop_zero] at s10
  have s10l := s10.len
  simp at s10l
  have rd10 := Store.Sl.read s10
  have l2 := k8.len
  have hp2 : σ2.prot ≤ σ.objs.length := by rw [k8.prot]; exact hp1
  obtain ⟨hX, σ3, e11, k11, s11, o11, xl, _⟩ := app_spec (xs := (intsL l).take t) (by_ := 8) (m := h10.len) s8 o8 hp2 (by omega) (by omega) (by simp; omega) (by simp only [List.all_eq_true]; intro x hx; exact List.all_eq_true.1 (intsL_one l) x (List.mem_of_mem_take hx)) (by omega) (by omega)
  have K3 : Kp σ.objs.length σ σ3 := K2.trans k11
  obtain ⟨x, hx⟩ : ∃ x, x = l.drop t ++ l.take t := ⟨_, rfl⟩
  have ex : (intsL l).drop t ++ (intsL l).take t = intsL x := by rw [hx]; simp [intsL]
  rw [ex] at s11
  have G3 : GrowI σ3 σ.objs.length hX x := ⟨s11, o11⟩
  have px : x.Perm l := by rw [hx]; exact (List.perm_append_comm).trans (by rw [List.take_append_drop])
  -- pairs are swapped
  obtain ⟨r, e, L, σ4, rfl, K4, G4, pL⟩ := EvI.while (f := fun k s => stepF Try.prog (gm Try.prog k) drawn k Try.f4 [1, 1, 1, 1, 1, 0, 1, 0] [9, 8, 2, 0] s)
    (fun m st => ∃ (i : Nat) (L : List Int) (σ4 : Store), m = 1000 - i ∧ i ≤ 400 ∧ st = ([.int .i64 (i : Nat), .slice hX, .int .i64 kq, .slice h], σ4) ∧ Kp σ.objs.length σ σ4 ∧ GrowI σ4 σ.objs.length hX L ∧ L.Perm l)
    (fun r => ∃ (L : List Int) (σ4 : Store), r = (AX.exit 0, [(8, .slice hX), (2, .int .i64 kq), (0, .slice h)], σ4) ∧ Kp σ.objs.length σ σ4 ∧ GrowI σ4 σ.objs.length hX L ∧ L.Perm l)
    (by
      rintro m st ⟨i, L, σ4, rfl, hi, rfl, K4, G4, pL⟩
      have lX := G4.ints.ilen
      have lL := pL.length_eq
      have w1 : IntKind.wrap .i64 ((i : Int) + 1) = ((i + 1 : Nat) : Int) := by rw [wrap64 (by omega) (by omega)]; omega
      have w2 : IntKind.wrap .i64 ((i : Int) + 2) = ((i + 2 : Nat) : Int) := by rw [wrap64 (by omega) (by omega)]; omega
      by_cases c : i + 1 < L.length
      · have c1 : ((i + 1 : Nat) : Int) < hX.len := by omega
        have c2 : (0 : Int) ≤ ((i + 1 : Nat) : Int) ∧ ((i + 1 : Nat) : Int) < hX.len := by omega
        have c3 : (0 : Int) ≤ (i : Int) ∧ (i : Int) < hX.len := by omega
        have rx := G4.ints.rd (i := (i : Int)) (by omega) (by omega)
        have ry := G4.ints.rd (i := ((i + 1 : Nat) : Int)) (by omega) (by omega)
        have p4 : σ4.prot ≤ σ.objs.length := by rw [K4.prot]; exact hp
        obtain ⟨σ5, e5, k5, g5⟩ := growI_stB G4 p4 (i := (i : Int)) (by omega) (by omega) (rd L ((i + 1 : Nat) : Int))
        obtain ⟨σ6, e6, k6, g6⟩ := growI_stB g5 (by rw [k5.prot]; exact p4) (i := ((i + 1 : Nat) : Int)) (by omega) (by rw [List.length_set]; omega) (rd L (i : Nat))
        rw [Int.toNat_natCast, Int.toNat_natCast] at g6
        have sw : (L.set i (rd L ((i + 1 : Nat) : Int))).set (i + 1) (rd L (i : Nat)) = Hp.swap L i (i + 1) := by unfold Hp.swap; rw [at_rd, at_rd]
        rw [sw] at g6
        refine .inl ⟨1000 - (i + 2), _, by omega, Ev.of fun k => ?_, i + 2, _, σ6, rfl, by omega, rfl, (K4.trans k5).trans k6, g6, (Hp.swap_perm (by omega) c).trans pL⟩
        simp only [f4_L11111010]
        simp only [decide_eq_true_eq, w1, if_pos c1, if_pos c2, if_pos c3, rx, ry, Option.bind_some, e5, e6, w2]
      · have c1 : ¬ ((i + 1 : Nat) : Int) < hX.len := by omega
        refine .inr ⟨_, Ev.of fun k => ?_, L, σ4, rfl, K4, G4, pL⟩
        simp only [f4_L11111010]
        simp only [decide_eq_true_eq, w1, if_neg c1])
    1000 ([.int .i64 0, .slice hX, .int .i64 kq, .slice h], σ3) ⟨0, x, σ3, rfl, by omega, rfl, K3, G3, px⟩
  obtain ⟨n4, e⟩ := loopF_ev e
  have lL := pL.length_eq
  have okl := okT_okW hok rfl (show (0 : Int) ≤ 300 by omega) (by omega)
  have okL : okW L 300 = true := by
    obtain ⟨q1, q2, q3, q4⟩ := okW_iff.1 okl
    exact okW_iff.2 ⟨q1, q2, by omega, fun y hy => q4 y (pL.mem_iff.1 hy)⟩
  have hp4 : σ4.prot ≤ σ4.objs.length := by rw [K4.prot]; have := K4.len; omega
  obtain ⟨p, w, σ5, ⟨n5, r5⟩, K5, M5, W5, _, _⟩ := waveNew_run (most := 300) (show σ4.Ints h l from Store.Sl.kp hT K4) hp4 okl
  have hp5 : σ5.prot ≤ σ5.objs.length := by rw [K5.prot]; have := K5.len; omega
  have T5 : σ5.Ints hX L := Store.Sl.kp G4.ints K5
  obtain ⟨p', w', σ6, ⟨n6, r6⟩, K6, M6, W6, _, _⟩ := waveNew_run (most := 300) T5 hp5 okL
  have ew : w' = w := IsWid.uniq W6 W5
  subst ew
  have hp6 : σ6.prot ≤ σ6.objs.length := by rw [K6.prot]; have := K6.len; omega
  obtain ⟨j, hj⟩ : ∃ j, j = IntKind.wrap .i64 (1 + IntKind.wrap .i64 (Int.tmod (IntKind.wrap .u64 kq) 200)) := ⟨_, rfl⟩
  obtain ⟨hA, σ7, ⟨n7, r7⟩, K7, G7⟩ := top_run (M5.kp K6) hp6 0 l.length j
  have hp7 : σ7.prot ≤ σ7.objs.length := by rw [K7.prot]; have := K7.len; omega
  obtain ⟨hB, σ8, ⟨n8, r8⟩, K8, G8⟩ := top_run (M6.kp K7) hp7 0 l.length j
  rw [seg_all] at G7
  rw [← lL, seg_all, dis_perm pL] at G8
  rw [← lL] at r8
  have dl : (rk (dis l 0 (2 ^ w'))).length ≤ 2 ^ 24 := by
    have p24 : 2 ^ w' ≤ 2 ^ 24 := Nat.pow_le_pow_right (by omega) M5.wid.2
    have := dis_length l 0 (2 ^ w')
    rw [(rk_perm _).length_eq]; omega
  obtain ⟨n9, r9⟩ := same13_run (G7.kp K8).sl G8.sl (by rw [List.length_take]; omega)
  refine ⟨σ8, Runs.intro (fn := Try.f4) (by kernel_rfl) (by kernel_rfl) ⟨k0 + k1 + n4 + n5 + n6 + n7 + n8 + n9, fun k hk => ?_⟩⟩
  have r0 := r0 k (by omega)
  have r1 := r1 k (by omega)
  have e := e k (by omega)
  have r5 := r5 k (by omega)
  have r6 := r6 k (by omega)
  have r7 := r7 k (by omega)
  have r8 := r8 k (by omega)
  have r9 := r9 k (by omega)
  simp only at r0 r1 e r5 r6 r7 r8 r9
  rw [lL] at r8
  have fin : contF Try.prog (gm Try.prog k) drawn k Try.f4 [1, 1, 1, 1, 1, 0, 1, 0] (AX.exit 0, [(8, .slice hX), (2, .int .i64 kq), (0, .slice h)], σ4) = some (.bool true, σ8) := by
    rw [f4_X11111010_1]
    simp only [Option.bind_some, decide_eq_true_eq, decide_eq_false_iff_not, Bool.not_eq_true', Bool.not_true, Bool.not_false, Bool.false_eq_true, Bool.true_eq_false, Bool.not_eq_eq_eq_not, beq_self_eq_true, beqFT, beqTF, decide_true, decide_false, not_false_eq_true, not_true_eq_false, ne_eq, true_and, and_true, false_and, and_false, and_self, if_true, if_false, ite_true, ite_false, Bool.and_true, Bool.and_false, Bool.true_and, Bool.false_and, Bool.or_true, Bool.true_or, Bool.or_false, Bool.false_or, or_true, true_or, or_false, false_or, or_self, AV.asInt, AV.asBool, AV.asSl, AV.asPtr, AV.asFn, AV.asStr, AV.asMap, AV.asIfc, AV.item, List.length_cons, List.length_nil, List.getElem?_cons_zero, List.getElem?_cons_succ, Nat.zero_add, r5, r6, ll, ← hj, r7, r8, r9]
  simp only [f4_eq]
  simp only [Option.bind_some, decide_eq_true_eq, decide_eq_false_iff_not, Bool.not_eq_true', Bool.not_true, Bool.not_false, Bool.false_eq_true, Bool.true_eq_false, Bool.not_eq_eq_eq_not, beq_self_eq_true, beqFT, beqTF, decide_true, decide_false, not_false_eq_true, not_true_eq_false, ne_eq, true_and, and_true, false_and, and_false, and_self, if_true, if_false, ite_true, ite_false, Bool.and_true, Bool.and_false, Bool.true_and, Bool.false_and, Bool.or_true, Bool.true_or, Bool.or_false, Bool.false_or, or_true, true_or, or_false, false_or, or_self, AV.asInt, AV.asBool, AV.asSl, AV.asPtr, AV.asFn, AV.asStr, AV.asMap, AV.asIfc, AV.item, List.length_cons, List.length_nil, List.getElem?_cons_zero, List.getElem?_cons_succ, Nat.zero_add, r0, c0, r1, cz, wu, wne, ht_, ← h1, e7, rd7, ← hz, e8, e10, rd10, e11, e, fin]
end Go.Ab


/- What is told of sorting holds: the library's contract. -/
namespace Go.Ab
open Go Go.Proofs Go.Sort
set_option linter.unusedVariables false
theorem sort_sound {P : Program} {s : Nat} {fn : Func} (hf : P.funcs[s]? = some fn) (hn : (fn.name == "runtime.NumGoroutine") = false) (hb : fn.body.isNone = false)
    (h1 : ∀ (blk off cap : Nat) (zs : List Int) (w : World), Holds (Value.int .i64) w blk off zs.toArray → blk < w.heap.size → zs.length < 4611686018427387904 →
      Calls P s #[.slice (some ⟨blk, off, none⟩) zs.length cap] w fun e w' => e = .returned (.tuple #[]) ∧ ∃ n os, w' = grow (putRow (Value.int .i64) (Sort.ahead w n) blk off (zs.mergeSort fun x y => decide (x ≤ y)).toArray) os)
    (h0 : ∀ (p : Option Addr) (cap : Nat) (w : World), Calls P s #[.slice p 0 cap] w fun e w' => e = .returned (.tuple #[]) ∧ w' = w) : SpS P (sortSp s) ∧ SpK (sortSp s) := by
  constructor
  · intro g f e args σ v σ' h
    obtain ⟨rfl, rfl⟩ := sortSp_inv e
    refine ⟨fun cargs w => callFunc_enter hf hn hb cargs w, fun μ w cargs hR hv => ?_⟩
    obtain ⟨hd, rfl, rfl, hc⟩ := sortT_inv h
    obtain ⟨c, hc1⟩ : ∃ c, cargs = #[c] := by
      have := hv.1
      simp at this
      obtain ⟨l⟩ := cargs
      match l, this with
      | [c], _ => exact ⟨c, rfl⟩
    subst hc1
    have hv1 : VR μ (.slice hd) c := hv.2 0 _ _ rfl rfl
    rcases hc with ⟨e0, rfl⟩ | ⟨b, o, cs, zs, ha, ho, hz, hp, hl, h62, hpos, rfl⟩
    · have : ∃ p cap, c = .slice p 0 cap := by
        cases hv1 with
        | slN h => exact ⟨_, _, rfl⟩
        | sl h hc hl hN => simp at e0; subst e0; exact ⟨_, _, rfl⟩
        | sl0 h => exact ⟨_, _, rfl⟩
      obtain ⟨p, cap, rfl⟩ := this
      refine (h0 p cap w).mono ?_
      rintro e w' ⟨rfl, rfl⟩
      exact ⟨μ, _, rfl, .tuple (by simp) (by simp), Ste.refl hR⟩
    · have : ∃ L cap, μ b = some L ∧ c = .slice (some ⟨L.blk, L.off + o, none⟩) hd.len cap := by
        cases hv1 with
        | slN h => cases ha
        | sl hm hc hl hN => simp at ha; obtain ⟨rfl, rfl⟩ := ha; exact ⟨_, _, hm, rfl⟩
        | sl0 h => simp at hpos
      obtain ⟨L, cap, hL, rfl⟩ := this
      have hzl : zs.length = hd.len := by
        have := congrArg List.length hz
        simp at this; omega
      obtain ⟨ce, ty, hblk, hsz⟩ := hR.rw b cs 1 L ho hL
      obtain ⟨_, hlN, hj⟩ := hR.cells b cs true 1 L ho hL
      have cellz : ∀ j, j < zs.length → w.cell? ⟨L.blk, L.off + o + j, none⟩ = some (.int .i64 (zs.getD j 0)) := fun j hj' => by
        have e1 : cs[o + j]? = some (.int .i64 (zs.getD j 0)) := by
          have := congrArg (fun l : List AV => l[j]?) hz
          simp only [List.getElem?_take, List.getElem?_drop, intsL, List.getElem?_map] at this
          rw [if_pos (by omega)] at this
          rw [this, List.getElem?_eq_getElem hj']; simp [hj']
        obtain ⟨x, hx, hvx⟩ := hj _ _ e1
        cases hvx
        rw [Nat.add_assoc]; exact hx
      have hH : Holds (Value.int .i64) w L.blk (L.off + o) zs.toArray := fun j hj' => by
        have hj' : j < zs.length := by simpa using hj'
        refine ⟨?_, by simp [World.frozen?, hblk]⟩
        rw [cellz j hj']; simp [hj']
      have hbl : L.blk < w.heap.size := hR.lt b L hL
      have := h1 L.blk (L.off + o) cap zs w hH hbl (by omega)
      rw [hzl] at this
      refine this.mono ?_
      rintro e w' ⟨rfl, n, os, rfl⟩
      rw [mergeSort_sortL]
      obtain ⟨d, hd'⟩ : ∃ d, d = sortL zs := ⟨_, rfl⟩
      rw [← hd']
      have hdl : d.length = hd.len := by rw [hd', sortL_length, hzl]
      obtain ⟨w1, hw1⟩ : ∃ w1, w1 = putRow (Value.int .i64) (Sort.ahead w n) L.blk (L.off + o) d.toArray := ⟨_, rfl⟩
      rw [← hw1]
      have s1 : w1.heap.size = w.heap.size := by rw [hw1]; simp [putRow, mapBlock, Sort.ahead]
      have far : ∀ c, c ≠ L.blk → w1.heap[c]? = w.heap[c]? := fun c hc => by
        rw [hw1]; simp [putRow, mapBlock, Sort.ahead, Array.getElem?_modify, Ne.symm hc]
      have near : w1.heap[L.blk]? = some (.cells (putCells (Value.int .i64) (L.off + o) d.toArray ce) ty (0, 0)) := by
        rw [hw1]; simp [putRow, mapBlock, Sort.ahead, Array.getElem?_modify, hblk, onCells]
      have hW : Ste μ σ w μ (σ.setO b (.cells (cs.take o ++ (intsL d ++ cs.drop (o + hd.len))) true 1)) w1 := by
        refine Ste.write hR ho hp hL s1 (by rw [hw1]; rfl) (by rw [hw1]; rfl) (by rw [hw1]; rfl) far ⟨_, _, near, by simp [putCells, hsz]⟩ ?_ ?_
        · simp only [List.length_append, List.length_take, intsL_length, List.length_drop]; omega
        · intro j v hjv
          have tk : (cs.take o).length = o := by simp; omega
          by_cases c1 : j < o
          · rw [List.getElem?_append_left (by omega), List.getElem?_take, if_pos c1] at hjv
            obtain ⟨x, hx, hvx⟩ := hj j v hjv
            refine ⟨x, ?_, hvx⟩
            simp only [World.cell?, hblk] at hx
            simp only [World.cell?, near]
            simp only [Option.isSome_none, Bool.false_eq_true, if_false] at hx ⊢
            rw [← hx]
            simp only [putCells, Array.getElem?_mapIdx]
            cases hce : ce[L.off + j]? with
            | none => rfl
            | some y => simp; omega
          · rw [List.getElem?_append_right (by omega), tk] at hjv
            by_cases c2 : j - o < hd.len
            · rw [List.getElem?_append_left (by simp; omega)] at hjv
              simp only [intsL, List.getElem?_map, Option.map_eq_some_iff] at hjv
              obtain ⟨z, hz1, rfl⟩ := hjv
              refine ⟨.int .i64 z, ?_, .int ..⟩
              simp only [World.cell?, near]
              simp only [Option.isSome_none, Bool.false_eq_true, if_false]
              simp only [putCells, Array.getElem?_mapIdx]
              have hlt : L.off + j < ce.size := by omega
              rw [Array.getElem?_eq_getElem hlt]
              simp only [Option.map_some, Option.some.injEq]
              rw [if_pos ⟨by omega, by simp; omega⟩]
              congr 1
              have e5 : L.off + j - (L.off + o) = j - o := by omega
              rw [e5]
              obtain ⟨hq, hq2⟩ := List.getElem?_eq_some_iff.1 hz1
              rw [getElem!_pos _ (j - o) (by simpa using hq)]
              simpa using hq2
            · rw [List.getElem?_append_right (by simp; omega), List.getElem?_drop] at hjv
              have e5 : o + hd.len + (j - o - (intsL d).length) = j := by simp; omega
              rw [e5] at hjv
              obtain ⟨x, hx, hvx⟩ := hj j v hjv
              refine ⟨x, ?_, hvx⟩
              simp only [World.cell?, hblk] at hx
              simp only [World.cell?, near]
              simp only [Option.isSome_none, Bool.false_eq_true, if_false] at hx ⊢
              rw [← hx]
              simp only [putCells, Array.getElem?_mapIdx]
              cases hce : ce[L.off + j]? with
              | none => rfl
              | some y => simp; omega
      have hG := Ste.same (w' := grow w1 os) hW.rel rfl rfl rfl (by simp [grow]) (fun c hc => by simp only [grow]; rw [Array.getElem?_append_left hc])
      exact ⟨μ, _, rfl, .tuple (by simp) (by simp), hW.trans hG⟩
  · intro g f e args σ v σ' h
    obtain ⟨rfl, rfl⟩ := sortSp_inv e
    obtain ⟨hd, rfl, rfl, hc⟩ := sortT_inv h
    rcases hc with ⟨e0, rfl⟩ | ⟨b, o, cs, zs, ha, ho, hz, hp, hl, h62, hpos, rfl⟩
    · exact Pre.refl _
    · exact Pre.set σ hp _
def FirstOkX (P : Program) (sp : FuncId → Option (List AV → Store → Option (AV × Store))) (g : FuncId) : Prop := ∃ fn k, P.funcs[g]? = some fn ∧ (fn.name == "runtime.NumGoroutine") = false ∧ fn.body.isNone = false ∧ okTrue (gam P drawn sp k (.fn g) [] ⟨[], 0⟩) = true
theorem tellX_sound {P : Program} (hm : P.follows .mixedOrders = true) {sp : FuncId → Option (List AV → Store → Option (AV × Store))} (h0 : SpS P sp ∧ SpK sp) {fs : List Nat} (h : ∀ g ∈ fs, FirstOkX P sp g) : SpS P (orTell sp fs) ∧ SpK (orTell sp fs) := by
  have shape : ∀ g f, tell fs g = some f → g ∈ fs ∧ ∀ args σ v σ', f args σ = some (v, σ') → args = [] ∧ v = .bool true ∧ σ' = σ := by
    intro g f e
    unfold tell at e
    split at e
    · rename_i ha
      injection e with e; subst e
      obtain ⟨x, hx, hb⟩ := List.any_eq_true.1 ha
      have : x = g := Nat.eq_of_beq_eq_true hb
      subst this
      refine ⟨hx, fun args σ v σ' h => ?_⟩
      cases args with
      | nil => simp at h; exact ⟨rfl, h.1.symm, h.2.symm⟩
      | cons => simp at h
    · cases e
  have parts : ∀ g f, orTell sp fs g = some f → sp g = some f ∨ tell fs g = some f := fun g f e => by
    unfold orTell at e
    split at e
    · rename_i f' e'
      injection e with e; subst e; exact .inl e'
    · exact .inr e
  constructor
  · intro g f e args σ v σ' hf
    rcases parts g f e with e | e
    · exact h0.1 g f e args σ v σ' hf
    obtain ⟨hg, hs⟩ := shape g f e
    obtain ⟨rfl, rfl, rfl⟩ := hs args σ v σ' hf
    obtain ⟨fn, k, k1, k2, k3, k4⟩ := h g hg
    refine ⟨fun cargs w => callFunc_enter k1 k2 k3 cargs w, fun μ w cargs hR hv => ?_⟩
    have hc : cargs.toList = [] := hv.inv_nil
    obtain ⟨σ1, hr⟩ : ∃ σ1, gam P drawn sp k (.fn g) [] ⟨[], 0⟩ = some (.bool true, σ1) := by
      cases hx : gam P drawn sp k (.fn g) [] ⟨[], 0⟩ with
      | none => rw [hx] at k4; cases k4
      | some r =>
        obtain ⟨v, s⟩ := r
        rw [hx] at k4
        cases v with
        | bool b => cases b with
          | true => exact ⟨s, rfl⟩
          | false => cases k4
        | _ => cases k4
    have hs := read_sound (P := P) hm h0.1 h0.2 k _ _ _ _ _ hr (fun _ => none) w cargs (Rel.empty w) (by rw [hc]; exact VL.nil _)
    refine hs.2.mono fun e w' ⟨μ', c, e1, e2, e3⟩ => ?_
    subst e1
    cases e2
    refine ⟨μ, _, rfl, .bool _, Ste.same hR e3.os e3.tape e3.output e3.size fun c hc => e3.pres c hc ?_⟩
    rintro ⟨b, o, L, h1, _⟩
    simp at h1
  · intro g f e args σ v σ' hf
    rcases parts g f e with e | e
    · exact h0.2 g f e args σ v σ' hf
    obtain ⟨_, hs⟩ := shape g f e
    obtain ⟨_, _, rfl⟩ := hs args σ v σ' hf
    exact Pre.refl _
end Go.Ab


/- What is told of sorting and of both firsts holds. -/
namespace Go.Ab
open Go Go.Proofs Go.Shelf
def Try.sortA_ren : Go.Shelf.Ren := ⟨fun | 5 => 60 | 8 => 66 | 7 => 67 | 19 => 68 | 20 => 47 | 10 => 69 | 11 => 70 | 12 => 71 | 13 => 72 | 14 => 73 | 15 => 74 | 16 => 75 | 17 => 76 | 18 => 77 | 30 => 78 | 31 => 79 | 32 => 80 | 33 => 81 | 34 => 82 | 35 => 83 | 40 => 84 | n => n, fun | 23 => 22 | 25 => 3 | 3 => 3 | 32 => 36 | 22 => 22 | 0 => 0 | 44 => 126 | 46 => 60 | 4 => 4 | 36 => 129 | 35 => 128 | 41 => 115 | 5 => 5 | 9 => 9 | 53 => 133 | 57 => 137 | 63 => 139 | 64 => 84 | n => n, fun | n => n⟩
theorem Try.sortA : Go.Proofs.SlLaysM.n5 Try.prog Try.sortA_ren := {
  mixed := by kernel_rfl,
  f5 := ⟨Try.f60.name, by decide, Try.func60.trans (congrArg some (by kernel_rfl))⟩,
  f7 := ⟨Try.f67.name, by decide, Try.func67.trans (congrArg some (by kernel_rfl))⟩,
  f8 := Try.func66.trans (congrArg some (by kernel_rfl)),
  f10 := ⟨Try.f69.name, by decide, Try.func69.trans (congrArg some (by kernel_rfl))⟩,
  f11 := ⟨Try.f70.name, by decide, Try.func70.trans (congrArg some (by kernel_rfl))⟩,
  f12 := ⟨Try.f71.name, by decide, Try.func71.trans (congrArg some (by kernel_rfl))⟩,
  f13 := ⟨Try.f72.name, by decide, Try.func72.trans (congrArg some (by kernel_rfl))⟩,
  f14 := ⟨Try.f73.name, by decide, Try.func73.trans (congrArg some (by kernel_rfl))⟩,
  f15 := ⟨Try.f74.name, by decide, Try.func74.trans (congrArg some (by kernel_rfl))⟩,
  f16 := ⟨Try.f75.name, by decide, Try.func75.trans (congrArg some (by kernel_rfl))⟩,
  f17 := ⟨Try.f76.name, by decide, Try.func76.trans (congrArg some (by kernel_rfl))⟩,
  f18 := ⟨Try.f77.name, by decide, Try.func77.trans (congrArg some (by kernel_rfl))⟩,
  f19 := Try.func68.trans (congrArg some (by kernel_rfl)),
  f20 := Try.func47.trans (congrArg some (by kernel_rfl)),
  f30 := ⟨Try.f78.name, by decide, Try.func78.trans (congrArg some (by kernel_rfl))⟩,
  f31 := Try.func79.trans (congrArg some (by kernel_rfl)),
  f32 := Try.func80.trans (congrArg some (by kernel_rfl)),
  f33 := ⟨Try.f81.name, by decide, Try.func81.trans (congrArg some (by kernel_rfl))⟩,
  f34 := ⟨Try.f82.name, by decide, Try.func82.trans (congrArg some (by kernel_rfl))⟩,
  f35 := ⟨Try.f83.name, by decide, Try.func83.trans (congrArg some (by kernel_rfl))⟩,
  f40 := ⟨Try.f84.name, by decide, Try.func84.trans (congrArg some (by kernel_rfl))⟩,
  t0 := Try.underlying0,
  a0 := Try.isAgg0,
  z0 := Try.sizeOf0,
  v0 := Try.zeroValue0,
  t3 := Try.underlying3,
  a3 := Try.isAgg3,
  z3 := Try.sizeOf3,
  v3 := Try.zeroValue3,
  t4 := Try.underlying4,
  a4 := Try.isAgg4,
  z4 := Try.sizeOf4,
  v4 := Try.zeroValue4,
  t5 := Try.underlying5,
  a5 := Try.isAgg5,
  z5 := Try.sizeOf5,
  v5 := Try.zeroValue5,
  t9 := Try.underlying9,
  a9 := Try.isAgg9,
  z9 := Try.sizeOf9,
  v9 := Try.zeroValue9,
  t22 := Try.underlying22,
  a22 := Try.isAgg22,
  z22 := Try.sizeOf22,
  v22 := Try.zeroValue22,
  t23 := Try.underlying22,
  a23 := Try.isAgg22,
  z23 := Try.sizeOf22,
  v23 := Try.zeroValue22,
  t25 := Try.underlying3,
  a25 := Try.isAgg3,
  z25 := Try.sizeOf3,
  v25 := Try.zeroValue3,
  t32 := Try.underlying36,
  a32 := Try.isAgg36,
  z32 := Try.sizeOf36,
  v32 := Try.zeroValue36,
  t35 := Try.underlying128,
  a35 := Try.isAgg128,
  z35 := Try.sizeOf128,
  v35 := Try.zeroValue128,
  t36 := Try.underlying129,
  a36 := Try.isAgg129,
  z36 := Try.sizeOf129,
  v36 := Try.zeroValue129,
  t41 := Try.underlying115,
  a41 := Try.isAgg115,
  z41 := Try.sizeOf115,
  v41 := Try.zeroValue115,
  t44 := Try.underlying126,
  a44 := Try.isAgg126,
  z44 := Try.sizeOf126,
  v44 := Try.zeroValue126,
  t46 := Try.underlying60,
  a46 := Try.isAgg60,
  z46 := Try.sizeOf60,
  v46 := Try.zeroValue60,
  t53 := Try.underlying133,
  a53 := Try.isAgg133,
  z53 := Try.sizeOf133,
  v53 := Try.zeroValue133,
  t57 := Try.underlying137,
  a57 := Try.isAgg137,
  z57 := Try.sizeOf137,
  v57 := Try.zeroValue137,
  t63 := Try.underlying139,
  a63 := Try.isAgg139,
  z63 := Try.sizeOf139,
  v63 := Try.zeroValue139,
  t64 := Try.underlying84,
  a64 := Try.isAgg84,
  z64 := Try.sizeOf84,
  v64 := Try.zeroValue84
}
theorem sortOk : SpS Try.prog (sortSp 60) ∧ SpK (sortSp 60) :=
  sort_sound (fn := Try.f60) (by kernel_rfl) (by kernel_rfl) (by kernel_rfl)
    (fun blk off cap zs w hH hb hl => AnyM.slices_Sort_int Try.sortA blk off cap zs w hH hb hl)
    (fun p cap w => AnyM.slices_Sort_int_none Try.sortA p cap w)
theorem toldOk (hm : Try.prog.follows .mixedOrders = true) : SpS Try.prog (Told.sp Try.prog) ∧ SpK (Told.sp Try.prog) :=
  tellX_sound hm sortOk fun g hg => by
    simp only [List.mem_cons, List.not_mem_nil, or_false] at hg
    rcases hg with rfl | rfl
    · exact ⟨Try.f9, 60, by kernel_rfl, by kernel_rfl, by kernel_rfl, by kernel_rfl⟩
    · exact ⟨Try.f20, 60, by kernel_rfl, by kernel_rfl, by kernel_rfl, by kernel_rfl⟩
end Go.Ab


/- An array of whole numbers that came in by value. -/
namespace Go.Ab
open Go
section
variable {H : Type} {enc : TypeId × Value → H} {P : Program} {w : World} {base : Nat} {spare : Nat → Bool} {held : Bool}
end
end Go.Ab

