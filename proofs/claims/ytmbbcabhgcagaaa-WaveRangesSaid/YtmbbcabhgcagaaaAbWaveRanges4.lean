/- A part of the proof of the law WaveRanges: lemmas alone; what each says stands at it. No conditions. -/
import Derived.Test.YtmbbcabhgcagaaaAbWaveRanges3
/- The reference's array. -/
namespace Go.Ab
open Go Go.Proofs Go.Ab.Wd Go.Ab.Bs Go.Ab.Sai
set_option linter.unusedVariables false
set_option linter.unusedSimpArgs false
theorem set_mid {l : List Int} {i : Nat} (h0 : 0 < i) (h : i ≤ l.length) (x : Int) : (l.take i ++ x :: l.drop i).set i (rd (l.take i ++ x :: l.drop i) ((i : Int) - 1)) = l.take (i - 1) ++ rd l ((i : Int) - 1) :: l.drop (i - 1) := by
  obtain ⟨j, rfl⟩ : ∃ j, i = j + 1 := ⟨i - 1, by omega⟩
  have e1 : rd (l.take (j + 1) ++ x :: l.drop (j + 1)) (((j + 1 : Nat) : Int) - 1) = rd l j := by
    rw [rd_append_left (by omega) (by simp; omega), show ((j + 1 : Nat) : Int) - 1 = (j : Int) by omega, rd_getElem (by simp; omega), rd_getElem (by omega)]
    simp
  rw [e1, List.set_append_right _ _ (by simp; omega), List.length_take, Nat.min_eq_left h, Nat.sub_self, List.set_cons_zero, take_rd (by omega), show ((j + 1 : Nat) : Int) - 1 = (j : Int) by omega, show j + 1 - 1 = j by omega, drop_rd (l := l) (i := j) (by omega)]
  simp
theorem set_at {l : List Int} {i : Nat} (h : i ≤ l.length) (x y : Int) : (l.take i ++ x :: l.drop i).set i y = l.take i ++ y :: l.drop i := by
  rw [List.set_append_right _ _ (by simp; omega), List.length_take, Nat.min_eq_left h, Nat.sub_self, List.set_cons_zero]
section
variable {σ0 : Store} {ht : Hdl} {t : List Int}
theorem ref9_find (hT : σ0.Ints ht t) (hn : t.length < 2 ^ 41) {σ : Store} (k0 : Kp σ0.objs.length σ0 σ) {n : Nat} {h : Hdl} {p : Nat} (hp : p < t.length) (g : GrowI σ n h (saUpto t p)) {a b : Int} :
    EvI (fun k s => stepF Try.prog (gm Try.prog k) drawn k Try.f24 [1, 1, 0, 1, 0, 0, 1, 1, 0, 0, 1, 1, 0, 0] [9, 8, 5, 4, 3, 0] s)
      ([.int .i64 a, .int .i64 b, .int .i64 0, .int .i64 p, .slice h, .slice ht], σ) (AX.exit 2, [(9, .int .i64 a), (8, .int .i64 b), (5, .int .i64 (lessN t p (saUpto t p))), (4, .int .i64 p), (3, .slice h), (0, .slice ht)], σ) := by
  have S := srt_upto t p (by omega)
  have lo : ((saUpto t p).length : Int) = p := S.len (by omega)
  have ll := g.ints.ilen
  have hT1 : σ.Ints ht t := Store.Sl.kp hT k0
  obtain ⟨r, e, q⟩ := EvI.upX (f := fun k s => stepF Try.prog (gm Try.prog k) drawn k Try.f24 [1, 1, 0, 1, 0, 0, 1, 1, 0, 0, 1, 1, 0, 0] [9, 8, 5, 4, 3, 0] s) (saUpto t p).length
    (fun i s => s = ([.int .i64 a, .int .i64 b, .int .i64 i, .int .i64 p, .slice h, .slice ht], σ) ∧ lessN t p (saUpto t p) = i + lessN t p ((saUpto t p).drop i))
    (fun r => r = (AX.exit 2, [(9, .int .i64 a), (8, .int .i64 b), (5, .int .i64 (lessN t p (saUpto t p))), (4, .int .i64 p), (3, .slice h), (0, .slice ht)], σ))
    (by
      rintro i s hi ⟨rfl, hq⟩
      have i0 : (0 : Int) ≤ i := by omega
      have i1 : (i : Int) < (saUpto t p).length := by omega
      have w : IntKind.wrap .i64 ((i : Int) + 1) = (i + 1 : Nat) := wrap64 (by omega) (by omega)
      have rx := S.rng _ (rd_mem i0 i1)
      obtain ⟨k1, r1⟩ := less_run hT1 (by omega) (a := rd (saUpto t p) i) (b := p) rx.1 (by omega) (by omega) (by omega)
      rw [drop_rd hi, lessN] at hq
      by_cases c : sl t (rd (saUpto t p) i) p
      · rw [if_pos c] at hq
        refine .inl ⟨_, ⟨k1, fun k hk => ?_⟩, rfl, by omega⟩
        have r1 := r1 k hk
        simp only [c, decide_true] at r1
        simp only [f24_L11010011001100]; simp only [Option.bind_some, decide_eq_true_eq, decide_eq_false_iff_not, Bool.not_eq_true', Bool.not_true, Bool.not_false, Bool.false_eq_true, Bool.true_eq_false, Bool.not_eq_eq_eq_not, beq_self_eq_true, beqFT, beqTF, decide_true, decide_false, not_false_eq_true, not_true_eq_false, ne_eq, true_and, and_true, false_and, and_false, and_self, if_true, if_false, ite_true, ite_false, Bool.and_true, Bool.and_false, Bool.true_and, Bool.false_and, Bool.or_true, Bool.true_or, Bool.or_false, Bool.false_or, or_true, true_or, or_false, false_or, or_self, AV.asInt, AV.asBool, AV.asSl, AV.asPtr, AV.asFn, AV.asStr, AV.asMap, AV.asIfc, AV.item, List.length_cons, List.length_nil, List.getElem?_cons_zero, List.getElem?_cons_succ, Nat.zero_add, ll, i0, i1, g.ints.rd i0 i1, r1, w]
      · rw [if_neg c] at hq
        refine .inr ⟨_, ⟨k1, fun k hk => ?_⟩, rfl⟩
        have r1 := r1 k hk
        simp only [c, decide_false] at r1
        simp only [f24_L11010011001100]; simp only [Option.bind_some, decide_eq_true_eq, decide_eq_false_iff_not, Bool.not_eq_true', Bool.not_true, Bool.not_false, Bool.false_eq_true, Bool.true_eq_false, Bool.not_eq_eq_eq_not, beq_self_eq_true, beqFT, beqTF, decide_true, decide_false, not_false_eq_true, not_true_eq_false, ne_eq, true_and, and_true, false_and, and_false, and_self, if_true, if_false, ite_true, ite_false, Bool.and_true, Bool.and_false, Bool.true_and, Bool.false_and, Bool.or_true, Bool.true_or, Bool.or_false, Bool.false_or, or_true, true_or, or_false, false_or, or_self, AV.asInt, AV.asBool, AV.asSl, AV.asPtr, AV.asFn, AV.asStr, AV.asMap, AV.asIfc, AV.item, List.length_cons, List.length_nil, List.getElem?_cons_zero, List.getElem?_cons_succ, Nat.zero_add, ll, i0, i1, g.ints.rd i0 i1, r1, hq, Nat.add_zero])
    (by
      rintro s ⟨rfl, hq⟩
      rw [List.drop_length, lessN, Nat.add_zero] at hq
      refine ⟨_, Ev.of fun k => by simp only [f24_L11010011001100]; simp only [Option.bind_some, decide_eq_true_eq, decide_eq_false_iff_not, Bool.not_eq_true', Bool.not_true, Bool.not_false, Bool.false_eq_true, Bool.true_eq_false, Bool.not_eq_eq_eq_not, beq_self_eq_true, beqFT, beqTF, decide_true, decide_false, not_false_eq_true, not_true_eq_false, ne_eq, true_and, and_true, false_and, and_false, and_self, if_true, if_false, ite_true, ite_false, Bool.and_true, Bool.and_false, Bool.true_and, Bool.false_and, Bool.or_true, Bool.true_or, Bool.or_false, Bool.false_or, or_true, true_or, or_false, false_or, or_self, AV.asInt, AV.asBool, AV.asSl, AV.asPtr, AV.asFn, AV.asStr, AV.asMap, AV.asIfc, AV.item, List.length_cons, List.length_nil, List.getElem?_cons_zero, List.getElem?_cons_succ, Nat.zero_add, ll, Int.lt_irrefl, hq], rfl⟩)
    (Nat.zero_le _) (s := ([.int .i64 a, .int .i64 b, .int .i64 0, .int .i64 p, .slice h, .slice ht], σ)) ⟨rfl, by simp⟩
  subst q; exact e
theorem ref9_shift {σ : Store} {n : Nat} {h : Hdl} {o : List Int} {at_ : Nat} {a b p : Int} (hpr : σ.prot ≤ n) (ho : o.length < 2 ^ 41) (ha : at_ ≤ o.length) (m : Nat) : ∀ (σ1 : Store) (x : Int), at_ + m ≤ o.length → Kp n σ σ1 → GrowI σ1 n h (o.take (at_ + m) ++ x :: o.drop (at_ + m)) →
    ∃ σ2 y, EvI (fun k s => stepF Try.prog (gm Try.prog k) drawn k Try.f24 [1, 1, 0, 1, 0, 0, 1, 1, 0, 0, 1, 1, 1, 1, 0, 1, 0] [9, 8, 6, 5, 4, 3, 0] s)
      ([.int .i64 a, .int .i64 b, .int .i64 (at_ + m : Nat), .int .i64 at_, .int .i64 p, .slice h, .slice ht], σ1) (AX.exit 4, [(9, .int .i64 a), (8, .int .i64 b), (5, .int .i64 at_), (4, .int .i64 p), (3, .slice h), (0, .slice ht)], σ2) ∧
      Kp n σ σ2 ∧ GrowI σ2 n h (o.take at_ ++ y :: o.drop at_) := by
  induction m with
  | zero =>
    intro σ1 x hm k1 g
    exact ⟨σ1, x, EvI.done (Ev.of fun k => by simp only [f24_L11010011001111010]; simp only [Option.bind_some, decide_eq_true_eq, decide_eq_false_iff_not, Bool.not_eq_true', Bool.not_true, Bool.not_false, Bool.false_eq_true, Bool.true_eq_false, Bool.not_eq_eq_eq_not, beq_self_eq_true, beqFT, beqTF, decide_true, decide_false, not_false_eq_true, not_true_eq_false, ne_eq, true_and, and_true, false_and, and_false, and_self, if_true, if_false, ite_true, ite_false, Bool.and_true, Bool.and_false, Bool.true_and, Bool.false_and, Bool.or_true, Bool.true_or, Bool.or_false, Bool.false_or, or_true, true_or, or_false, false_or, or_self, AV.asInt, AV.asBool, AV.asSl, AV.asPtr, AV.asFn, AV.asStr, AV.asMap, AV.asIfc, AV.item, List.length_cons, List.length_nil, List.getElem?_cons_zero, List.getElem?_cons_succ, Nat.zero_add, Nat.add_zero, Int.lt_irrefl]), k1, g⟩
  | succ m ih =>
    intro σ1 x hm k1 g
    have ll := g.ints.ilen
    have lL : (o.take (at_ + (m + 1)) ++ x :: o.drop (at_ + (m + 1))).length = o.length + 1 := by simp; omega
    have w : IntKind.wrap .i64 (((at_ + (m + 1) : Nat) : Int) - 1) = ((at_ + m : Nat) : Int) := by rw [wrap64 (by omega) (by omega)]; omega
    have c1 : (at_ : Int) < (at_ + (m + 1) : Nat) := by omega
    have c2 : (0 : Int) ≤ (at_ + m : Nat) := by omega
    have c3 : ((at_ + m : Nat) : Int) < h.len := by omega
    have c4 : (0 : Int) ≤ (at_ + (m + 1) : Nat) := by omega
    have c5 : ((at_ + (m + 1) : Nat) : Int) < h.len := by omega
    have r1 := g.ints.rd c2 (by omega)
    obtain ⟨σ2, e2, k2, g2, _⟩ := growN_st (k := .i64) g (by rw [k1.prot]; exact hpr) c4 (by omega) (rd (o.take (at_ + (m + 1)) ++ x :: o.drop (at_ + (m + 1))) ((at_ + m : Nat) : Int))
    have sm := set_mid (l := o) (i := at_ + (m + 1)) (by omega) hm x
    rw [show ((at_ + (m + 1) : Nat) : Int) - 1 = ((at_ + m : Nat) : Int) by omega, show at_ + (m + 1) - 1 = at_ + m by omega] at sm
    rw [show ((at_ + (m + 1) : Nat) : Int).toNat = at_ + (m + 1) by omega, sm] at g2
    obtain ⟨σ3, y, e3, k3, g3⟩ := ih σ2 _ (by omega) (k1.trans k2) g2
    exact ⟨σ3, y, EvI.step (Ev.of fun k => by simp only [f24_L11010011001111010]; simp only [Option.bind_some, decide_eq_true_eq, decide_eq_false_iff_not, Bool.not_eq_true', Bool.not_true, Bool.not_false, Bool.false_eq_true, Bool.true_eq_false, Bool.not_eq_eq_eq_not, beq_self_eq_true, beqFT, beqTF, decide_true, decide_false, not_false_eq_true, not_true_eq_false, ne_eq, true_and, and_true, false_and, and_false, and_self, if_true, if_false, ite_true, ite_false, Bool.and_true, Bool.and_false, Bool.true_and, Bool.false_and, Bool.or_true, Bool.true_or, Bool.or_false, Bool.false_or, or_true, true_or, or_false, false_or, or_self, AV.asInt, AV.asBool, AV.asSl, AV.asPtr, AV.asFn, AV.asStr, AV.asMap, AV.asIfc, AV.item, List.length_cons, List.length_nil, List.getElem?_cons_zero, List.getElem?_cons_succ, Nat.zero_add, c1, w, c2, c3, c4, c5, r1, e2]) e3, k3, g3⟩
theorem ref9_array (hT : σ0.Ints ht t) (hn : t.length < 2 ^ 41) (hpr : σ0.prot ≤ σ0.objs.length) :
    ∃ ho σ', Runs Try.prog 24 [.slice ht] σ0 (.slice ho) σ' ∧ Kp σ0.objs.length σ0 σ' ∧ GrowI σ' σ0.objs.length ho (saOf t) := by
  have lt := hT.ilen
  obtain ⟨r, e, ho, σ', rfl, k', g'⟩ := EvI.up (f := fun k s => stepF Try.prog (gm Try.prog k) drawn k Try.f24 [1, 1, 0, 1, 0] [9, 8, 3, 0] s) t.length
    (fun i s => ∃ h σ1, s = ([.int .i64 i, .int .i64 t.length, .slice h, .slice ht], σ1) ∧ Kp σ0.objs.length σ0 σ1 ∧ GrowI σ1 σ0.objs.length h (saUpto t i))
    (fun r => ∃ h σ1, r = (AX.exit 0, [(3, .slice h)], σ1) ∧ Kp σ0.objs.length σ0 σ1 ∧ GrowI σ1 σ0.objs.length h (saOf t))
    (by
      rintro i s hi ⟨h, σ1, rfl, k1, g⟩
      have i1 : (i : Int) < t.length := by omega
      have S := srt_upto t i (by omega)
      have lo : ((saUpto t i).length : Int) = i := S.len (by omega)
      have lN := (lessN_spec t i _ S.ord).1
      have w : IntKind.wrap .i64 ((i : Int) + 1) = (i + 1 : Nat) := wrap64 (by omega) (by omega)
      obtain ⟨n1, e1⟩ := loopF_ev (ref9_find (a := i) (b := t.length) hT hn k1 hi g)
      obtain ⟨h2, σ2, e2, k2, g2⟩ := g.app (by rw [k1.prot]; exact hpr) k1.len 0 (by omega)
      have l2 := g2.ints.ilen
      have g2' : GrowI σ2 σ0.objs.length h2 ((saUpto t i).take (lessN t i (saUpto t i) + ((saUpto t i).length - lessN t i (saUpto t i))) ++ 0 :: (saUpto t i).drop (lessN t i (saUpto t i) + ((saUpto t i).length - lessN t i (saUpto t i)))) := by
        rw [show lessN t i (saUpto t i) + ((saUpto t i).length - lessN t i (saUpto t i)) = (saUpto t i).length by omega, List.take_length, List.drop_length]; exact g2
      obtain ⟨σ3, y, e3, k3, g3⟩ := ref9_shift (σ := σ2) (ht := ht) (a := i) (b := t.length) (p := i) (at_ := lessN t i (saUpto t i)) (by rw [k2.prot, k1.prot]; exact hpr) (by omega) lN _ σ2 0 (by omega) (Kp.refl _ _) g2'
      obtain ⟨n3, e3⟩ := loopF_ev e3
      have l3 := g3.ints.ilen
      obtain ⟨σ4, e4, k4, g4, _⟩ := growN_st (k := .i64) g3 (by rw [k3.prot, k2.prot, k1.prot]; exact hpr) (i := (lessN t i (saUpto t i) : Int)) (by omega) (by simp; omega) (i : Int)
      rw [show (((lessN t i (saUpto t i) : Nat) : Int)).toNat = lessN t i (saUpto t i) by omega, set_at lN] at g4
      refine ⟨_, ⟨n1 + n3, fun k hk => ?_⟩, h2, σ4, rfl, (k1.trans k2).trans (k3.trans k4), g4⟩
      have e1 := e1 k (by omega)
      have e3 := e3 k (by omega)
      simp only at e1 e3
      simp only [f24_L11010]
      simp only [Option.bind_some, decide_eq_true_eq, decide_eq_false_iff_not, Bool.not_eq_true', Bool.not_true, Bool.not_false, Bool.false_eq_true, Bool.true_eq_false, Bool.not_eq_eq_eq_not, beq_self_eq_true, beqFT, beqTF, decide_true, decide_false, not_false_eq_true, not_true_eq_false, ne_eq, true_and, and_true, false_and, and_false, and_self, if_true, if_false, ite_true, ite_false, Bool.and_true, Bool.and_false, Bool.true_and, Bool.false_and, Bool.or_true, Bool.true_or, Bool.or_false, Bool.false_or, or_true, true_or, or_false, false_or, or_self, AV.asInt, AV.asBool, AV.asSl, AV.asPtr, AV.asFn, AV.asStr, AV.asMap, AV.asIfc, AV.item, List.length_cons, List.length_nil, List.getElem?_cons_zero, List.getElem?_cons_succ, Nat.zero_add, i1, e1]
      rw [f24_X11010011001100_1]
      have w2 : IntKind.wrap .i64 (((h2.len : Nat) : Int) - 1) = ((lessN t i (saUpto t i) + ((saUpto t i).length - lessN t i (saUpto t i)) : Nat) : Int) := by
        rw [wrap64 (by simp at l2; omega) (by simp at l2; omega)]; simp at l2; omega
      simp only [Option.bind_some, decide_eq_true_eq, decide_eq_false_iff_not, Bool.not_eq_true', Bool.not_true, Bool.not_false, Bool.false_eq_true, Bool.true_eq_false, Bool.not_eq_eq_eq_not, beq_self_eq_true, beqFT, beqTF, decide_true, decide_false, not_false_eq_true, not_true_eq_false, ne_eq, true_and, and_true, false_and, and_false, and_self, if_true, if_false, ite_true, ite_false, Bool.and_true, Bool.and_false, Bool.true_and, Bool.false_and, Bool.or_true, Bool.true_or, Bool.or_false, Bool.false_or, or_true, true_or, or_false, false_or, or_self, AV.asInt, AV.asBool, AV.asSl, AV.asPtr, AV.asFn, AV.asStr, AV.asMap, AV.asIfc, AV.item, List.length_cons, List.length_nil, List.getElem?_cons_zero, List.getElem?_cons_succ, Nat.zero_add, read1, e2, w2, e3]
      rw [f24_X11010011001111010_1]
      have c1 : (0 : Int) ≤ lessN t i (saUpto t i) := by omega
      have c2 : ((lessN t i (saUpto t i) : Nat) : Int) < h2.len := by simp at l2; omega
      simp only [Option.bind_some, decide_eq_true_eq, decide_eq_false_iff_not, Bool.not_eq_true', Bool.not_true, Bool.not_false, Bool.false_eq_true, Bool.true_eq_false, Bool.not_eq_eq_eq_not, beq_self_eq_true, beqFT, beqTF, decide_true, decide_false, not_false_eq_true, not_true_eq_false, ne_eq, true_and, and_true, false_and, and_false, and_self, if_true, if_false, ite_true, ite_false, Bool.and_true, Bool.and_false, Bool.true_and, Bool.false_and, Bool.or_true, Bool.true_or, Bool.or_false, Bool.false_or, or_true, true_or, or_false, false_or, or_self, AV.asInt, AV.asBool, AV.asSl, AV.asPtr, AV.asFn, AV.asStr, AV.asMap, AV.asIfc, AV.item, List.length_cons, List.length_nil, List.getElem?_cons_zero, List.getElem?_cons_succ, Nat.zero_add, c1, c2, e4, w])
    (by
      rintro s ⟨h, σ1, rfl, k1, g⟩
      exact ⟨_, Ev.of fun k => by simp only [f24_L11010]; simp only [Option.bind_some, decide_eq_true_eq, decide_eq_false_iff_not, Bool.not_eq_true', Bool.not_true, Bool.not_false, Bool.false_eq_true, Bool.true_eq_false, Bool.not_eq_eq_eq_not, beq_self_eq_true, beqFT, beqTF, decide_true, decide_false, not_false_eq_true, not_true_eq_false, ne_eq, true_and, and_true, false_and, and_false, and_self, if_true, if_false, ite_true, ite_false, Bool.and_true, Bool.and_false, Bool.true_and, Bool.false_and, Bool.or_true, Bool.true_or, Bool.or_false, Bool.false_or, or_true, true_or, or_false, false_or, or_self, AV.asInt, AV.asBool, AV.asSl, AV.asPtr, AV.asFn, AV.asStr, AV.asMap, AV.asIfc, AV.item, List.length_cons, List.length_nil, List.getElem?_cons_zero, List.getElem?_cons_succ, Nat.zero_add, Int.lt_irrefl], h, σ1, rfl, k1, g⟩)
    (s := ([.int .i64 0, .int .i64 t.length, .slice Hdl.nil, .slice ht], σ0)) ⟨Hdl.nil, σ0, rfl, Kp.refl _ _, Grow.nil _ _ _⟩
  refine ⟨ho, σ', Runs.intro (fn := Try.f24) (by kernel_rfl) (by kernel_rfl) ?_, k', g'⟩
  exact (Ev.bind (loopF_ev e) (Ev.of fun k => f24_X11010_1 (gm Try.prog k) k σ' ho)).congr fun k => by rw [f24_eq, lt]
end
end Go.Ab

/- Turn; the reference's. -/
namespace Go.Ab
open Go Go.Proofs Go.Ab.Wd Go.Ab.Bs Go.Ab.Sai
set_option linter.unusedVariables false
set_option linter.unusedSimpArgs false
/-- Is a list a list of places, each once? -/
def permB (l : List Int) : Bool := (l.all fun x => decide (0 ≤ x) && decide (x < l.length)) && decide l.Nodup
theorem permB_iff {l : List Int} : permB l = true ↔ IsPerm l.length l := by
  simp only [permB, Bool.and_eq_true, List.all_eq_true, decide_eq_true_eq]
  exact ⟨fun ⟨h1, h2⟩ => ⟨rfl, h1, h2⟩, fun h => ⟨h.rng, h.nd⟩⟩
/-- The first i of l are marked. -/
structure Marks (f : Int → Int) (d : Int) (l : List Int) (i : Nat) (o : List Int) : Prop where
  len : o.length = l.length
  rng : ∀ p ∈ l.take i, 0 ≤ p ∧ p < l.length
  nd : (l.take i).Nodup
  val : ∀ p : Int, 0 ≤ p → p < l.length → rd o p = if p ∈ l.take i then f p else d
theorem Marks.start (f : Int → Int) (d : Int) (l : List Int) : Marks f d l 0 (List.replicate l.length d) :=
  ⟨by simp, by simp, by simp, fun p p0 p1 => by
    obtain ⟨p, rfl⟩ := Int.eq_ofNat_of_zero_le p0
    rw [rd_getElem (by simp; omega)]; simp⟩
theorem Marks.step {f : Int → Int} {d : Int} {l : List Int} {i : Nat} {o : List Int} (m : Marks f d l i o) (hi : i < l.length) (h0 : 0 ≤ rd l i) (h1 : rd l i < l.length) (hn : rd l i ∉ l.take i) : Marks f d l (i + 1) (o.set (rd l i).toNat (f (rd l i))) := by
  refine ⟨by simp [m.len], fun p hp => ?_, ?_, fun p p0 p1 => ?_⟩
  · rw [take_rd hi] at hp
    rcases List.mem_append.1 hp with hp | hp
    · exact m.rng p hp
    · rw [List.mem_singleton] at hp; rw [hp]; exact ⟨h0, h1⟩
  · rw [take_rd hi]
    exact List.nodup_append.2 ⟨m.nd, by simp, fun a ha b hb e => by rw [List.mem_singleton] at hb; subst hb; exact hn (e ▸ ha)⟩
  · rw [rd_set h0 (by rw [m.len]; exact h1) p0, take_rd hi, m.val p p0 p1]
    by_cases e : rd l i = p
    · rw [if_pos e, if_pos (by simp [e]), e]
    · rw [if_neg e]
      by_cases c : p ∈ l.take i
      · rw [if_pos c, if_pos (by simp [c])]
      · rw [if_neg c, if_neg (by simp [c]; exact fun h => e h.symm)]
def idx0 (l : List Int) (p : Int) : Int := (l.idxOf p : Nat)
theorem idx0_at {l : List Int} {i : Nat} (hi : i < l.length) (hn : rd l i ∉ l.take i) : idx0 l (rd l i) = i := by
  unfold idx0
  have e : l = l.take i ++ rd l i :: l.drop (i + 1) := by rw [← drop_rd hi, List.take_append_drop]
  have : ∀ x, (l.take i ++ rd l i :: l.drop (i + 1)).idxOf (rd l i) = x → l.idxOf (rd l i) = x := fun x h => by rwa [← e] at h
  rw [this i (by rw [List.idxOf_append, if_neg hn]; simp; omega)]
theorem Marks.end_ {l o : List Int} {d : Int} (m : Marks (idx0 l) d l l.length o) : IsPerm l.length l ∧ o = inv l := by
  have hp : IsPerm l.length l := ⟨rfl, fun p hp => m.rng p (by rwa [List.take_length]), by have := m.nd; rwa [List.take_length] at this⟩
  refine ⟨hp, Bs.ext_rd (by rw [m.len, inv_length]) fun p p0 p1 => ?_⟩
  rw [m.len] at p1
  rw [m.val p p0 p1, List.take_length, if_pos (hp.mem p0 p1), rd_inv p0 p1]; rfl
theorem not_perm {l : List Int} {i : Nat} (hi : i < l.length) (h : ¬ (0 ≤ rd l i ∧ rd l i < l.length) ∨ rd l i ∈ l.take i) : permB l = false := by
  rw [Bool.eq_false_iff]
  intro hb
  have hp := permB_iff.1 hb
  rcases h with h | h
  · exact h (hp.rng _ (rd_mem (by omega) (by omega)))
  · have hnd := hp.nd
    rw [show l = l.take i ++ rd l i :: l.drop (i + 1) by rw [← drop_rd hi, List.take_append_drop]] at hnd
    exact (List.nodup_append.1 hnd).2.2 _ h _ (List.mem_cons_self ..) rfl
theorem turn_run {σ : Store} {h : Hdl} {l : List Int} (hT : σ.Ints h l) (hp : σ.prot ≤ σ.objs.length) (hn : l.length ≤ 2 ^ 44) :
    ∃ ho σ', Runs Try.prog 45 [.slice h] σ (.tuple [.slice ho, .int .i64 (if permB l = true then 0 else 2)]) σ' ∧ Kp σ.objs.length σ σ' ∧ σ'.Ints ho (if permB l = true then inv l else []) ∧ σ'.Has ho := by
  have ll := hT.ilen
  obtain ⟨N, hN⟩ : ∃ N, N = σ.objs.length := ⟨_, rfl⟩
  obtain ⟨σ1, h1⟩ : ∃ x, x = σ.push (intsL (List.replicate l.length 0)) 1 := ⟨_, rfl⟩
  have k1 : Kp σ.objs.length σ σ1 := by rw [h1]; exact Kp.push _ _ (Nat.le_refl _)
  have r1 : σ1.Row N 1 (intsL (List.replicate l.length 0)) := by rw [h1, hN]; exact Store.Row.new
  -- all are -1
  obtain ⟨ra, ea, σ2, rfl, k2, r2⟩ := EvI.up (f := fun k s => stepF Try.prog (gm Try.prog k) drawn k Try.f45 [1, 1, 0, 1, 0] [13, 12, 4, 0] s) l.length
    (fun i s => ∃ o s1, s = ([.int .i64 i, .int .i64 l.length, .slice (hdS N l.length), .slice h], s1) ∧ Kp σ.objs.length σ s1 ∧ s1.Row N 1 (intsL o) ∧ o.length = l.length ∧ ∀ p : Int, 0 ≤ p → p < i → rd o p = -1)
    (fun r => ∃ s1, r = (AX.exit 0, [(4, .slice (hdS N l.length)), (0, .slice h)], s1) ∧ Kp σ.objs.length σ s1 ∧ s1.Row N 1 (intsL (List.replicate l.length (-1))))
    (by
      rintro i s hi ⟨o, s1, rfl, kk, rr, lo, ho⟩
      have i0 : (0 : Int) ≤ i := by omega
      have i1 : (i : Int) < l.length := by omega
      have w := wsucc hi (by omega)
      have st := st_ints (x := -1) (len := l.length) (cp := some l.length) rr (by rw [kk.prot]; omega) i0 (by omega)
      refine ⟨_, Ev.of fun k => by simp only [f45_L11010]; simp only [Option.bind_some, decide_eq_true_eq, decide_eq_false_iff_not, Bool.not_eq_true', Bool.not_true, Bool.not_false, Bool.false_eq_true, Bool.true_eq_false, Bool.not_eq_eq_eq_not, beq_self_eq_true, beqFT, beqTF, decide_true, decide_false, not_false_eq_true, not_true_eq_false, ne_eq, true_and, and_true, false_and, and_false, and_self, if_true, if_false, ite_true, ite_false, Bool.and_true, Bool.and_false, Bool.true_and, Bool.false_and, Bool.or_true, Bool.true_or, Bool.or_false, Bool.false_or, or_true, true_or, or_false, false_or, or_self, AV.asInt, AV.asBool, AV.asSl, AV.asPtr, AV.asFn, AV.asStr, AV.asMap, AV.asIfc, AV.item, List.length_cons, List.length_nil, List.getElem?_cons_zero, List.getElem?_cons_succ, Nat.zero_add, i0, i1, st, w], o.set (i : Int).toNat (-1), _, rfl, kk.setO (by omega), Store.Row.setO_eq rr.lt, by simpa using lo, fun p p0 p1 => ?_⟩
      rw [rd_set i0 (by omega) p0]
      split
      · rfl
      · exact ho p p0 (by omega))
    (by
      rintro s ⟨o, s1, rfl, kk, rr, lo, ho⟩
      have : o = List.replicate l.length (-1) := Bs.ext_rd (by simp [lo]) fun p p0 p1 => by
        rw [ho p p0 (by omega)]
        obtain ⟨p, rfl⟩ := Int.eq_ofNat_of_zero_le p0
        rw [rd_getElem (by simp; omega)]; simp
      subst this
      exact ⟨_, Ev.of fun k => by simp only [f45_L11010]; simp only [Option.bind_some, decide_eq_true_eq, decide_eq_false_iff_not, Bool.not_eq_true', Bool.not_true, Bool.not_false, Bool.false_eq_true, Bool.true_eq_false, Bool.not_eq_eq_eq_not, beq_self_eq_true, beqFT, beqTF, decide_true, decide_false, not_false_eq_true, not_true_eq_false, ne_eq, true_and, and_true, false_and, and_false, and_self, if_true, if_false, ite_true, ite_false, Bool.and_true, Bool.and_false, Bool.true_and, Bool.false_and, Bool.or_true, Bool.true_or, Bool.or_false, Bool.false_or, or_true, true_or, or_false, false_or, or_self, AV.asInt, AV.asBool, AV.asSl, AV.asPtr, AV.asFn, AV.asStr, AV.asMap, AV.asIfc, AV.item, List.length_cons, List.length_nil, List.getElem?_cons_zero, List.getElem?_cons_succ, Nat.zero_add, Int.lt_irrefl], s1, rfl, kk, rr⟩)
    (s := ([.int .i64 0, .int .i64 l.length, .slice (hdS N l.length), .slice h], σ1)) ⟨_, σ1, rfl, k1, r1, by simp, fun p p0 p1 => by omega⟩
  -- each place's place
  have hT2 : σ2.Ints h l := Store.Sl.kp hT k2
  obtain ⟨rb, eb, q⟩ := EvI.upX (f := fun k s => stepF Try.prog (gm Try.prog k) drawn k Try.f45 [1, 1, 1, 0, 1, 0] [22, 21, 20, 4, 0] s) l.length
    (fun i s => ∃ o s1, s = ([.int .i64 i, .int .i64 l.length, .slice h, .slice (hdS N l.length), .slice h], s1) ∧ Kp σ.objs.length σ s1 ∧ s1.Row N 1 (intsL o) ∧ Marks (idx0 l) (-1) l i o)
    (fun r => ∃ s1, Kp σ.objs.length σ s1 ∧ ((r = (AX.ret, [(3, .int .i64 2), (2, .slice Hdl.nil)], s1) ∧ permB l = false) ∨ (r = (AX.exit 2, [(4, .slice (hdS N l.length))], s1) ∧ permB l = true ∧ s1.Row N 1 (intsL (inv l)))))
    (by
      rintro i s hi ⟨o, s1, rfl, kk, rr, m⟩
      have i0 : (0 : Int) ≤ i := by omega
      have i1 : (i : Int) < l.length := by omega
      have w := wsucc hi (by omega)
      have hr := (Store.Ints.rd (Store.Sl.kp hT kk) i0 i1 : s1.ldInt .i64 (h.idx i 1) = _)
      by_cases c1 : rd l i < 0
      · exact .inr ⟨(AX.ret, [(3, .int .i64 2), (2, .slice Hdl.nil)], s1), Ev.of fun k => by simp only [f45_L111010]; simp only [Option.bind_some, decide_eq_true_eq, decide_eq_false_iff_not, Bool.not_eq_true', Bool.not_true, Bool.not_false, Bool.false_eq_true, Bool.true_eq_false, Bool.not_eq_eq_eq_not, beq_self_eq_true, beqFT, beqTF, decide_true, decide_false, not_false_eq_true, not_true_eq_false, ne_eq, true_and, and_true, false_and, and_false, and_self, if_true, if_false, ite_true, ite_false, Bool.and_true, Bool.and_false, Bool.true_and, Bool.false_and, Bool.or_true, Bool.true_or, Bool.or_false, Bool.false_or, or_true, true_or, or_false, false_or, or_self, AV.asInt, AV.asBool, AV.asSl, AV.asPtr, AV.asFn, AV.asStr, AV.asMap, AV.asIfc, AV.item, List.length_cons, List.length_nil, List.getElem?_cons_zero, List.getElem?_cons_succ, Nat.zero_add, ll, i0, i1, hr, c1], s1, kk, .inl ⟨rfl, not_perm hi (.inl (by omega))⟩⟩
      by_cases c2 : (l.length : Int) ≤ rd l i
      · exact .inr ⟨(AX.ret, [(3, .int .i64 2), (2, .slice Hdl.nil)], s1), Ev.of fun k => by simp only [f45_L111010]; simp only [Option.bind_some, decide_eq_true_eq, decide_eq_false_iff_not, Bool.not_eq_true', Bool.not_true, Bool.not_false, Bool.false_eq_true, Bool.true_eq_false, Bool.not_eq_eq_eq_not, beq_self_eq_true, beqFT, beqTF, decide_true, decide_false, not_false_eq_true, not_true_eq_false, ne_eq, true_and, and_true, false_and, and_false, and_self, if_true, if_false, ite_true, ite_false, Bool.and_true, Bool.and_false, Bool.true_and, Bool.false_and, Bool.or_true, Bool.true_or, Bool.or_false, Bool.false_or, or_true, true_or, or_false, false_or, or_self, AV.asInt, AV.asBool, AV.asSl, AV.asPtr, AV.asFn, AV.asStr, AV.asMap, AV.asIfc, AV.item, List.length_cons, List.length_nil, List.getElem?_cons_zero, List.getElem?_cons_succ, Nat.zero_add, ll, i0, i1, hr, c1, c2], s1, kk, .inl ⟨rfl, not_perm hi (.inl (by omega))⟩⟩
      have c3 : 0 ≤ rd l i := by omega
      have c4 : rd l i < l.length := by omega
      have ro := rr.ld_ints (len := l.length) (cp := some l.length) c3 (by rw [m.len]; exact c4)
      have mo := m.val _ c3 c4
      by_cases c5 : rd l i ∈ l.take i
      · rw [if_pos c5] at mo
        have c6 : 0 ≤ rd o (rd l i) := by rw [mo]; unfold idx0; omega
        exact .inr ⟨(AX.ret, [(3, .int .i64 2), (2, .slice Hdl.nil)], s1), Ev.of fun k => by simp only [f45_L111010]; simp only [Option.bind_some, decide_eq_true_eq, decide_eq_false_iff_not, Bool.not_eq_true', Bool.not_true, Bool.not_false, Bool.false_eq_true, Bool.true_eq_false, Bool.not_eq_eq_eq_not, beq_self_eq_true, beqFT, beqTF, decide_true, decide_false, not_false_eq_true, not_true_eq_false, ne_eq, true_and, and_true, false_and, and_false, and_self, if_true, if_false, ite_true, ite_false, Bool.and_true, Bool.and_false, Bool.true_and, Bool.false_and, Bool.or_true, Bool.true_or, Bool.or_false, Bool.false_or, or_true, true_or, or_false, false_or, or_self, AV.asInt, AV.asBool, AV.asSl, AV.asPtr, AV.asFn, AV.asStr, AV.asMap, AV.asIfc, AV.item, List.length_cons, List.length_nil, List.getElem?_cons_zero, List.getElem?_cons_succ, Nat.zero_add, ll, i0, i1, hr, c1, c2, c3, c4, ro, c6], s1, kk, .inl ⟨rfl, not_perm hi (.inr c5)⟩⟩
      · rw [if_neg c5] at mo
        have c6 : ¬ 0 ≤ rd o (rd l i) := by omega
        have st := st_ints (x := i) (len := l.length) (cp := some l.length) rr (by rw [kk.prot]; omega) c3 (by rw [m.len]; exact c4)
        have ms := m.step hi c3 c4 c5
        rw [idx0_at hi c5] at ms
        exact .inl ⟨_, Ev.of fun k => by simp only [f45_L111010]; simp only [Option.bind_some, decide_eq_true_eq, decide_eq_false_iff_not, Bool.not_eq_true', Bool.not_true, Bool.not_false, Bool.false_eq_true, Bool.true_eq_false, Bool.not_eq_eq_eq_not, beq_self_eq_true, beqFT, beqTF, decide_true, decide_false, not_false_eq_true, not_true_eq_false, ne_eq, true_and, and_true, false_and, and_false, and_self, if_true, if_false, ite_true, ite_false, Bool.and_true, Bool.and_false, Bool.true_and, Bool.false_and, Bool.or_true, Bool.true_or, Bool.or_false, Bool.false_or, or_true, true_or, or_false, false_or, or_self, AV.asInt, AV.asBool, AV.asSl, AV.asPtr, AV.asFn, AV.asStr, AV.asMap, AV.asIfc, AV.item, List.length_cons, List.length_nil, List.getElem?_cons_zero, List.getElem?_cons_succ, Nat.zero_add, ll, i0, i1, hr, c1, c2, c3, c4, ro, c6, st, w], o.set (rd l i).toNat i, _, rfl, kk.setO (by omega), Store.Row.setO_eq rr.lt, ms⟩)
    (by
      rintro s ⟨o, s1, rfl, kk, rr, m⟩
      obtain ⟨hp, rfl⟩ := m.end_
      exact ⟨_, Ev.of fun k => by simp only [f45_L111010]; simp only [Option.bind_some, decide_eq_true_eq, decide_eq_false_iff_not, Bool.not_eq_true', Bool.not_true, Bool.not_false, Bool.false_eq_true, Bool.true_eq_false, Bool.not_eq_eq_eq_not, beq_self_eq_true, beqFT, beqTF, decide_true, decide_false, not_false_eq_true, not_true_eq_false, ne_eq, true_and, and_true, false_and, and_false, and_self, if_true, if_false, ite_true, ite_false, Bool.and_true, Bool.and_false, Bool.true_and, Bool.false_and, Bool.or_true, Bool.true_or, Bool.or_false, Bool.false_or, or_true, true_or, or_false, false_or, or_self, AV.asInt, AV.asBool, AV.asSl, AV.asPtr, AV.asFn, AV.asStr, AV.asMap, AV.asIfc, AV.item, List.length_cons, List.length_nil, List.getElem?_cons_zero, List.getElem?_cons_succ, Nat.zero_add, Int.lt_irrefl], s1, kk, .inr ⟨rfl, permB_iff.2 hp, rr⟩⟩)
    (Nat.zero_le _) (s := ([.int .i64 0, .int .i64 l.length, .slice h, .slice (hdS N l.length), .slice h], σ2)) ⟨_, σ2, rfl, k2, r2, Marks.start _ _ _⟩
  have b1 : (0 : Int) ≤ l.length := by omega
  have b2 : (l.length : Int) * ((8 : Nat) : Int) ≤ 281474976710656 := by omega
  have start : ∀ k, evBody Try.prog (gm Try.prog k) drawn k Try.f45 [.slice h] σ = (loopF Try.prog (gm Try.prog k) drawn k Try.f45 [1, 1, 0, 1, 0] [13, 12, 4, 0] ([.int .i64 0, .int .i64 l.length, .slice (hdS N l.length), .slice h], σ1)).bind (contF Try.prog (gm Try.prog k) drawn k Try.f45 [1, 1, 0, 1, 0]) := by
    intro k
    rw [f45_eq]
    simp only [Option.bind_some, decide_eq_true_eq, decide_eq_false_iff_not, Bool.not_eq_true', Bool.not_true, Bool.not_false, Bool.false_eq_true, Bool.true_eq_false, Bool.not_eq_eq_eq_not, beq_self_eq_true, beqFT, beqTF, decide_true, decide_false, not_false_eq_true, not_true_eq_false, ne_eq, true_and, and_true, false_and, and_false, and_self, if_true, if_false, ite_true, ite_false, Bool.and_true, Bool.and_false, Bool.true_and, Bool.false_and, Bool.or_true, Bool.true_or, Bool.or_false, Bool.false_or, or_true, true_or, or_false, false_or, or_self, AV.asInt, AV.asBool, AV.asSl, AV.asPtr, AV.asFn, AV.asStr, AV.asMap, AV.asIfc, AV.item, List.length_cons, List.length_nil, List.getElem?_cons_zero, List.getElem?_cons_succ, Nat.zero_add, ll, Int.toNat_natCast, mkCells_int, ← h1, ← hN, b1, b2, Int.le_refl]
  have mid : ∀ k, contF Try.prog (gm Try.prog k) drawn k Try.f45 [1, 1, 0, 1, 0] (AX.exit 0, [(4, .slice (hdS N l.length)), (0, .slice h)], σ2) = (loopF Try.prog (gm Try.prog k) drawn k Try.f45 [1, 1, 1, 0, 1, 0] [22, 21, 20, 4, 0] ([.int .i64 0, .int .i64 l.length, .slice h, .slice (hdS N l.length), .slice h], σ2)).bind (contF Try.prog (gm Try.prog k) drawn k Try.f45 [1, 1, 1, 0, 1, 0]) := by
    intro k
    rw [f45_X11010_1, ll]
  obtain ⟨s1, kk, ⟨rfl, hb⟩ | ⟨rfl, hb, rr⟩⟩ := q
  · rw [if_neg (by rw [hb]; simp), if_neg (by rw [hb]; simp)]
    refine ⟨Hdl.nil, s1, Runs.intro (fn := Try.f45) (by kernel_rfl) (by kernel_rfl) ?_, kk, ints_nil _, Store.Has.nil _⟩
    refine (Ev.bind (loopF_ev ea) ?_).congr start
    exact (Ev.bind (loopF_ev eb) (Ev.of fun k => f45_X111010_1 (gm Try.prog k) k s1 _ _)).congr mid
  · rw [if_pos hb, if_pos hb]
    refine ⟨hdS N l.length, s1, Runs.intro (fn := Try.f45) (by kernel_rfl) (by kernel_rfl) ?_, kk, rr.sl (by simp [inv_length]), fun b e => by simp [Hdl.row] at e; have := rr.lt; omega⟩
    refine (Ev.bind (loopF_ev ea) ?_).congr start
    exact (Ev.bind (loopF_ev eb) (Ev.of fun k => f45_X111010_2 (gm Try.prog k) k s1 _)).congr mid
end Go.Ab

/- The reference's turning; the laws of layer 9, the first half. -/
namespace Go.Ab
open Go Go.Proofs Go.Ab.Wd Go.Ab.Bs Go.Ab.Sai
set_option linter.unusedVariables false
set_option linter.unusedSimpArgs false
theorem turned_run {σ : Store} {h : Hdl} {l : List Int} (hT : σ.Ints h l) (hp : σ.prot ≤ σ.objs.length) (hn : l.length ≤ 2 ^ 44) :
    ∃ ho σ', Runs Try.prog 17 [.slice h] σ (.tuple [.slice ho, .bool (permB l)]) σ' ∧ Kp σ.objs.length σ σ' ∧ σ'.Ints ho (if permB l = true then inv l else []) ∧ σ'.Has ho := by
  have ll := hT.ilen
  obtain ⟨N, hN⟩ : ∃ N, N = σ.objs.length := ⟨_, rfl⟩
  obtain ⟨σ1, h1⟩ : ∃ x, x = (σ.push (intsL (List.replicate l.length 0)) 1).push (numsL .u8 (List.replicate l.length 0)) 1 := ⟨_, rfl⟩
  have k1 : Kp σ.objs.length σ σ1 := by rw [h1]; exact (Kp.push _ _ (Nat.le_refl _)).push' (by simp)
  have r1 : σ1.Row N 1 (intsL (List.replicate l.length 0)) := by rw [h1, hN]; exact Store.Row.new.push
  have r2 : σ1.Row (N + 1) 1 (numsL .u8 (List.replicate l.length 0)) := by rw [h1, hN]; have := (Store.Row.new (σ := σ.push (intsL (List.replicate l.length 0)) 1) (es := 1) (l := numsL .u8 (List.replicate l.length 0))); simpa using this
  obtain ⟨rb, eb, q⟩ := EvI.upX (f := fun k s => stepF Try.prog (gm Try.prog k) drawn k Try.f17 [1, 1, 1, 0, 1, 0] [16, 15, 14, 5, 4, 0] s) l.length
    (fun i s => ∃ o e s1, s = ([.int .i64 i, .int .i64 l.length, .slice h, .slice (hdS (N + 1) l.length), .slice (hdS N l.length), .slice h], s1) ∧ Kp σ.objs.length σ s1 ∧ s1.Row N 1 (intsL o) ∧ s1.Row (N + 1) 1 (numsL .u8 e) ∧ Marks (idx0 l) 0 l i o ∧ Marks (fun _ => 1) 0 l i e)
    (fun r => ∃ s1, Kp σ.objs.length σ s1 ∧ ((r = (AX.ret, [(3, .bool false), (2, .slice Hdl.nil)], s1) ∧ permB l = false) ∨ (r = (AX.exit 0, [(4, .slice (hdS N l.length))], s1) ∧ permB l = true ∧ s1.Row N 1 (intsL (inv l)))))
    (by
      rintro i s hi ⟨o, e, s1, rfl, kk, rr, re, m, me⟩
      have i0 : (0 : Int) ≤ i := by omega
      have i1 : (i : Int) < l.length := by omega
      have w := wsucc hi (by omega)
      have hr := (Store.Ints.rd (Store.Sl.kp hT kk) i0 i1 : s1.ldInt .i64 (h.idx i 1) = _)
      by_cases c1 : rd l i < 0
      · exact .inr ⟨(AX.ret, [(3, .bool false), (2, .slice Hdl.nil)], s1), Ev.of fun k => by simp only [f17_L111010]; simp only [Option.bind_some, decide_eq_true_eq, decide_eq_false_iff_not, Bool.not_eq_true', Bool.not_true, Bool.not_false, Bool.false_eq_true, Bool.true_eq_false, Bool.not_eq_eq_eq_not, beq_self_eq_true, beqFT, beqTF, decide_true, decide_false, not_false_eq_true, not_true_eq_false, ne_eq, true_and, and_true, false_and, and_false, and_self, if_true, if_false, ite_true, ite_false, Bool.and_true, Bool.and_false, Bool.true_and, Bool.false_and, Bool.or_true, Bool.true_or, Bool.or_false, Bool.false_or, or_true, true_or, or_false, false_or, or_self, AV.asInt, AV.asBool, AV.asSl, AV.asPtr, AV.asFn, AV.asStr, AV.asMap, AV.asIfc, AV.item, List.length_cons, List.length_nil, List.getElem?_cons_zero, List.getElem?_cons_succ, Nat.zero_add, ll, i0, i1, hr, c1], s1, kk, .inl ⟨rfl, not_perm hi (.inl (by omega))⟩⟩
      by_cases c2 : (l.length : Int) ≤ rd l i
      · exact .inr ⟨(AX.ret, [(3, .bool false), (2, .slice Hdl.nil)], s1), Ev.of fun k => by simp only [f17_L111010]; simp only [Option.bind_some, decide_eq_true_eq, decide_eq_false_iff_not, Bool.not_eq_true', Bool.not_true, Bool.not_false, Bool.false_eq_true, Bool.true_eq_false, Bool.not_eq_eq_eq_not, beq_self_eq_true, beqFT, beqTF, decide_true, decide_false, not_false_eq_true, not_true_eq_false, ne_eq, true_and, and_true, false_and, and_false, and_self, if_true, if_false, ite_true, ite_false, Bool.and_true, Bool.and_false, Bool.true_and, Bool.false_and, Bool.or_true, Bool.true_or, Bool.or_false, Bool.false_or, or_true, true_or, or_false, false_or, or_self, AV.asInt, AV.asBool, AV.asSl, AV.asPtr, AV.asFn, AV.asStr, AV.asMap, AV.asIfc, AV.item, List.length_cons, List.length_nil, List.getElem?_cons_zero, List.getElem?_cons_succ, Nat.zero_add, ll, i0, i1, hr, c1, c2], s1, kk, .inl ⟨rfl, not_perm hi (.inl (by omega))⟩⟩
      have c3 : 0 ≤ rd l i := by omega
      have c4 : rd l i < l.length := by omega
      have ro := row_rd re (len := l.length) (cp := some l.length) c3 (by rw [me.len]; exact c4)
      have mo := me.val _ c3 c4
      by_cases c5 : rd l i ∈ l.take i
      · rw [if_pos c5] at mo
        exact .inr ⟨(AX.ret, [(3, .bool false), (2, .slice Hdl.nil)], s1), Ev.of fun k => by simp only [f17_L111010]; simp only [Option.bind_some, decide_eq_true_eq, decide_eq_false_iff_not, Bool.not_eq_true', Bool.not_true, Bool.not_false, Bool.false_eq_true, Bool.true_eq_false, Bool.not_eq_eq_eq_not, beq_self_eq_true, beqFT, beqTF, decide_true, decide_false, not_false_eq_true, not_true_eq_false, ne_eq, true_and, and_true, false_and, and_false, and_self, if_true, if_false, ite_true, ite_false, Bool.and_true, Bool.and_false, Bool.true_and, Bool.false_and, Bool.or_true, Bool.true_or, Bool.or_false, Bool.false_or, or_true, true_or, or_false, false_or, or_self, AV.asInt, AV.asBool, AV.asSl, AV.asPtr, AV.asFn, AV.asStr, AV.asMap, AV.asIfc, AV.item, List.length_cons, List.length_nil, List.getElem?_cons_zero, List.getElem?_cons_succ, Nat.zero_add, ll, i0, i1, hr, c1, c2, c3, c4, ro, mo], s1, kk, .inl ⟨rfl, not_perm hi (.inr c5)⟩⟩
      · rw [if_neg c5] at mo
        have c6 : ¬ (0 : Int) = 1 := by omega
        have st1 := st_nums (k := .u8) (x := 1) (len := l.length) (cp := some l.length) re (by rw [kk.prot]; omega) c3 (by rw [me.len]; exact c4)
        have rr2 := Store.Row.setO_ne (c := N + 1) (o := .cells (numsL .u8 (e.set (rd l i).toNat 1)) true 1) rr (by omega)
        have re2 := Store.Row.setO_eq (l := numsL .u8 (e.set (rd l i).toNat 1)) (es := 1) re.lt
        have st2 := st_ints (x := i) (len := l.length) (cp := some l.length) rr2 (by rw [setO_prot, kk.prot]; omega) c3 (by rw [m.len]; exact c4)
        have ms := m.step hi c3 c4 c5
        rw [idx0_at hi c5] at ms
        exact .inl ⟨_, Ev.of fun k => by simp only [f17_L111010]; simp only [Option.bind_some, decide_eq_true_eq, decide_eq_false_iff_not, Bool.not_eq_true', Bool.not_true, Bool.not_false, Bool.false_eq_true, Bool.true_eq_false, Bool.not_eq_eq_eq_not, beq_self_eq_true, beqFT, beqTF, decide_true, decide_false, not_false_eq_true, not_true_eq_false, ne_eq, true_and, and_true, false_and, and_false, and_self, if_true, if_false, ite_true, ite_false, Bool.and_true, Bool.and_false, Bool.true_and, Bool.false_and, Bool.or_true, Bool.true_or, Bool.or_false, Bool.false_or, or_true, true_or, or_false, false_or, or_self, AV.asInt, AV.asBool, AV.asSl, AV.asPtr, AV.asFn, AV.asStr, AV.asMap, AV.asIfc, AV.item, List.length_cons, List.length_nil, List.getElem?_cons_zero, List.getElem?_cons_succ, Nat.zero_add, ll, i0, i1, hr, c1, c2, c3, c4, ro, mo, c6, st1, st2, w], o.set (rd l i).toNat i, e.set (rd l i).toNat 1, _, rfl, (kk.setO (by omega)).setO (by omega), Store.Row.setO_eq (by simpa using rr.lt), re2.setO_ne (by omega), ms, me.step hi c3 c4 c5⟩)
    (by
      rintro s ⟨o, e, s1, rfl, kk, rr, re, m, me⟩
      obtain ⟨hp, rfl⟩ := m.end_
      exact ⟨(AX.exit 0, [(4, .slice (hdS N l.length))], s1), Ev.of fun k => by simp only [f17_L111010]; simp only [Option.bind_some, decide_eq_true_eq, decide_eq_false_iff_not, Bool.not_eq_true', Bool.not_true, Bool.not_false, Bool.false_eq_true, Bool.true_eq_false, Bool.not_eq_eq_eq_not, beq_self_eq_true, beqFT, beqTF, decide_true, decide_false, not_false_eq_true, not_true_eq_false, ne_eq, true_and, and_true, false_and, and_false, and_self, if_true, if_false, ite_true, ite_false, Bool.and_true, Bool.and_false, Bool.true_and, Bool.false_and, Bool.or_true, Bool.true_or, Bool.or_false, Bool.false_or, or_true, true_or, or_false, false_or, or_self, AV.asInt, AV.asBool, AV.asSl, AV.asPtr, AV.asFn, AV.asStr, AV.asMap, AV.asIfc, AV.item, List.length_cons, List.length_nil, List.getElem?_cons_zero, List.getElem?_cons_succ, Nat.zero_add, Int.lt_irrefl], s1, kk, .inr ⟨rfl, permB_iff.2 hp, rr⟩⟩)
    (Nat.zero_le _) (s := ([.int .i64 0, .int .i64 l.length, .slice h, .slice (hdS (N + 1) l.length), .slice (hdS N l.length), .slice h], σ1)) ⟨_, _, σ1, rfl, k1, r1, r2, Marks.start _ _ _, Marks.start _ _ _⟩
  have b1 : (0 : Int) ≤ l.length := by omega
  have b2 : (l.length : Int) * ((8 : Nat) : Int) ≤ 281474976710656 := by omega
  have b3 : (l.length : Int) * ((1 : Nat) : Int) ≤ 281474976710656 := by omega
  have start : ∀ k, evBody Try.prog (gm Try.prog k) drawn k Try.f17 [.slice h] σ = (loopF Try.prog (gm Try.prog k) drawn k Try.f17 [1, 1, 1, 0, 1, 0] [16, 15, 14, 5, 4, 0] ([.int .i64 0, .int .i64 l.length, .slice h, .slice (hdS (N + 1) l.length), .slice (hdS N l.length), .slice h], σ1)).bind (contF Try.prog (gm Try.prog k) drawn k Try.f17 [1, 1, 1, 0, 1, 0]) := by
    intro k
    rw [f17_eq]
    simp only [Option.bind_some, decide_eq_true_eq, decide_eq_false_iff_not, Bool.not_eq_true', Bool.not_true, Bool.not_false, Bool.false_eq_true, Bool.true_eq_false, Bool.not_eq_eq_eq_not, beq_self_eq_true, beqFT, beqTF, decide_true, decide_false, not_false_eq_true, not_true_eq_false, ne_eq, true_and, and_true, false_and, and_false, and_self, if_true, if_false, ite_true, ite_false, Bool.and_true, Bool.and_false, Bool.true_and, Bool.false_and, Bool.or_true, Bool.true_or, Bool.or_false, Bool.false_or, or_true, true_or, or_false, false_or, or_self, AV.asInt, AV.asBool, AV.asSl, AV.asPtr, AV.asFn, AV.asStr, AV.asMap, AV.asIfc, AV.item, List.length_cons, List.length_nil, List.getElem?_cons_zero, List.getElem?_cons_succ, Nat.zero_add, ll, Int.toNat_natCast, mkCells_int, mkCells_num .u8, push_len, ← h1, ← hN, b1, b2, b3, Int.le_refl]
  obtain ⟨s1, kk, ⟨rfl, hb⟩ | ⟨rfl, hb, rr⟩⟩ := q
  · rw [if_neg (by rw [hb]; simp), hb]
    refine ⟨Hdl.nil, s1, Runs.intro (fn := Try.f17) (by kernel_rfl) (by kernel_rfl) ?_, kk, ints_nil _, Store.Has.nil _⟩
    exact (Ev.bind (loopF_ev eb) (Ev.of fun k => f17_X111010_1 (gm Try.prog k) k s1 _ _)).congr start
  · rw [if_pos hb, hb]
    refine ⟨hdS N l.length, s1, Runs.intro (fn := Try.f17) (by kernel_rfl) (by kernel_rfl) ?_, kk, rr.sl (by simp [inv_length]), fun b e => by simp [Hdl.row] at e; have := rr.lt; omega⟩
    exact (Ev.bind (loopF_ev eb) (Ev.of fun k => f17_X111010_2 (gm Try.prog k) k s1 _)).congr start
end Go.Ab

/- The order of suffixes: of lists put by others, of tails. Plain Lean, no program. -/
namespace Go.Ab.Bs
open Go.Ab.Wd
set_option linter.unusedVariables false
set_option linter.unusedSimpArgs false
theorem llt_map {f : Int → Int} (hf : ∀ x y, f x < f y ↔ x < y) : ∀ a b : List Int, llt (a.map f) (b.map f) ↔ llt a b
  | [], [] => by simp [llt]
  | [], _ :: _ => by simp [llt]
  | _ :: _, [] => by simp [llt]
  | x :: xs, y :: ys => by
    have he : f x = f y ↔ x = y := ⟨fun h => by
      rcases Int.lt_trichotomy x y with c | c | c
      · have := (hf x y).2 c; omega
      · exact c
      · have := (hf y x).2 c; omega, fun h => by rw [h]⟩
    simp only [List.map_cons, llt, hf, he, llt_map hf xs ys]
theorem sl_map {f : Int → Int} (hf : ∀ x y, f x < f y ↔ x < y) (t : List Int) (p q : Int) : sl (t.map f) p q ↔ sl t p q := by
  unfold sl; rw [← List.map_drop, ← List.map_drop, llt_map hf]
theorem saOf_map {f : Int → Int} (hf : ∀ x y, f x < f y ↔ x < y) (t : List Int) : saOf (t.map f) = saOf t := by
  have h := saOf_spec t
  refine saOf_eq ⟨by rw [List.length_map]; exact h.perm, ?_⟩
  exact h.ord.imp fun {p q} hs => (sl_map hf t p q).2 hs
theorem llt_snoc {z : Int} : ∀ a b : List Int, (∀ x ∈ a, z < x) → (∀ x ∈ b, z < x) → (llt (a ++ [z]) (b ++ [z]) ↔ llt a b)
  | [], [], _, _ => by simp [llt]
  | [], y :: ys, _, hb => by have := hb y (by simp); simp [llt, this]
  | x :: xs, [], ha, _ => by have := ha x (by simp); simp [llt]; omega
  | x :: xs, y :: ys, ha, hb => by
    simp only [List.cons_append, llt]
    rw [llt_snoc xs ys (fun u hu => ha u (by simp [hu])) (fun u hu => hb u (by simp [hu]))]
theorem sl_snoc {t : List Int} {z : Int} (hz : ∀ x ∈ t, z < x) {p q : Int} (p0 : 0 ≤ p) (p1 : p < t.length) (q0 : 0 ≤ q) (q1 : q < t.length) : sl (t ++ [z]) p q ↔ sl t p q := by
  unfold sl
  rw [List.drop_append_of_le_length (by omega), List.drop_append_of_le_length (by omega)]
  exact llt_snoc _ _ (fun x hx => hz x (List.mem_of_mem_drop hx)) (fun x hx => hz x (List.mem_of_mem_drop hx))
theorem saOf_snoc {t : List Int} {z : Int} (hz : ∀ x ∈ t, z < x) : saOf (t ++ [z]) = (t.length : Int) :: saOf t := by
  have h := saOf_spec t
  refine saOf_eq ⟨⟨by simp [h.perm.len], fun p hp => ?_, ?_⟩, ?_⟩
  · rcases List.mem_cons.1 hp with rfl | hp
    · simp; omega
    · have := h.perm.rng p hp; simp; omega
  · refine List.nodup_cons.2 ⟨fun hm => ?_, h.perm.nd⟩
    have := h.perm.rng _ hm; omega
  · refine List.pairwise_cons.2 ⟨fun q hq => ?_, h.ord.imp_of_mem fun {p q} hp hq hs => ?_⟩
    · have rq := h.perm.rng q hq
      unfold sl
      rw [List.drop_append_of_le_length (by omega), List.drop_append_of_le_length (by omega)]
      rw [List.drop_eq_nil_of_le (by omega), drop_cons rq.1 rq.2]
      exact .inl (hz _ (rd_mem rq.1 rq.2))
    · have rp := h.perm.rng p hp
      have rq := h.perm.rng q hq
      exact (sl_snoc hz rp.1 rp.2 rq.1 rq.2).2 hs
theorem sl_drop (t : List Int) (k : Nat) {p q : Int} (p0 : 0 ≤ p) (q0 : 0 ≤ q) : sl (t.drop k) p q ↔ sl t (p + k) (q + k) := by
  unfold sl
  rw [List.drop_drop, List.drop_drop, show (p + k).toNat = k + p.toNat by omega, show (q + k).toNat = k + q.toNat by omega]
/-- Of a tail. -/
theorem saOf_drop (t : List Int) (k : Nat) (hk : k ≤ t.length) : saOf (t.drop k) = ((saOf t).filter fun p => decide ((k : Int) ≤ p)).map fun p => p - (k : Int) := by
  have h := saOf_spec t
  refine saOf_eq ⟨?_, ?_⟩
  · have hnd : (((saOf t).filter fun p => decide ((k : Int) ≤ p)).map fun p => p - (k : Int)).Nodup :=
      nodup_map_inj (fun a b h => by omega) (h.perm.nd.filter _)
    have hrng : ∀ p ∈ ((saOf t).filter fun p => decide ((k : Int) ≤ p)).map fun p => p - (k : Int), 0 ≤ p ∧ p < ((t.drop k).length : Nat) := fun p hp => by
      obtain ⟨q, hq, rfl⟩ := List.mem_map.1 hp
      rw [List.mem_filter, decide_eq_true_eq] at hq
      have := h.perm.rng q hq.1
      simp; omega
    refine IsPerm.of_perm ?_
    refine (List.perm_ext_iff_of_nodup hnd (nodup_places _)).2 fun p => ⟨fun hp => mem_places.2 (hrng p hp), fun hp => ?_⟩
    have hp := mem_places.1 hp
    simp only [List.length_drop] at hp
    exact List.mem_map.2 ⟨p + k, List.mem_filter.2 ⟨h.perm.mem (by omega) (by omega), by simp; omega⟩, by omega⟩
  · rw [List.pairwise_map]
    refine (h.ord.filter _).imp_of_mem fun {p q} hp hq hs => ?_
    rw [List.mem_filter, decide_eq_true_eq] at hp hq
    rw [sl_drop t k (by omega) (by omega), show p - (k : Int) + k = p by omega, show q - (k : Int) + k = q by omega]
    exact hs
end Go.Ab.Bs

/- Lists turned by their suffixes' order, and back. Plain Lean, no program. -/
namespace Go.Ab.Bs
open Go.Ab.Wd
set_option linter.unusedVariables false
set_option linter.unusedSimpArgs false
/-- How many of a list have a property. -/
def cnt (p : Int → Bool) (l : List Int) : Nat := (l.filter p).length
theorem cnt_append (p : Int → Bool) (a b : List Int) : cnt p (a ++ b) = cnt p a + cnt p b := by simp [cnt]
theorem cnt_cons (p : Int → Bool) (x : Int) (l : List Int) : cnt p (x :: l) = (if p x = true then 1 else 0) + cnt p l := by
  unfold cnt
  by_cases c : p x = true
  · rw [if_pos c, List.filter_cons_of_pos c, List.length_cons]; omega
  · rw [if_neg c, List.filter_cons_of_neg c]; omega
theorem cnt_nil (p : Int → Bool) : cnt p [] = 0 := rfl
theorem cnt_le (p : Int → Bool) (l : List Int) : cnt p l ≤ l.length := List.length_filter_le _ _
theorem cnt_perm {a b : List Int} (h : a.Perm b) (p : Int → Bool) : cnt p a = cnt p b := (h.filter p).length_eq
theorem cnt_map (p : Int → Bool) (f : Int → Int) (l : List Int) : cnt p (l.map f) = cnt (fun x => p (f x)) l := by
  unfold cnt; rw [List.filter_map, List.length_map]; rfl
theorem cnt_congr {p q : Int → Bool} {l : List Int} (h : ∀ x ∈ l, p x = q x) : cnt p l = cnt q l := by unfold cnt; rw [List.filter_congr h]
theorem cnt_or {p q : Int → Bool} (l : List Int) (h : ∀ x ∈ l, ¬ (p x = true ∧ q x = true)) : cnt (fun x => p x || q x) l = cnt p l + cnt q l := by
  induction l with
  | nil => rfl
  | cons x l ih =>
    have ih := ih fun y hy => h y (by simp [hy])
    have hx := h x (by simp)
    rw [cnt_cons, cnt_cons, cnt_cons, ih]
    cases h1 : p x <;> cases h2 : q x <;> simp_all <;> omega
theorem cnt_take_succ (p : Int → Bool) {l : List Int} {i : Nat} (hi : i < l.length) : cnt p (l.take (i + 1)) = cnt p (l.take i) + if p (rd l i) = true then 1 else 0 := by
  have : l.take (i + 1) = l.take i ++ [rd l i] := by rw [List.take_add_one, rd_getElem hi]; simp [hi]
  rw [this, cnt_append, cnt_cons, cnt_nil]; omega
theorem cnt_take_le (p : Int → Bool) (l : List Int) (i : Nat) : cnt p (l.take i) ≤ cnt p l := by
  conv => rhs; rw [← List.take_append_drop i l, cnt_append]
  omega
/-- The turned row. -/
def prev (n : Nat) (p : Int) : Int := if p = 0 then n - 1 else p - 1
def bwtOf (t sa : List Int) : List Int := sa.map fun p => rd t (prev t.length p)
theorem bwtOf_length (t sa : List Int) : (bwtOf t sa).length = sa.length := by simp [bwtOf]
theorem rd_map {f : Int → Int} {l : List Int} {i : Int} (h0 : 0 ≤ i) (h1 : i < l.length) : rd (l.map f) i = f (rd l i) := by
  obtain ⟨i, rfl⟩ := Int.eq_ofNat_of_zero_le h0
  rw [rd_getElem (by simp; omega), rd_getElem (by omega)]; simp
theorem rd_bwtOf {t sa : List Int} {i : Int} (h0 : 0 ≤ i) (h1 : i < sa.length) : rd (bwtOf t sa) i = rd t (prev t.length (rd sa i)) := rd_map h0 h1
theorem prev_rng {n : Nat} {p : Int} (h0 : 0 ≤ p) (h1 : p < n) : 0 ≤ prev n p ∧ prev n p < n := by unfold prev; split <;> omega
theorem prev_inj {n : Nat} {p q : Int} (h0 : 0 ≤ p) (h1 : p < n) (g0 : 0 ≤ q) (g1 : q < n) (h : prev n p = prev n q) : p = q := by unfold prev at h; split at h <;> split at h <;> omega
theorem prev_perm {n : Nat} {sa : List Int} (h : IsPerm n sa) : IsPerm n (sa.map (prev n)) := by
  refine ⟨by simp [h.len], fun p hp => ?_, ?_⟩
  · obtain ⟨q, hq, rfl⟩ := List.mem_map.1 hp
    have := h.rng q hq
    exact prev_rng this.1 this.2
  · unfold List.Nodup
    rw [List.pairwise_map]
    refine h.nd.imp_of_mem fun {a b} ha hb hne e => hne ?_
    have ra := h.rng a ha
    have rb := h.rng b hb
    exact prev_inj ra.1 ra.2 rb.1 rb.2 e
theorem places_rd (t : List Int) : (places t.length).map (rd t) = t := by
  refine ext_rd (by simp [places]) fun i i0 i1 => ?_
  simp only [List.length_map, places_length] at i1
  rw [rd_map i0 (by rw [places_length]; exact i1)]
  obtain ⟨i, rfl⟩ := Int.eq_ofNat_of_zero_le i0
  rw [rd_getElem (l := places t.length) (by rw [places_length]; omega)]
  simp [places]
/-- A turned row has the same numbers. -/
theorem bwtOf_perm {t sa : List Int} (h : IsPerm t.length sa) : (bwtOf t sa).Perm t := by
  have h1 : bwtOf t sa = (sa.map (prev t.length)).map (rd t) := by simp [bwtOf, Function.comp_def]
  rw [h1]
  have := (prev_perm h).perm.map (rd t)
  rwa [places_rd] at this
/-- Where the row ahead of each one stands. -/
def lf (b : List Int) (i : Int) : Int := (cnt (fun x => decide (x < rd b i)) b + cnt (fun x => decide (x = rd b i)) (b.take i.toNat) : Nat)
theorem lf_rng {b : List Int} {i : Int} (h0 : 0 ≤ i) (h1 : i < b.length) : 0 ≤ lf b i ∧ lf b i < b.length := by
  obtain ⟨i, rfl⟩ := Int.eq_ofNat_of_zero_le h0
  refine ⟨by unfold lf; omega, ?_⟩
  have e1 := cnt_or (p := fun x => decide (x < rd b i)) (q := fun x => decide (x = rd b i)) b (fun x _ => by simp; omega)
  have e2 := cnt_le (fun x => decide (x < rd b i) || decide (x = rd b i)) b
  have e3 := cnt_take_succ (fun x => decide (x = rd b i)) (l := b) (i := i) (by omega)
  rw [if_pos (by simp)] at e3
  have e4 := cnt_take_le (fun x => decide (x = rd b i)) b (i + 1)
  unfold lf
  rw [show ((i : Int)).toNat = i by omega]
  omega
/-- How many stand ahead of a place in order. -/
theorem rank_of {t sa : List Int} (h : IsSA t sa) {j : Int} (j0 : 0 ≤ j) (j1 : j < t.length) : (cnt (fun x => decide (sl t x (rd sa j))) sa : Int) = j := by
  obtain ⟨j, rfl⟩ := Int.eq_ofNat_of_zero_le j0
  have hl := h.perm.len
  have e : sa = sa.take j ++ sa.drop j := (List.take_append_drop j sa).symm
  have h1 : cnt (fun x => decide (sl t x (rd sa j))) (sa.take j) = j := by
    unfold cnt
    rw [List.filter_eq_self.2 fun x hx => ?_]
    · simp; omega
    · obtain ⟨i, i0, i1, rfl⟩ := mem_rd hx
      simp only [List.length_take] at i1
      have : rd (sa.take j) i = rd sa i := by
        obtain ⟨i, rfl⟩ := Int.eq_ofNat_of_zero_le i0
        rw [rd_getElem (by simp; omega), rd_getElem (by omega)]; simp
      rw [this]
      exact decide_eq_true (h.lt i0 (by omega) (by omega))
  have h2 : cnt (fun x => decide (sl t x (rd sa j))) (sa.drop j) = 0 := by
    unfold cnt
    rw [List.filter_eq_nil_iff.2 fun x hx => ?_]
    · rfl
    · obtain ⟨i, i0, i1, rfl⟩ := mem_rd hx
      simp only [List.length_drop] at i1
      have : rd (sa.drop j) i = rd sa (j + i) := by
        obtain ⟨i, rfl⟩ := Int.eq_ofNat_of_zero_le i0
        rw [show (j : Int) + (i : Int) = ((j + i : Nat) : Int) by omega, rd_getElem (by simp; omega), rd_getElem (by omega)]; simp
      rw [this]
      simp only [decide_eq_true_eq]
      intro hs
      by_cases c : i = 0
      · rw [c, Int.add_zero] at hs; exact sl_irrefl _ _ hs
      · exact sl_irrefl _ _ (sl_trans (h.lt j0 (show (j : Int) < j + i by omega) (by omega)) hs)
  conv => lhs; rw [show cnt (fun x => decide (sl t x (rd sa j))) sa = cnt (fun x => decide (sl t x (rd sa j))) (sa.take j ++ sa.drop j) by rw [List.take_append_drop]]
  rw [cnt_append, h1, h2]; simp
/-- The last number is there once. -/
def Ends (t : List Int) : Prop := 0 < t.length ∧ ∀ i : Int, 0 ≤ i → i + 1 < t.length → rd t i ≠ rd t (t.length - 1)
theorem sl_prev {t sa : List Int} (h : IsSA t sa) (he : Ends t) {i j : Int} (i0 : 0 ≤ i) (i1 : i < t.length) (j0 : 0 ≤ j) (j1 : j < t.length) :
    sl t (prev t.length (rd sa j)) (prev t.length (rd sa i)) ↔ rd (bwtOf t sa) j < rd (bwtOf t sa) i ∨ (rd (bwtOf t sa) j = rd (bwtOf t sa) i ∧ j < i) := by
  have hl := h.perm.len
  rw [rd_bwtOf j0 (by omega), rd_bwtOf i0 (by omega)]
  have ri := h.perm.rng _ (rd_mem i0 (show i < sa.length by omega))
  have rj := h.perm.rng _ (rd_mem j0 (show j < sa.length by omega))
  have pi := prev_rng ri.1 ri.2
  have pj := prev_rng rj.1 rj.2
  have hji : rd sa j = rd sa i ↔ j = i := ⟨fun e => nodup_rd h.perm.nd j0 (by omega) i0 (by omega) e, fun e => by rw [e]⟩
  have hlt : sl t (rd sa j) (rd sa i) ↔ j < i := by
    constructor
    · intro hs
      rcases Int.lt_trichotomy j i with c | c | c
      · exact c
      · rw [c] at hs; exact absurd hs (sl_irrefl _ _)
      · exact absurd (sl_trans hs (h.lt i0 c j1)) (sl_irrefl _ _)
    · intro c; exact h.lt j0 c i1
  have hend : ∀ p : Int, 0 ≤ p → p < t.length → p ≠ t.length - 1 → rd t p ≠ rd t (t.length - 1) := fun p p0 p1 pn => he.2 p p0 (by omega)
  rw [sl_step pj.1 pj.2 pi.1 pi.2]
  by_cases ci : rd sa i = 0
  · have ei : prev t.length (rd sa i) = t.length - 1 := by unfold prev; rw [if_pos ci]
    by_cases cj : rd sa j = 0
    · have e : j = i := hji.1 (by omega)
      subst e
      constructor
      · rintro (h1 | ⟨h1, h2⟩)
        · omega
        · exact absurd h2 (sl_irrefl _ _)
      · rintro (h1 | ⟨h1, h2⟩) <;> omega
    · have hj : prev t.length (rd sa j) ≠ t.length - 1 := by unfold prev; rw [if_neg cj]; omega
      have := hend _ pj.1 pj.2 hj
      rw [ei]
      constructor
      · rintro (h1 | ⟨h1, h2⟩)
        · exact .inl h1
        · exact absurd h1 this
      · rintro (h1 | ⟨h1, h2⟩)
        · exact .inl h1
        · exact absurd h1 this
  · have ei : prev t.length (rd sa i) + 1 = rd sa i := by unfold prev; rw [if_neg ci]; omega
    by_cases cj : rd sa j = 0
    · have ej : prev t.length (rd sa j) = t.length - 1 := by unfold prev; rw [if_pos cj]
      have hi : prev t.length (rd sa i) ≠ t.length - 1 := by omega
      have := hend _ pi.1 pi.2 hi
      rw [ej]
      constructor
      · rintro (h1 | ⟨h1, h2⟩)
        · exact .inl h1
        · exact absurd h1.symm this
      · rintro (h1 | ⟨h1, h2⟩)
        · exact .inl h1
        · exact absurd h1.symm this
    · have ej : prev t.length (rd sa j) + 1 = rd sa j := by unfold prev; rw [if_neg cj]; omega
      rw [ei, ej, hlt]
theorem lf_spec {t sa : List Int} (h : IsSA t sa) (he : Ends t) {i : Int} (i0 : 0 ≤ i) (i1 : i < t.length) : rd sa (lf (bwtOf t sa) i) = prev t.length (rd sa i) := by
  have hl := h.perm.len
  have ri := h.perm.rng _ (rd_mem i0 (show i < sa.length by omega))
  have pi := prev_rng ri.1 ri.2
  obtain ⟨j, j0, j1, hj⟩ : ∃ j : Int, 0 ≤ j ∧ j < t.length ∧ rd sa j = prev t.length (rd sa i) := by
    obtain ⟨j, j0, j1, e⟩ := mem_rd (h.perm.mem pi.1 pi.2)
    exact ⟨j, j0, by omega, e⟩
  rw [← hj]
  congr 1
  rw [← rank_of h j0 j1, hj]
  -- count by rows
  have e1 : cnt (fun x => decide (sl t x (prev t.length (rd sa i)))) sa = cnt (fun x => decide (sl t (prev t.length x) (prev t.length (rd sa i)))) sa := by
    rw [← cnt_map (fun x => decide (sl t x (prev t.length (rd sa i)))) (prev t.length) sa]
    exact cnt_perm (h.perm.perm.trans (prev_perm h.perm).perm.symm) _
  rw [e1]
  unfold lf
  have key : ∀ m : Nat, m ≤ t.length → cnt (fun x => decide (sl t (prev t.length x) (prev t.length (rd sa i)))) (sa.take m) =
      cnt (fun x => decide (x < rd (bwtOf t sa) i)) ((bwtOf t sa).take m) + cnt (fun x => decide (x = rd (bwtOf t sa) i)) ((bwtOf t sa).take (min m i.toNat)) := by
    intro m
    induction m with
    | zero => intro _; simp [cnt]
    | succ m ih =>
      intro hm
      have ih := ih (by omega)
      have hlb := bwtOf_length t sa
      rw [cnt_take_succ _ (by omega), cnt_take_succ _ (by omega), ih]
      have sp := sl_prev h he i0 i1 (show (0 : Int) ≤ m by omega) (show (m : Int) < t.length by omega)
      by_cases c : m < i.toNat
      · rw [show min (m + 1) i.toNat = m + 1 by omega, show min m i.toNat = m by omega, cnt_take_succ _ (by omega)]
        by_cases c1 : rd (bwtOf t sa) m < rd (bwtOf t sa) i
        · rw [if_pos (decide_eq_true (sp.2 (.inl c1))), if_pos (decide_eq_true c1), if_neg (by simp; omega)]; omega
        · by_cases c2 : rd (bwtOf t sa) m = rd (bwtOf t sa) i
          · rw [if_pos (decide_eq_true (sp.2 (.inr ⟨c2, by omega⟩))), if_neg (by simpa using c1), if_pos (decide_eq_true c2)]; omega
          · rw [if_neg (by simp only [decide_eq_true_eq]; intro hs; rcases sp.1 hs with g | ⟨g, _⟩ <;> omega), if_neg (by simpa using c1), if_neg (by simpa using c2)]; omega
      · rw [show min (m + 1) i.toNat = i.toNat by omega, show min m i.toNat = i.toNat by omega]
        by_cases c1 : rd (bwtOf t sa) m < rd (bwtOf t sa) i
        · rw [if_pos (decide_eq_true (sp.2 (.inl c1))), if_pos (decide_eq_true c1)]; omega
        · rw [if_neg (by simp only [decide_eq_true_eq]; intro hs; rcases sp.1 hs with g | ⟨_, g⟩ <;> omega), if_neg (by simpa using c1)]; omega
  have := key t.length (Nat.le_refl _)
  rw [← hl, List.take_length, hl] at this
  rw [this, show (bwtOf t sa).take t.length = bwtOf t sa by rw [List.take_of_length_le (by rw [bwtOf_length]; omega)], show min t.length i.toNat = i.toNat by omega]
/-- The list of which b is the turned row, from behind. -/
def walk (b : List Int) : Nat → Int → List Int
  | 0, _ => []
  | m + 1, i => rd b i :: walk b m (lf b i)
def backOf (b : List Int) (whole : Int) : List Int := (walk b b.length whole).reverse
theorem walk_length (b : List Int) : ∀ (m : Nat) (i : Int), (walk b m i).length = m
  | 0, _ => rfl
  | m + 1, i => by simp [walk, walk_length b m]
theorem backOf_length (b : List Int) (whole : Int) : (backOf b whole).length = b.length := by simp [backOf, walk_length]
theorem walk_mem {b : List Int} : ∀ (m : Nat) (i : Int), 0 ≤ i → i < b.length → ∀ x ∈ walk b m i, x ∈ b
  | 0, _, _, _, x, hx => by simp [walk] at hx
  | m + 1, i, i0, i1, x, hx => by
    simp only [walk, List.mem_cons] at hx
    rcases hx with rfl | hx
    · exact rd_mem i0 i1
    · have := lf_rng i0 i1
      exact walk_mem m _ this.1 this.2 x hx
/-- Each list with an end of its own comes back. -/
theorem backOf_bwt {t sa : List Int} (h : IsSA t sa) (he : Ends t) {w : Int} (w0 : 0 ≤ w) (w1 : w < t.length) (hw : rd sa w = 0) : backOf (bwtOf t sa) w = t := by
  have hl := h.perm.len
  have key : ∀ (m : Nat) (i : Int), 0 ≤ i → i < t.length → m ≤ t.length → prev t.length (rd sa i) = (m : Int) - 1 ∨ m = 0 → walk (bwtOf t sa) m i = (t.take m).reverse := by
    intro m
    induction m with
    | zero => intro i _ _ _ _; simp [walk]
    | succ m ih =>
      intro i i0 i1 hm hp
      have hp : prev t.length (rd sa i) = m := by rcases hp with hp | hp <;> omega
      have hb : rd (bwtOf t sa) i = rd t m := by rw [rd_bwtOf i0 (by omega), hp]
      have hr := lf_rng (b := bwtOf t sa) i0 (by rw [bwtOf_length]; omega)
      rw [bwtOf_length, hl] at hr
      have hsp := lf_spec h he i0 i1
      rw [hp] at hsp
      have : t.take (m + 1) = t.take m ++ [rd t m] := by rw [List.take_add_one, rd_getElem (by omega)]; simp [show m < t.length by omega]
      rw [walk, this, hb, List.reverse_append, List.reverse_singleton, List.singleton_append, ih _ hr.1 hr.2 (by omega) ?_]
      by_cases c : m = 0
      · exact .inr c
      · left; rw [hsp]; unfold prev; rw [if_neg (by omega)]
  unfold backOf
  rw [bwtOf_length, hl, key t.length w w0 w1 (Nat.le_refl _) (.inl (by rw [hw]; simp [prev])), List.reverse_reverse, List.take_length]
end Go.Ab.Bs

/- slices.Equal, Contains, Min; the turned row, by the program and by the reference. -/
namespace Go.Ab
open Go Go.Proofs Go.Ab.Wd Go.Ab.Bs Go.Ab.Sai
set_option linter.unusedVariables false
set_option linter.unusedSimpArgs false
theorem first11_told (σ : Store) : Runs Try.prog 15 [] σ (.bool true) σ := Runs.told (f := fun args σ => match args with | [] => some (.bool true, σ) | _ => none) (by kernel_rfl) rfl
theorem same_self {σ : Store} {h h' : Hdl} {a : List Int} (ha : σ.Ints h a) (hb : σ.Ints h' a) (hn : a.length < 2 ^ 62) : Runs Try.prog 18 [.slice h, .slice h'] σ (.bool true) σ := by
  have := same_run ha hb hn; rwa [decide_eq_true rfl] at this
theorem equal_run {σ : Store} {h h' : Hdl} {a b : List Int} (ha : σ.Ints h a) (hb : σ.Ints h' b) (hn : a.length < 2 ^ 62) : Runs Try.prog 51 [.slice h, .slice h'] σ (.bool (decide (a = b))) σ := by
  refine Runs.intro (fn := Try.f51) (by kernel_rfl) (by kernel_rfl) ?_
  have la := ha.ilen
  have lb := hb.ilen
  by_cases c : a.length = b.length
  · obtain ⟨r, e, q⟩ := EvI.upX (f := fun k s => stepF Try.prog (gm Try.prog k) drawn k Try.f51 [1, 1, 0, 1, 0] [13, 12, 1, 0] s) a.length
      (fun i s => s = ([.int .i64 i, .int .i64 a.length, .slice h', .slice h], σ) ∧ a.take i = b.take i)
      (fun r => (r = (AX.ret, [(4, .bool false)], σ) ∧ a ≠ b) ∨ (r = (AX.exit 0, [], σ) ∧ a = b))
      (by
        rintro i s hi ⟨rfl, hp⟩
        have i0 : (0 : Int) ≤ i := by omega
        have i1 : (i : Int) < a.length := by omega
        have i2 : (i : Int) < b.length := by omega
        have w := wsucc hi hn
        by_cases e : rd a i = rd b i
        · exact .inl ⟨_, Ev.of fun k => by simp only [f51_L11010]; simp only [Option.bind_some, decide_eq_true_eq, decide_eq_false_iff_not, Bool.not_eq_true', Bool.not_true, Bool.not_false, Bool.false_eq_true, Bool.true_eq_false, Bool.not_eq_eq_eq_not, beq_self_eq_true, beqFT, beqTF, decide_true, decide_false, not_false_eq_true, not_true_eq_false, ne_eq, true_and, and_true, false_and, and_false, and_self, if_true, if_false, ite_true, ite_false, Bool.and_true, Bool.and_false, Bool.true_and, Bool.false_and, Bool.or_true, Bool.true_or, Bool.or_false, Bool.false_or, or_true, true_or, or_false, false_or, or_self, AV.asInt, AV.asBool, AV.asSl, AV.asPtr, AV.asFn, AV.asStr, AV.asMap, AV.asIfc, AV.item, List.length_cons, List.length_nil, List.getElem?_cons_zero, List.getElem?_cons_succ, Nat.zero_add, la, lb, i0, i1, i2, ha.rd i0 i1, hb.rd i0 i2, e, w], rfl, by rw [take_rd hi, take_rd (by omega), hp, e]⟩
        · exact .inr ⟨_, Ev.of fun k => by simp only [f51_L11010]; simp only [Option.bind_some, decide_eq_true_eq, decide_eq_false_iff_not, Bool.not_eq_true', Bool.not_true, Bool.not_false, Bool.false_eq_true, Bool.true_eq_false, Bool.not_eq_eq_eq_not, beq_self_eq_true, beqFT, beqTF, decide_true, decide_false, not_false_eq_true, not_true_eq_false, ne_eq, true_and, and_true, false_and, and_false, and_self, if_true, if_false, ite_true, ite_false, Bool.and_true, Bool.and_false, Bool.true_and, Bool.false_and, Bool.or_true, Bool.true_or, Bool.or_false, Bool.false_or, or_true, true_or, or_false, false_or, or_self, AV.asInt, AV.asBool, AV.asSl, AV.asPtr, AV.asFn, AV.asStr, AV.asMap, AV.asIfc, AV.item, List.length_cons, List.length_nil, List.getElem?_cons_zero, List.getElem?_cons_succ, Nat.zero_add, la, lb, i0, i1, i2, ha.rd i0 i1, hb.rd i0 i2, e, w], .inl ⟨rfl, fun h => e (by rw [h])⟩⟩)
      (by
        rintro s ⟨rfl, hp⟩
        refine ⟨_, Ev.of fun k => by simp only [f51_L11010]; simp only [Option.bind_some, decide_eq_true_eq, decide_eq_false_iff_not, Bool.not_eq_true', Bool.not_true, Bool.not_false, Bool.false_eq_true, Bool.true_eq_false, Bool.not_eq_eq_eq_not, beq_self_eq_true, beqFT, beqTF, decide_true, decide_false, not_false_eq_true, not_true_eq_false, ne_eq, true_and, and_true, false_and, and_false, and_self, if_true, if_false, ite_true, ite_false, Bool.and_true, Bool.and_false, Bool.true_and, Bool.false_and, Bool.or_true, Bool.true_or, Bool.or_false, Bool.false_or, or_true, true_or, or_false, false_or, or_self, AV.asInt, AV.asBool, AV.asSl, AV.asPtr, AV.asFn, AV.asStr, AV.asMap, AV.asIfc, AV.item, List.length_cons, List.length_nil, List.getElem?_cons_zero, List.getElem?_cons_succ, Nat.zero_add, Int.lt_irrefl], .inr ⟨rfl, ?_⟩⟩
        rw [List.take_of_length_le (Nat.le_refl _), List.take_of_length_le (by omega)] at hp; exact hp)
      (Nat.zero_le _) (s := ([.int .i64 0, .int .i64 a.length, .slice h', .slice h], σ)) ⟨rfl, by simp⟩
    rcases q with ⟨rfl, q⟩ | ⟨rfl, q⟩
    · rw [decide_eq_false q]
      refine (Ev.bind (loopF_ev e) (Ev.of fun k => f51_X11010_1 (gm Try.prog k) k σ _)).congr fun k => ?_
      rw [f51_eq]; simp only [Option.bind_some, decide_eq_true_eq, decide_eq_false_iff_not, Bool.not_eq_true', Bool.not_true, Bool.not_false, Bool.false_eq_true, Bool.true_eq_false, Bool.not_eq_eq_eq_not, beq_self_eq_true, beqFT, beqTF, decide_true, decide_false, not_false_eq_true, not_true_eq_false, ne_eq, true_and, and_true, false_and, and_false, and_self, if_true, if_false, ite_true, ite_false, Bool.and_true, Bool.and_false, Bool.true_and, Bool.false_and, Bool.or_true, Bool.true_or, Bool.or_false, Bool.false_or, or_true, true_or, or_false, false_or, or_self, AV.asInt, AV.asBool, AV.asSl, AV.asPtr, AV.asFn, AV.asStr, AV.asMap, AV.asIfc, AV.item, List.length_cons, List.length_nil, List.getElem?_cons_zero, List.getElem?_cons_succ, Nat.zero_add, la, lb, c]
    · rw [decide_eq_true q]
      refine (Ev.bind (loopF_ev e) (Ev.of fun k => f51_X11010_2 (gm Try.prog k) k σ)).congr fun k => ?_
      rw [f51_eq]; simp only [Option.bind_some, decide_eq_true_eq, decide_eq_false_iff_not, Bool.not_eq_true', Bool.not_true, Bool.not_false, Bool.false_eq_true, Bool.true_eq_false, Bool.not_eq_eq_eq_not, beq_self_eq_true, beqFT, beqTF, decide_true, decide_false, not_false_eq_true, not_true_eq_false, ne_eq, true_and, and_true, false_and, and_false, and_self, if_true, if_false, ite_true, ite_false, Bool.and_true, Bool.and_false, Bool.true_and, Bool.false_and, Bool.or_true, Bool.true_or, Bool.or_false, Bool.false_or, or_true, true_or, or_false, false_or, or_self, AV.asInt, AV.asBool, AV.asSl, AV.asPtr, AV.asFn, AV.asStr, AV.asMap, AV.asIfc, AV.item, List.length_cons, List.length_nil, List.getElem?_cons_zero, List.getElem?_cons_succ, Nat.zero_add, la, lb, c]
  · have : ¬ a = b := fun h => c (by rw [h])
    rw [decide_eq_false this]
    refine Ev.of fun k => ?_
    have c' : ¬ (a.length : Int) = b.length := by omega
    rw [f51_eq]; simp only [Option.bind_some, decide_eq_true_eq, decide_eq_false_iff_not, Bool.not_eq_true', Bool.not_true, Bool.not_false, Bool.false_eq_true, Bool.true_eq_false, Bool.not_eq_eq_eq_not, beq_self_eq_true, beqFT, beqTF, decide_true, decide_false, not_false_eq_true, not_true_eq_false, ne_eq, true_and, and_true, false_and, and_false, and_self, if_true, if_false, ite_true, ite_false, Bool.and_true, Bool.and_false, Bool.true_and, Bool.false_and, Bool.or_true, Bool.true_or, Bool.or_false, Bool.false_or, or_true, true_or, or_false, false_or, or_self, AV.asInt, AV.asBool, AV.asSl, AV.asPtr, AV.asFn, AV.asStr, AV.asMap, AV.asIfc, AV.item, List.length_cons, List.length_nil, List.getElem?_cons_zero, List.getElem?_cons_succ, Nat.zero_add, la, lb, c']
theorem index_run {σ : Store} {h : Hdl} {l : List Int} (hl : σ.Ints h l) (hn : l.length < 2 ^ 62) (x : Int) : ∃ i : Int, Runs Try.prog 68 [.slice h, .int .i64 x] σ (.int .i64 i) σ ∧ (x ∈ l → i = (l.idxOf x : Nat)) ∧ (x ∉ l → i = -1) := by
  have ll := hl.ilen
  obtain ⟨r, e, q⟩ := EvI.upX (f := fun k s => stepF Try.prog (gm Try.prog k) drawn k Try.f68 [1, 0, 1, 0] [8, 7, 1, 0] s) l.length
    (fun i s => s = ([.int .i64 i, .int .i64 l.length, .int .i64 x, .slice h], σ) ∧ x ∉ l.take i)
    (fun r => (r = (AX.ret, [(4, .int .i64 (l.idxOf x : Nat))], σ) ∧ x ∈ l) ∨ (r = (AX.exit 0, [], σ) ∧ x ∉ l))
    (by
      rintro i s hi ⟨rfl, hq⟩
      have i0 : (0 : Int) ≤ i := by omega
      have i1 : (i : Int) < l.length := by omega
      have w := wsucc hi hn
      by_cases e : x = rd l i
      · have hx : l.idxOf x = i := by
          rw [e] at hq ⊢
          have := idx0_at hi hq
          unfold idx0 at this; omega
        exact .inr ⟨(AX.ret, [(4, .int .i64 (l.idxOf x : Nat))], σ), Ev.of fun k => by simp only [f68_L1010]; simp only [Option.bind_some, decide_eq_true_eq, decide_eq_false_iff_not, Bool.not_eq_true', Bool.not_true, Bool.not_false, Bool.false_eq_true, Bool.true_eq_false, Bool.not_eq_eq_eq_not, beq_self_eq_true, beqFT, beqTF, decide_true, decide_false, not_false_eq_true, not_true_eq_false, ne_eq, true_and, and_true, false_and, and_false, and_self, if_true, if_false, ite_true, ite_false, Bool.and_true, Bool.and_false, Bool.true_and, Bool.false_and, Bool.or_true, Bool.true_or, Bool.or_false, Bool.false_or, or_true, true_or, or_false, false_or, or_self, AV.asInt, AV.asBool, AV.asSl, AV.asPtr, AV.asFn, AV.asStr, AV.asMap, AV.asIfc, AV.item, List.length_cons, List.length_nil, List.getElem?_cons_zero, List.getElem?_cons_succ, Nat.zero_add, ll, i0, i1, hl.rd i0 i1, e.symm, hx], .inl ⟨rfl, e ▸ rd_mem i0 i1⟩⟩
      · refine .inl ⟨_, Ev.of fun k => by simp only [f68_L1010]; simp only [Option.bind_some, decide_eq_true_eq, decide_eq_false_iff_not, Bool.not_eq_true', Bool.not_true, Bool.not_false, Bool.false_eq_true, Bool.true_eq_false, Bool.not_eq_eq_eq_not, beq_self_eq_true, beqFT, beqTF, decide_true, decide_false, not_false_eq_true, not_true_eq_false, ne_eq, true_and, and_true, false_and, and_false, and_self, if_true, if_false, ite_true, ite_false, Bool.and_true, Bool.and_false, Bool.true_and, Bool.false_and, Bool.or_true, Bool.true_or, Bool.or_false, Bool.false_or, or_true, true_or, or_false, false_or, or_self, AV.asInt, AV.asBool, AV.asSl, AV.asPtr, AV.asFn, AV.asStr, AV.asMap, AV.asIfc, AV.item, List.length_cons, List.length_nil, List.getElem?_cons_zero, List.getElem?_cons_succ, Nat.zero_add, ll, i0, i1, hl.rd i0 i1, e, w], rfl, fun hx => ?_⟩
        rw [take_rd hi] at hx
        rcases List.mem_append.1 hx with hx | hx
        · exact hq hx
        · rw [List.mem_singleton] at hx; exact e hx)
    (by
      rintro s ⟨rfl, hq⟩
      rw [List.take_length] at hq
      exact ⟨_, Ev.of fun k => by simp only [f68_L1010]; simp only [Option.bind_some, decide_eq_true_eq, decide_eq_false_iff_not, Bool.not_eq_true', Bool.not_true, Bool.not_false, Bool.false_eq_true, Bool.true_eq_false, Bool.not_eq_eq_eq_not, beq_self_eq_true, beqFT, beqTF, decide_true, decide_false, not_false_eq_true, not_true_eq_false, ne_eq, true_and, and_true, false_and, and_false, and_self, if_true, if_false, ite_true, ite_false, Bool.and_true, Bool.and_false, Bool.true_and, Bool.false_and, Bool.or_true, Bool.true_or, Bool.or_false, Bool.false_or, or_true, true_or, or_false, false_or, or_self, AV.asInt, AV.asBool, AV.asSl, AV.asPtr, AV.asFn, AV.asStr, AV.asMap, AV.asIfc, AV.item, List.length_cons, List.length_nil, List.getElem?_cons_zero, List.getElem?_cons_succ, Nat.zero_add, Int.lt_irrefl], .inr ⟨rfl, hq⟩⟩)
    (Nat.zero_le _) (s := ([.int .i64 0, .int .i64 l.length, .int .i64 x, .slice h], σ)) ⟨rfl, by simp⟩
  rcases q with ⟨rfl, q⟩ | ⟨rfl, q⟩
  · exact ⟨_, Runs.intro (fn := Try.f68) (by kernel_rfl) (by kernel_rfl) ((Ev.bind (loopF_ev e) (Ev.of fun k => f68_X1010_1 (gm Try.prog k) k σ _)).congr fun k => by rw [f68_eq, ll]), fun _ => rfl, fun h => absurd q h⟩
  · exact ⟨-1, Runs.intro (fn := Try.f68) (by kernel_rfl) (by kernel_rfl) ((Ev.bind (loopF_ev e) (Ev.of fun k => f68_X1010_2 (gm Try.prog k) k σ)).congr fun k => by rw [f68_eq, ll]), fun h => absurd h q, fun _ => rfl⟩
theorem contains_run {σ : Store} {h : Hdl} {l : List Int} (hl : σ.Ints h l) (hn : l.length < 2 ^ 62) (x : Int) : Runs Try.prog 49 [.slice h, .int .i64 x] σ (.bool (decide (x ∈ l))) σ := by
  obtain ⟨i, ⟨k0, r⟩, h1, h2⟩ := index_run hl hn x
  refine Runs.intro (fn := Try.f49) (by kernel_rfl) (by kernel_rfl) ⟨k0, fun k hk => ?_⟩
  have r := r k hk
  simp only at r
  have e : decide (0 ≤ i) = decide (x ∈ l) := by
    by_cases c : x ∈ l
    · rw [h1 c]; simp [c]
    · rw [h2 c]; simp [c]
  simp only [f49_eq]
  simp only [Option.bind_some, decide_eq_true_eq, decide_eq_false_iff_not, Bool.not_eq_true', Bool.not_true, Bool.not_false, Bool.false_eq_true, Bool.true_eq_false, Bool.not_eq_eq_eq_not, beq_self_eq_true, beqFT, beqTF, decide_true, decide_false, not_false_eq_true, not_true_eq_false, ne_eq, true_and, and_true, false_and, and_false, and_self, if_true, if_false, ite_true, ite_false, Bool.and_true, Bool.and_false, Bool.true_and, Bool.false_and, Bool.or_true, Bool.true_or, Bool.or_false, Bool.false_or, or_true, true_or, or_false, false_or, or_self, AV.asInt, AV.asBool, AV.asSl, AV.asPtr, AV.asFn, AV.asStr, AV.asMap, AV.asIfc, AV.item, List.length_cons, List.length_nil, List.getElem?_cons_zero, List.getElem?_cons_succ, Nat.zero_add, r, e]
/-- The least of a list. -/
def minL : List Int → Int
  | [] => 0
  | x :: r => r.foldl mn2 x
theorem foldl_mn2 : ∀ (r : List Int) (x : Int), (r.foldl mn2 x = x ∨ r.foldl mn2 x ∈ r) ∧ r.foldl mn2 x ≤ x ∧ ∀ y ∈ r, r.foldl mn2 x ≤ y
  | [], x => ⟨.inl rfl, Int.le_refl _, by simp⟩
  | z :: r, x => by
    obtain ⟨h1, h2, h3⟩ := foldl_mn2 r (mn2 x z)
    have hm : (mn2 x z = x ∨ mn2 x z = z) ∧ mn2 x z ≤ x ∧ mn2 x z ≤ z := by unfold mn2; split <;> omega
    refine ⟨?_, by simp only [List.foldl_cons]; omega, fun y hy => ?_⟩
    · simp only [List.foldl_cons]
      rcases h1 with h1 | h1
      · rw [h1]; rcases hm.1 with h | h
        · exact .inl h
        · exact .inr (by rw [h]; simp)
      · exact .inr (by simp [h1])
    · simp only [List.foldl_cons]
      rcases List.mem_cons.1 hy with rfl | hy
      · omega
      · exact h3 y hy
theorem minL_spec {l : List Int} (h : 0 < l.length) : minL l ∈ l ∧ ∀ y ∈ l, minL l ≤ y := by
  cases l with
  | nil => simp at h
  | cons x r =>
    obtain ⟨h1, h2, h3⟩ := foldl_mn2 r x
    refine ⟨?_, fun y hy => ?_⟩
    · rcases h1 with h1 | h1
      · simp [minL, h1]
      · simp [minL, h1]
    · rcases List.mem_cons.1 hy with rfl | hy
      · exact h2
      · exact h3 y hy
theorem min_run {σ : Store} {h : Hdl} {l : List Int} (hl : σ.Ints h l) (h0 : 0 < l.length) (hn : l.length < 2 ^ 61) : Runs Try.prog 48 [.slice h] σ (.int .i64 (minL l)) σ := by
  have ll := hl.ilen
  obtain ⟨x, r, rfl⟩ : ∃ x r, l = x :: r := by cases l with | nil => simp at h0 | cons x r => exact ⟨x, r, rfl⟩
  obtain ⟨rr, e, rfl⟩ := EvI.up (f := fun k s => stepF Try.prog (gm Try.prog k) drawn k Try.f48 [1, 1, 1, 0, 1, 0] [4, 3, 0] s) r.length
    (fun i s => s = ([.int .i64 (i + 1 : Nat), .int .i64 ((r.take i).foldl mn2 x), .slice h], σ))
    (fun q => q = (AX.exit 0, [(3, .int .i64 (minL (x :: r)))], σ))
    (by
      rintro i s hi rfl
      have i0 : (0 : Int) ≤ (i + 1 : Nat) := by omega
      have i1 : ((i + 1 : Nat) : Int) < (x :: r).length := by simp; omega
      have w : IntKind.wrap .i64 (((i + 1 : Nat) : Int) + 1) = (i + 1 + 1 : Nat) := by rw [wrap64 (by omega) (by simp at hn; omega)]; omega
      have rx := hl.rd i0 i1
      have e1 : rd (x :: r) ((i + 1 : Nat) : Int) = rd r i := by rw [rd_getElem (by simp; omega), rd_getElem hi]; simp
      rw [e1] at rx
      have e2 : (r.take (i + 1)).foldl mn2 x = mn2 ((r.take i).foldl mn2 x) (rd r i) := by rw [take_rd hi, List.foldl_append]; rfl
      exact ⟨_, Ev.of fun k => by simp only [f48_L111010]; rw [ll]; simp only [Option.bind_some, decide_eq_true_eq, decide_eq_false_iff_not, Bool.not_eq_true', Bool.not_true, Bool.not_false, Bool.false_eq_true, Bool.true_eq_false, Bool.not_eq_eq_eq_not, beq_self_eq_true, beqFT, beqTF, decide_true, decide_false, not_false_eq_true, not_true_eq_false, ne_eq, true_and, and_true, false_and, and_false, and_self, if_true, if_false, ite_true, ite_false, Bool.and_true, Bool.and_false, Bool.true_and, Bool.false_and, Bool.or_true, Bool.true_or, Bool.or_false, Bool.false_or, or_true, true_or, or_false, false_or, or_self, AV.asInt, AV.asBool, AV.asSl, AV.asPtr, AV.asFn, AV.asStr, AV.asMap, AV.asIfc, AV.item, List.length_cons, List.length_nil, List.getElem?_cons_zero, List.getElem?_cons_succ, Nat.zero_add] at i1 ⊢; simp only [Option.bind_some, decide_eq_true_eq, decide_eq_false_iff_not, Bool.not_eq_true', Bool.not_true, Bool.not_false, Bool.false_eq_true, Bool.true_eq_false, Bool.not_eq_eq_eq_not, beq_self_eq_true, beqFT, beqTF, decide_true, decide_false, not_false_eq_true, not_true_eq_false, ne_eq, true_and, and_true, false_and, and_false, and_self, if_true, if_false, ite_true, ite_false, Bool.and_true, Bool.and_false, Bool.true_and, Bool.false_and, Bool.or_true, Bool.true_or, Bool.or_false, Bool.false_or, or_true, true_or, or_false, false_or, or_self, AV.asInt, AV.asBool, AV.asSl, AV.asPtr, AV.asFn, AV.asStr, AV.asMap, AV.asIfc, AV.item, List.length_cons, List.length_nil, List.getElem?_cons_zero, List.getElem?_cons_succ, Nat.zero_add, i0, i1, rx, w, e2.symm], rfl⟩)
    (by
      rintro s rfl
      refine ⟨_, Ev.of fun k => ?_, rfl⟩
      simp only [f48_L111010]; rw [ll]
      have c : ¬ ((r.length + 1 : Nat) : Int) < (x :: r).length := by simp
      simp only [decide_eq_true_eq]
      rw [if_neg c, List.take_length]; rfl)
    (s := ([.int .i64 1, .int .i64 x, .slice h], σ)) rfl
  refine Runs.intro (fn := Try.f48) (by kernel_rfl) (by kernel_rfl) ((Ev.bind (loopF_ev e) (Ev.of fun k => f48_X111010_1 (gm Try.prog k) k σ _)).congr fun k => ?_)
  rw [f48_eq, ll]
  have c1 : ¬ ((x :: r).length : Int) < 1 := by simp; omega
  have c2 : (0 : Int) < (x :: r).length := by simp
  have rx := hl.rd (Int.le_refl 0) c2
  have e0 : rd (x :: r) 0 = x := by simp [rd]
  rw [e0] at rx
  simp only [decide_eq_true_eq]
  rw [if_neg c1, if_pos ⟨Int.le_refl _, c2⟩, rx]
  rfl
/-! ### the turned row -/
theorem make_run {σ : Store} {h h' : Hdl} {t sa : List Int} (hT : σ.Ints h t) (hS : σ.Ints h' sa) (hp : σ.prot ≤ σ.objs.length) (hn : t.length ≤ 2 ^ 44) (hn' : sa.length ≤ 2 ^ 44) :
    ∃ ho σ', Runs Try.prog 16 [.slice h, .slice h'] σ (.tuple [.slice ho, .int .i64 (if permB sa = true ∧ sa.length = t.length then 0 else 2)]) σ' ∧ Kp σ.objs.length σ σ' ∧
      σ'.Ints ho (if permB sa = true ∧ sa.length = t.length then bwtOf t sa else []) ∧ σ'.Has ho := by
  have lt := hT.ilen
  have ls := hS.ilen
  obtain ⟨h1, σ1, ⟨k1, r1⟩, K1, I1, H1⟩ := turn_run hS hp hn'
  have hp1 : σ1.prot ≤ σ1.objs.length := by rw [K1.prot]; have := K1.len; omega
  cases hb : permB sa with
  | false =>
    rw [hb] at r1
    rw [if_neg (by simp), if_neg (by simp)]
    refine ⟨Hdl.nil, σ1, Runs.intro (fn := Try.f16) (by kernel_rfl) (by kernel_rfl) ⟨k1, fun k hk => ?_⟩, K1, ints_nil _, Store.Has.nil _⟩
    have r1 := r1 k hk
    simp only [Option.bind_some, decide_eq_true_eq, decide_eq_false_iff_not, Bool.not_eq_true', Bool.not_true, Bool.not_false, Bool.false_eq_true, Bool.true_eq_false, Bool.not_eq_eq_eq_not, beq_self_eq_true, beqFT, beqTF, decide_true, decide_false, not_false_eq_true, not_true_eq_false, ne_eq, true_and, and_true, false_and, and_false, and_self, if_true, if_false, ite_true, ite_false, Bool.and_true, Bool.and_false, Bool.true_and, Bool.false_and, Bool.or_true, Bool.true_or, Bool.or_false, Bool.false_or, or_true, true_or, or_false, false_or, or_self, AV.asInt, AV.asBool, AV.asSl, AV.asPtr, AV.asFn, AV.asStr, AV.asMap, AV.asIfc, AV.item, List.length_cons, List.length_nil, List.getElem?_cons_zero, List.getElem?_cons_succ, Nat.zero_add] at r1
    have c : ¬ (2 : Int) = 0 := by decide
    simp only [f16_eq]; simp only [Option.bind_some, decide_eq_true_eq, decide_eq_false_iff_not, Bool.not_eq_true', Bool.not_true, Bool.not_false, Bool.false_eq_true, Bool.true_eq_false, Bool.not_eq_eq_eq_not, beq_self_eq_true, beqFT, beqTF, decide_true, decide_false, not_false_eq_true, not_true_eq_false, ne_eq, true_and, and_true, false_and, and_false, and_self, if_true, if_false, ite_true, ite_false, Bool.and_true, Bool.and_false, Bool.true_and, Bool.false_and, Bool.or_true, Bool.true_or, Bool.or_false, Bool.false_or, or_true, true_or, or_false, false_or, or_self, AV.asInt, AV.asBool, AV.asSl, AV.asPtr, AV.asFn, AV.asStr, AV.asMap, AV.asIfc, AV.item, List.length_cons, List.length_nil, List.getElem?_cons_zero, List.getElem?_cons_succ, Nat.zero_add, r1, c]
  | true =>
    rw [hb] at r1
    by_cases c : sa.length = t.length
    · rw [if_pos ⟨rfl, c⟩, if_pos ⟨rfl, c⟩]
      have hperm := permB_iff.1 hb
      obtain ⟨σ2, h2⟩ : ∃ x, x = σ1.push (intsL (List.replicate t.length 0)) 1 := ⟨_, rfl⟩
      have K2 : Kp σ.objs.length σ σ2 := by rw [h2]; exact K1.push' K1.len
      have R2 : σ2.Row σ1.objs.length 1 (intsL (List.replicate t.length 0)) := by rw [h2]; exact Store.Row.new
      obtain ⟨r, e, σ3, rfl, K3, R3⟩ := EvI.up (f := fun k s => stepF Try.prog (gm Try.prog k) drawn k Try.f16 [1, 1, 1, 0, 1, 0] [30, 29, 28, 8, 0] s) sa.length
        (fun i s => ∃ o s1, s = ([.int .i64 i, .int .i64 sa.length, .slice h', .slice (hdS σ1.objs.length t.length), .slice h], s1) ∧ Kp σ.objs.length σ s1 ∧ s1.Row σ1.objs.length 1 (intsL o) ∧ o.length = t.length ∧ ∀ p : Int, 0 ≤ p → p < i → rd o p = rd (bwtOf t sa) p)
        (fun r => ∃ s1, r = (AX.exit 0, [(8, .slice (hdS σ1.objs.length t.length))], s1) ∧ Kp σ.objs.length σ s1 ∧ s1.Row σ1.objs.length 1 (intsL (bwtOf t sa)))
        (by
          rintro i s hi ⟨o, s1, rfl, kk, rr, lo, ho⟩
          have i0 : (0 : Int) ≤ i := by omega
          have i1 : (i : Int) < sa.length := by omega
          have i2 : (i : Int) < t.length := by omega
          have w := wsucc hi (by omega)
          have rx := Store.Ints.rd (Store.Sl.kp hS kk) i0 i1
          obtain ⟨x0, x1⟩ := hperm.rng _ (rd_mem i0 i1)
          have w1 : IntKind.wrap .i64 (rd sa i + t.length) = rd sa i + t.length := wrap64 (by omega) (by omega)
          have w2 : IntKind.wrap .i64 (rd sa i + t.length - 1) = rd sa i + t.length - 1 := wrap64 (by omega) (by omega)
          have m : Int.tmod (rd sa i + t.length - 1) t.length = prev t.length (rd sa i) := by
            rw [Int.tmod_eq_emod_of_nonneg (by omega)]
            unfold prev
            by_cases c0 : rd sa i = 0
            · rw [if_pos c0, c0, Int.emod_eq_of_lt (by omega) (by omega)]; omega
            · rw [if_neg c0, show rd sa i + (t.length : Int) - 1 = (rd sa i - 1) + t.length by omega, Int.add_emod_right, Int.emod_eq_of_lt (by omega) (by omega)]
          obtain ⟨p0, p1⟩ := prev_rng (n := t.length) x0 (by omega)
          have ry := Store.Ints.rd (Store.Sl.kp hT kk) p0 p1
          have c0 : ¬ (t.length : Int) = 0 := by omega
          have st := st_ints (x := rd t (prev t.length (rd sa i))) (len := t.length) (cp := some t.length) rr (by rw [kk.prot]; have := K1.len; omega) i0 (by omega)
          refine ⟨_, Ev.of fun k => by simp only [f16_L111010]; simp only [Option.bind_some, decide_eq_true_eq, decide_eq_false_iff_not, Bool.not_eq_true', Bool.not_true, Bool.not_false, Bool.false_eq_true, Bool.true_eq_false, Bool.not_eq_eq_eq_not, beq_self_eq_true, beqFT, beqTF, decide_true, decide_false, not_false_eq_true, not_true_eq_false, ne_eq, true_and, and_true, false_and, and_false, and_self, if_true, if_false, ite_true, ite_false, Bool.and_true, Bool.and_false, Bool.true_and, Bool.false_and, Bool.or_true, Bool.true_or, Bool.or_false, Bool.false_or, or_true, true_or, or_false, false_or, or_self, AV.asInt, AV.asBool, AV.asSl, AV.asPtr, AV.asFn, AV.asStr, AV.asMap, AV.asIfc, AV.item, List.length_cons, List.length_nil, List.getElem?_cons_zero, List.getElem?_cons_succ, Nat.zero_add, lt, ls, i0, i1, i2, rx, w1, w2, m, c0, p0, p1, ry, st, w], o.set (i : Int).toNat (rd t (prev t.length (rd sa i))), _, rfl, kk.setO K1.len, Store.Row.setO_eq rr.lt, by simpa using lo, fun p p0 p1 => ?_⟩
          rw [rd_set i0 (by omega) p0]
          by_cases e : (i : Int) = p
          · rw [if_pos e, ← e, rd_bwtOf i0 i1]
          · rw [if_neg e]; exact ho p p0 (by omega))
        (by
          rintro s ⟨o, s1, rfl, kk, rr, lo, ho⟩
          have : o = bwtOf t sa := Bs.ext_rd (by rw [lo, bwtOf_length, c]) fun p p0 p1 => ho p p0 (by omega)
          subst this
          exact ⟨(AX.exit 0, [(8, .slice (hdS σ1.objs.length t.length))], s1), Ev.of fun k => by simp only [f16_L111010]; simp only [Option.bind_some, decide_eq_true_eq, decide_eq_false_iff_not, Bool.not_eq_true', Bool.not_true, Bool.not_false, Bool.false_eq_true, Bool.true_eq_false, Bool.not_eq_eq_eq_not, beq_self_eq_true, beqFT, beqTF, decide_true, decide_false, not_false_eq_true, not_true_eq_false, ne_eq, true_and, and_true, false_and, and_false, and_self, if_true, if_false, ite_true, ite_false, Bool.and_true, Bool.and_false, Bool.true_and, Bool.false_and, Bool.or_true, Bool.true_or, Bool.or_false, Bool.false_or, or_true, true_or, or_false, false_or, or_self, AV.asInt, AV.asBool, AV.asSl, AV.asPtr, AV.asFn, AV.asStr, AV.asMap, AV.asIfc, AV.item, List.length_cons, List.length_nil, List.getElem?_cons_zero, List.getElem?_cons_succ, Nat.zero_add, Int.lt_irrefl], s1, rfl, kk, rr⟩)
        (s := ([.int .i64 0, .int .i64 sa.length, .slice h', .slice (hdS σ1.objs.length t.length), .slice h], σ2)) ⟨_, σ2, rfl, K2, R2, by simp, fun p p0 p1 => by omega⟩
      obtain ⟨n3, e⟩ := loopF_ev e
      refine ⟨hdS σ1.objs.length t.length, σ3, Runs.intro (fn := Try.f16) (by kernel_rfl) (by kernel_rfl) ⟨k1 + n3, fun k hk => ?_⟩, K3, R3.sl (by simp [bwtOf_length, c]), fun b e => by simp [Hdl.row] at e; have := R3.lt; omega⟩
      have r1 := r1 k (by omega)
      have e := e k (by omega)
      simp only [Option.bind_some, decide_eq_true_eq, decide_eq_false_iff_not, Bool.not_eq_true', Bool.not_true, Bool.not_false, Bool.false_eq_true, Bool.true_eq_false, Bool.not_eq_eq_eq_not, beq_self_eq_true, beqFT, beqTF, decide_true, decide_false, not_false_eq_true, not_true_eq_false, ne_eq, true_and, and_true, false_and, and_false, and_self, if_true, if_false, ite_true, ite_false, Bool.and_true, Bool.and_false, Bool.true_and, Bool.false_and, Bool.or_true, Bool.true_or, Bool.or_false, Bool.false_or, or_true, true_or, or_false, false_or, or_self, AV.asInt, AV.asBool, AV.asSl, AV.asPtr, AV.asFn, AV.asStr, AV.asMap, AV.asIfc, AV.item, List.length_cons, List.length_nil, List.getElem?_cons_zero, List.getElem?_cons_succ, Nat.zero_add] at r1 e
      have c1 : ((h'.len : Nat) : Int) = h.len := by omega
      have b1 : (0 : Int) ≤ t.length := by omega
      have b2 : (t.length : Int) * ((8 : Nat) : Int) ≤ 281474976710656 := by omega
      have c2 : (sa.length : Int) = t.length := by omega
      rw [c2] at e
      simp only [f16_eq]; simp only [Option.bind_some, decide_eq_true_eq, decide_eq_false_iff_not, Bool.not_eq_true', Bool.not_true, Bool.not_false, Bool.false_eq_true, Bool.true_eq_false, Bool.not_eq_eq_eq_not, beq_self_eq_true, beqFT, beqTF, decide_true, decide_false, not_false_eq_true, not_true_eq_false, ne_eq, true_and, and_true, false_and, and_false, and_self, if_true, if_false, ite_true, ite_false, Bool.and_true, Bool.and_false, Bool.true_and, Bool.false_and, Bool.or_true, Bool.true_or, Bool.or_false, Bool.false_or, or_true, true_or, or_false, false_or, or_self, AV.asInt, AV.asBool, AV.asSl, AV.asPtr, AV.asFn, AV.asStr, AV.asMap, AV.asIfc, AV.item, List.length_cons, List.length_nil, List.getElem?_cons_zero, List.getElem?_cons_succ, Nat.zero_add, r1, c1, lt, b1, b2, Int.le_refl, Int.toNat_natCast, mkCells_int, ← h2, e]
      rw [f16_X111010_1]
    · rw [if_neg (by rintro ⟨_, h⟩; exact c h), if_neg (by rintro ⟨_, h⟩; exact c h)]
      refine ⟨Hdl.nil, σ1, Runs.intro (fn := Try.f16) (by kernel_rfl) (by kernel_rfl) ⟨k1, fun k hk => ?_⟩, K1, ints_nil _, Store.Has.nil _⟩
      have r1 := r1 k hk
      simp only [Option.bind_some, decide_eq_true_eq, decide_eq_false_iff_not, Bool.not_eq_true', Bool.not_true, Bool.not_false, Bool.false_eq_true, Bool.true_eq_false, Bool.not_eq_eq_eq_not, beq_self_eq_true, beqFT, beqTF, decide_true, decide_false, not_false_eq_true, not_true_eq_false, ne_eq, true_and, and_true, false_and, and_false, and_self, if_true, if_false, ite_true, ite_false, Bool.and_true, Bool.and_false, Bool.true_and, Bool.false_and, Bool.or_true, Bool.true_or, Bool.or_false, Bool.false_or, or_true, true_or, or_false, false_or, or_self, AV.asInt, AV.asBool, AV.asSl, AV.asPtr, AV.asFn, AV.asStr, AV.asMap, AV.asIfc, AV.item, List.length_cons, List.length_nil, List.getElem?_cons_zero, List.getElem?_cons_succ, Nat.zero_add] at r1
      have c1 : ¬ ((h'.len : Nat) : Int) = h.len := by omega
      simp only [f16_eq]; simp only [Option.bind_some, decide_eq_true_eq, decide_eq_false_iff_not, Bool.not_eq_true', Bool.not_true, Bool.not_false, Bool.false_eq_true, Bool.true_eq_false, Bool.not_eq_eq_eq_not, beq_self_eq_true, beqFT, beqTF, decide_true, decide_false, not_false_eq_true, not_true_eq_false, ne_eq, true_and, and_true, false_and, and_false, and_self, if_true, if_false, ite_true, ite_false, Bool.and_true, Bool.and_false, Bool.true_and, Bool.false_and, Bool.or_true, Bool.true_or, Bool.or_false, Bool.false_or, or_true, true_or, or_false, false_or, or_self, AV.asInt, AV.asBool, AV.asSl, AV.asPtr, AV.asFn, AV.asStr, AV.asMap, AV.asIfc, AV.item, List.length_cons, List.length_nil, List.getElem?_cons_zero, List.getElem?_cons_succ, Nat.zero_add, r1, c1]
theorem refMake_run {σ : Store} {h h' : Hdl} {t sa : List Int} (hT : σ.Ints h t) (hS : σ.Ints h' sa) (hp : σ.prot ≤ σ.objs.length) (hn : t.length < 2 ^ 41) (hn' : sa.length < 2 ^ 41) (hr : ∀ p ∈ sa, 0 ≤ p ∧ p < t.length) :
    ∃ ho σ', Runs Try.prog 19 [.slice h, .slice h'] σ (.slice ho) σ' ∧ Kp σ.objs.length σ σ' ∧ GrowI σ' σ.objs.length ho (bwtOf t sa) := by
  have lt := hT.ilen
  have ls := hS.ilen
  obtain ⟨r, e, ho, σ', rfl, K, G⟩ := EvI.up (f := fun k s => stepF Try.prog (gm Try.prog k) drawn k Try.f19 [1, 1, 0, 1, 0] [10, 9, 8, 5, 0] s) sa.length
    (fun i s => ∃ h5 s1, s = ([.int .i64 i, .int .i64 sa.length, .slice h', .slice h5, .slice h], s1) ∧ Kp σ.objs.length σ s1 ∧ GrowI s1 σ.objs.length h5 ((bwtOf t sa).take i))
    (fun r => ∃ h5 s1, r = (AX.exit 0, [(5, .slice h5)], s1) ∧ Kp σ.objs.length σ s1 ∧ GrowI s1 σ.objs.length h5 (bwtOf t sa))
    (by
      rintro i s hi ⟨h5, s1, rfl, kk, g⟩
      have i0 : (0 : Int) ≤ i := by omega
      have i1 : (i : Int) < sa.length := by omega
      have w := wsucc hi (by omega)
      have rx := Store.Ints.rd (Store.Sl.kp hS kk) i0 i1
      obtain ⟨x0, x1⟩ := hr _ (rd_mem i0 i1)
      obtain ⟨p0, p1⟩ := prev_rng (n := t.length) x0 x1
      have ry := Store.Ints.rd (Store.Sl.kp hT kk) p0 p1
      obtain ⟨h6, s2, e2, k2, g2⟩ := g.app (by rw [kk.prot]; exact hp) kk.len (rd t (prev t.length (rd sa i))) (by simp [bwtOf_length]; omega)
      refine ⟨_, Ev.of fun k => ?_, h6, s2, rfl, kk.trans k2, by rw [take_rd (by rw [bwtOf_length]; exact hi), rd_bwtOf i0 i1]; exact g2⟩
      simp only [f19_L11010]
      by_cases c0 : rd sa i = 0
      · have e3 : prev t.length (rd sa i) = t.length - 1 := by unfold prev; rw [if_pos c0]
        rw [e3] at p0 p1 ry e2
        have w1 : IntKind.wrap .i64 ((t.length : Int) - 1) = t.length - 1 := wrap64 (by omega) (by omega)
        simp only [Option.bind_some, decide_eq_true_eq, decide_eq_false_iff_not, Bool.not_eq_true', Bool.not_true, Bool.not_false, Bool.false_eq_true, Bool.true_eq_false, Bool.not_eq_eq_eq_not, beq_self_eq_true, beqFT, beqTF, decide_true, decide_false, not_false_eq_true, not_true_eq_false, ne_eq, true_and, and_true, false_and, and_false, and_self, if_true, if_false, ite_true, ite_false, Bool.and_true, Bool.and_false, Bool.true_and, Bool.false_and, Bool.or_true, Bool.true_or, Bool.or_false, Bool.false_or, or_true, true_or, or_false, false_or, or_self, AV.asInt, AV.asBool, AV.asSl, AV.asPtr, AV.asFn, AV.asStr, AV.asMap, AV.asIfc, AV.item, List.length_cons, List.length_nil, List.getElem?_cons_zero, List.getElem?_cons_succ, Nat.zero_add, lt, ls, i0, i1, rx, c0, w1, p0, p1, ry, read1, e2, w]
      · have e3 : prev t.length (rd sa i) = rd sa i - 1 := by unfold prev; rw [if_neg c0]
        rw [e3] at p0 p1 ry e2
        have w1 : IntKind.wrap .i64 (rd sa i - 1) = rd sa i - 1 := wrap64 (by omega) (by omega)
        simp only [Option.bind_some, decide_eq_true_eq, decide_eq_false_iff_not, Bool.not_eq_true', Bool.not_true, Bool.not_false, Bool.false_eq_true, Bool.true_eq_false, Bool.not_eq_eq_eq_not, beq_self_eq_true, beqFT, beqTF, decide_true, decide_false, not_false_eq_true, not_true_eq_false, ne_eq, true_and, and_true, false_and, and_false, and_self, if_true, if_false, ite_true, ite_false, Bool.and_true, Bool.and_false, Bool.true_and, Bool.false_and, Bool.or_true, Bool.true_or, Bool.or_false, Bool.false_or, or_true, true_or, or_false, false_or, or_self, AV.asInt, AV.asBool, AV.asSl, AV.asPtr, AV.asFn, AV.asStr, AV.asMap, AV.asIfc, AV.item, List.length_cons, List.length_nil, List.getElem?_cons_zero, List.getElem?_cons_succ, Nat.zero_add, lt, ls, i0, i1, rx, c0, w1, p0, p1, ry, read1, e2, w])
    (by
      rintro s ⟨h5, s1, rfl, kk, g⟩
      rw [List.take_of_length_le (by rw [bwtOf_length]; exact Nat.le_refl _)] at g
      exact ⟨_, Ev.of fun k => by simp only [f19_L11010]; simp only [Option.bind_some, decide_eq_true_eq, decide_eq_false_iff_not, Bool.not_eq_true', Bool.not_true, Bool.not_false, Bool.false_eq_true, Bool.true_eq_false, Bool.not_eq_eq_eq_not, beq_self_eq_true, beqFT, beqTF, decide_true, decide_false, not_false_eq_true, not_true_eq_false, ne_eq, true_and, and_true, false_and, and_false, and_self, if_true, if_false, ite_true, ite_false, Bool.and_true, Bool.and_false, Bool.true_and, Bool.false_and, Bool.or_true, Bool.true_or, Bool.or_false, Bool.false_or, or_true, true_or, or_false, false_or, or_self, AV.asInt, AV.asBool, AV.asSl, AV.asPtr, AV.asFn, AV.asStr, AV.asMap, AV.asIfc, AV.item, List.length_cons, List.length_nil, List.getElem?_cons_zero, List.getElem?_cons_succ, Nat.zero_add, Int.lt_irrefl], h5, s1, rfl, kk, g⟩)
    (s := ([.int .i64 0, .int .i64 sa.length, .slice h', .slice Hdl.nil, .slice h], σ)) ⟨Hdl.nil, σ, rfl, Kp.refl _ _, by rw [List.take_zero]; exact Grow.nil _ _ _⟩
  refine ⟨ho, σ', Runs.intro (fn := Try.f19) (by kernel_rfl) (by kernel_rfl) ?_, K, G⟩
  exact (Ev.bind (loopF_ev e) (Ev.of fun k => f19_X11010_1 (gm Try.prog k) k σ' ho)).congr fun k => by rw [f19_eq, ls]
end Go.Ab

/- How many bits of a number are ones: the sum by folding. Plain Lean, no program. -/
namespace Go.Ab.Pop
set_option linter.unusedVariables false
set_option linter.unusedSimpArgs false
/-- The sum of digits. -/
def Dg (P : Nat) : Nat → Nat → Nat
  | 0, _ => 0
  | n + 1, x => x % P + Dg P n (x / P)
/-- Every other digit. -/
def Em (P : Nat) : Nat → Nat → Nat
  | 0, _ => 0
  | n + 1, x => x % P + P * P * Em P n (x / (P * P))
def Small (P m : Nat) : Nat → Nat → Prop
  | 0, _ => True
  | n + 1, x => x % P ≤ m ∧ Small P m n (x / P)
theorem split2 {P a b : Nat} (ha : a < P * P) : (a + P * P * b) % (P * P) = a ∧ (a + P * P * b) / (P * P) = b := by
  have h0 : 0 < P * P := by omega
  exact ⟨by rw [Nat.add_mul_mod_self_left, Nat.mod_eq_of_lt ha], by rw [Nat.add_mul_div_left _ _ h0, Nat.div_eq_of_lt ha, Nat.zero_add]⟩
theorem two_lt {P a b : Nat} (hP : 2 ≤ P) (ha : a < P) (hb : b < P) : a + b < P * P := by
  have : 2 * P ≤ P * P := Nat.mul_le_mul_right P hP
  omega
theorem div3 (x P : Nat) : x / P / (P * P) = x / (P * P) / P := by rw [Nat.div_div_eq_div_mul, Nat.div_div_eq_div_mul, Nat.mul_comm]
theorem fold_step {P : Nat} (hP : 2 ≤ P) : ∀ (n x : Nat), Dg (P * P) n (Em P n x + Em P n (x / P)) = Dg P (2 * n) x
  | 0, _ => rfl
  | n + 1, x => by
    have e : Em P (n + 1) x + Em P (n + 1) (x / P) = (x % P + x / P % P) + P * P * (Em P n (x / (P * P)) + Em P n (x / (P * P) / P)) := by
      simp only [Em]; rw [div3, Nat.mul_add]; omega
    have hlt := two_lt hP (Nat.mod_lt x (by omega)) (Nat.mod_lt (x / P) (show P > 0 by omega))
    obtain ⟨h1, h2⟩ := split2 (b := Em P n (x / (P * P)) + Em P n (x / (P * P) / P)) hlt
    rw [show 2 * (n + 1) = 2 * n + 1 + 1 by omega]
    simp only [Dg]
    rw [e, h1, h2, fold_step hP n, Nat.div_div_eq_div_mul]; omega
theorem small_fold {P m : Nat} (hP : 2 ≤ P) : ∀ (n x : Nat), Small P m (2 * n) x → Small (P * P) (2 * m) n (Em P n x + Em P n (x / P))
  | 0, _, _ => trivial
  | n + 1, x, h => by
    have e : Em P (n + 1) x + Em P (n + 1) (x / P) = (x % P + x / P % P) + P * P * (Em P n (x / (P * P)) + Em P n (x / (P * P) / P)) := by
      simp only [Em]; rw [div3, Nat.mul_add]; omega
    have hlt := two_lt hP (Nat.mod_lt x (by omega)) (Nat.mod_lt (x / P) (show P > 0 by omega))
    obtain ⟨h1, h2⟩ := split2 (b := Em P n (x / (P * P)) + Em P n (x / (P * P) / P)) hlt
    rw [show 2 * (n + 1) = 2 * n + 1 + 1 by omega] at h
    simp only [Small] at h ⊢
    rw [e, h1, h2]
    refine ⟨by omega, small_fold hP n _ ?_⟩
    have := h.2.2
    rwa [Nat.div_div_eq_div_mul] at this
theorem em_sum {P m : Nat} (hP : 2 ≤ P) (hm : 2 * m < P) : ∀ (n x : Nat), Small P m (2 * n + 1) x → Em P n (x / P + x) = Em P n x + Em P n (x / P)
  | 0, _, _ => rfl
  | n + 1, x, h => by
    rw [show 2 * (n + 1) + 1 = 2 * n + 1 + 1 + 1 by omega] at h
    simp only [Small] at h
    obtain ⟨h0, h1, h2⟩ := h
    rw [Nat.div_div_eq_div_mul] at h2
    have h2' : x / (P * P) % P ≤ m := h2.1
    have ih := em_sum hP hm n (x / (P * P)) h2
    have hP0 : 0 < P := by omega
    have ex : x = x % P + P * (x / P % P) + P * P * (x / (P * P)) := by
      have a1 := Nat.mod_add_div x P
      have a2 := Nat.mod_add_div (x / P) P
      rw [Nat.div_div_eq_div_mul] at a2
      calc x = x % P + P * (x / P) := a1.symm
        _ = x % P + P * (x / P % P + P * (x / (P * P))) := by rw [a2]
        _ = _ := by rw [Nat.mul_add, Nat.mul_assoc, Nat.add_assoc]
    have ey : x / P = x / P % P + P * (x / (P * P) % P) + P * P * (x / (P * P) / P) := by
      have a1 := Nat.mod_add_div (x / P) P
      have a2 := Nat.mod_add_div (x / (P * P)) P
      rw [Nat.div_div_eq_div_mul] at a1
      calc x / P = x / P % P + P * (x / (P * P)) := a1.symm
        _ = x / P % P + P * (x / (P * P) % P + P * (x / (P * P) / P)) := by rw [a2]
        _ = _ := by rw [Nat.mul_add, Nat.mul_assoc, Nat.add_assoc]
    have es : x / P + x = ((x % P + x / P % P) + P * (x / P % P + x / (P * P) % P)) + P * P * (x / (P * P) / P + x / (P * P)) := by
      conv => lhs; rw [ey]; rhs; rw [ex]
      rw [Nat.mul_add, Nat.mul_add]; omega
    have hs1 : x % P + x / P % P < P := by omega
    have hs2 : x / P % P + x / (P * P) % P < P := by omega
    have hlt : (x % P + x / P % P) + P * (x / P % P + x / (P * P) % P) < P * P := by
      have : P * (x / P % P + x / (P * P) % P + 1) ≤ P * P := Nat.mul_le_mul_left P (by omega)
      rw [Nat.mul_add] at this; omega
    obtain ⟨s1, s2⟩ := split2 (b := x / (P * P) / P + x / (P * P)) hlt
    have sm : (x / P + x) % P = x % P + x / P % P := by
      have : (x / P + x) % P = (x / P + x) % (P * P) % P := by rw [Nat.mod_mul_left_mod]
      rw [this, es, s1, Nat.add_mul_mod_self_left, Nat.mod_eq_of_lt hs1]
    simp only [Em]
    rw [sm, show (x / P + x) / (P * P) = x / (P * P) / P + x / (P * P) by rw [es, s2], ih, div3, Nat.mul_add]
    omega
def mask (w : Nat) : Nat → Nat
  | 0 => 0
  | n + 1 => (2 ^ w - 1) + 2 ^ w * 2 ^ w * mask w n
theorem and_mask (w : Nat) (hw : 0 < w) : ∀ (n x : Nat), x &&& mask w n = Em (2 ^ w) n x
  | 0, x => by simp [mask, Em]
  | n + 1, x => by
    have hp : 2 ^ w * 2 ^ w = 2 ^ (2 * w) := by rw [← Nat.pow_add]; congr 1; omega
    have h0 : 0 < 2 ^ w := Nat.two_pow_pos w
    have h1 : 2 ^ w - 1 < 2 ^ w * 2 ^ w := by
      have : 1 * 2 ^ w ≤ 2 ^ w * 2 ^ w := Nat.mul_le_mul_right _ h0
      omega
    obtain ⟨m1, m2⟩ := split2 (b := mask w n) h1
    simp only [mask, Em]
    rw [← Nat.mod_add_div (x &&& (2 ^ w - 1 + 2 ^ w * 2 ^ w * mask w n)) (2 ^ w * 2 ^ w)]
    rw [hp] at m1 m2 ⊢
    rw [Nat.and_mod_two_pow, Nat.and_div_two_pow, m1, m2, and_mask w hw n, Nat.and_two_pow_sub_one_eq_mod, ← hp, Nat.mod_mul_left_mod, hp]
theorem small_of (P m : Nat) (hP : 0 < P) (hm : P ≤ m + 1) : ∀ n x, Small P m n x
  | 0, _ => trivial
  | n + 1, x => ⟨by have := Nat.mod_lt x hP; omega, small_of P m hP hm n _⟩
/-- How many of n bits are ones. -/
def pop : Nat → Nat → Nat
  | 0, _ => 0
  | n + 1, x => x % 2 + pop n (x / 2)
theorem pop_dg : ∀ n x, pop n x = Dg 2 n x
  | 0, _ => rfl
  | n + 1, x => by simp only [pop, Dg, pop_dg n]
theorem small_zero {P m : Nat} : ∀ n, Small P m n 0
  | 0 => trivial
  | n + 1 => ⟨by simp, by rw [Nat.zero_div]; exact small_zero n⟩
theorem small_more {P m : Nat} (hP : 1 < P) : ∀ (n k x : Nat), x < P ^ n → Small P m n x → Small P m (n + k) x
  | 0, k, x, hx, _ => by
    have : x = 0 := by simpa using hx
    subst this; exact small_zero _
  | n + 1, k, x, hx, h => by
    rw [show n + 1 + k = (n + k) + 1 by omega]
    refine ⟨h.1, small_more hP n k _ ?_ h.2⟩
    rw [Nat.div_lt_iff_lt_mul (by omega), ← Nat.pow_succ]; exact hx
theorem em_lt {P : Nat} (hP : 0 < P) : ∀ n x, Em P n x < (P * P) ^ n
  | 0, _ => by simp [Em]
  | n + 1, x => by
    have ih := em_lt hP n (x / (P * P))
    have h1 := Nat.mod_lt x hP
    have h2 : P ≤ P * P := by have : 1 * P ≤ P * P := Nat.mul_le_mul_right _ hP; omega
    simp only [Em, Nat.pow_succ]
    have : P * P * (Em P n (x / (P * P)) + 1) ≤ P * P * (P * P) ^ n := Nat.mul_le_mul_left _ ih
    rw [Nat.mul_add, Nat.mul_comm (P * P) ((P * P) ^ n)] at this
    omega
/-- The sum by folding. -/
def fold64 (x : Nat) : Nat :=
  let a := (x / 2 &&& 0x5555555555555555) + (x &&& 0x5555555555555555)
  let b := (a / 4 &&& 0x3333333333333333) + (a &&& 0x3333333333333333)
  (b / 16 + b) &&& 0x0f0f0f0f0f0f0f0f
theorem fold64_spec (x : Nat) (hx : x < 2 ^ 64) : Small 256 8 8 (fold64 x) ∧ Dg 256 8 (fold64 x) = pop 64 x ∧ fold64 x < 2 ^ 64 := by
  have m1 : mask 1 32 = 0x5555555555555555 := by decide
  have m2 : mask 2 16 = 0x3333333333333333 := by decide
  have m3 : mask 4 8 = 0x0f0f0f0f0f0f0f0f := by decide
  simp only [fold64]
  rw [← m1, ← m2, ← m3, and_mask 1 (by omega), and_mask 1 (by omega), and_mask 2 (by omega), and_mask 2 (by omega), and_mask 4 (by omega)]
  simp only [show 2 ^ 1 = 2 by rfl, show 2 ^ 2 = 4 by rfl, show 2 ^ 4 = 16 by rfl]
  rw [Nat.add_comm (Em 2 32 (x / 2))]
  have f1 := fold_step (P := 2) (by omega) 32 x
  have s1 := small_fold (P := 2) (m := 1) (by omega) 32 x (small_of 2 1 (by omega) (by omega) _ _)
  generalize ha : Em 2 32 x + Em 2 32 (x / 2) = a at f1 s1 ⊢
  rw [Nat.add_comm (Em 4 16 (a / 4))]
  have f2 := fold_step (P := 4) (by omega) 16 a
  have s2 := small_fold (P := 4) (m := 2) (by omega) 16 a s1
  generalize hb : Em 4 16 a + Em 4 16 (a / 4) = b at f2 s2 ⊢
  have lb : b < 16 ^ 17 := by
    have h1 := em_lt (P := 4) (by omega) 16 a
    have h2 := em_lt (P := 4) (by omega) 16 (a / 4)
    have : (4 * 4) ^ 16 + (4 * 4) ^ 16 ≤ 16 ^ 17 := by decide
    omega
  have lb16 : b < 16 ^ 16 := by
    -- its digits are small, and there are sixteen
    have hd : b / 16 ^ 16 = 0 := by
      have h1 := em_lt (P := 4) (by omega) 16 a
      have h2 := em_lt (P := 4) (by omega) 16 (a / 4)
      have key : ∀ (n u v : Nat), (Em 4 n u + Em 4 n v) / (4 * 4) ^ n = 0 := by
        intro n
        induction n with
        | zero => intro u v; simp [Em]
        | succ n ih =>
          intro u v
          have e : Em 4 (n + 1) u + Em 4 (n + 1) v = (u % 4 + v % 4) + 4 * 4 * (Em 4 n (u / (4 * 4)) + Em 4 n (v / (4 * 4))) := by simp only [Em]; omega
          have hlt : u % 4 + v % 4 < 4 * 4 := by omega
          rw [e, Nat.pow_succ, Nat.mul_comm ((4 * 4) ^ n), ← Nat.div_div_eq_div_mul, (split2 hlt).2]
          exact ih _ _
      have := key 16 a (a / 4)
      rw [hb] at this
      exact this
    have := Nat.div_add_mod b (16 ^ 16)
    have := Nat.mod_lt b (show 16 ^ 16 > 0 by decide)
    omega
  have s3 := em_sum (P := 16) (m := 4) (by omega) (by omega) 8 b (small_more (by omega) 16 1 b lb16 s2)
  rw [s3]
  refine ⟨small_fold (P := 16) (m := 4) (by omega) 8 b s2, ?_, ?_⟩
  · rw [fold_step (P := 16) (by omega) 8 b, f2, f1, pop_dg]
  · have h1 := em_lt (P := 16) (by omega) 8 (b / 16 + b)
    rw [s3] at h1
    have : (16 * 16) ^ 8 = 2 ^ 64 := by decide
    omega
theorem pop_le : ∀ n x, pop n x ≤ n
  | 0, _ => Nat.le_refl _
  | n + 1, x => by simp only [pop]; have := pop_le n (x / 2); omega
theorem div_of {a b m : Nat} (ha : a < m) : (a + m * b) / m = b := by rw [Nat.add_mul_div_left _ _ (by omega), Nat.div_eq_of_lt ha, Nat.zero_add]
/-- Eight digits, each at most eight. -/
def eight (x0 x1 x2 x3 x4 x5 x6 x7 : Nat) : Nat := x0 + 256 * (x1 + 256 * (x2 + 256 * (x3 + 256 * (x4 + 256 * (x5 + 256 * (x6 + 256 * x7))))))
theorem eight_div1 (x0 x1 x2 x3 x4 x5 x6 x7 : Nat) (h : x0 < 256) : eight x0 x1 x2 x3 x4 x5 x6 x7 / 256 = eight x1 x2 x3 x4 x5 x6 x7 0 := by
  unfold eight; rw [div_of h, Nat.mul_zero, Nat.add_zero]
theorem eight_add (x0 x1 x2 x3 x4 x5 x6 x7 y0 y1 y2 y3 y4 y5 y6 y7 : Nat) : eight x0 x1 x2 x3 x4 x5 x6 x7 + eight y0 y1 y2 y3 y4 y5 y6 y7 = eight (x0 + y0) (x1 + y1) (x2 + y2) (x3 + y3) (x4 + y4) (x5 + y5) (x6 + y6) (x7 + y7) := by
  unfold eight; omega
theorem eight_lt (x0 x1 x2 x3 x4 x5 x6 x7 : Nat) (h0 : x0 < 256) (h1 : x1 < 256) (h2 : x2 < 256) (h3 : x3 < 256) (h4 : x4 < 256) (h5 : x5 < 256) (h6 : x6 < 256) (h7 : x7 < 256) : eight x0 x1 x2 x3 x4 x5 x6 x7 < 18446744073709551616 := by
  unfold eight; omega
theorem eight_of {z : Nat} (hz : z < 2 ^ 64) : z = eight (z % 256) (z / 256 % 256) (z / 256 / 256 % 256) (z / 256 / 256 / 256 % 256) (z / 256 / 256 / 256 / 256 % 256) (z / 256 / 256 / 256 / 256 / 256 % 256) (z / 256 / 256 / 256 / 256 / 256 / 256 % 256) (z / 256 / 256 / 256 / 256 / 256 / 256 / 256 % 256) := by
  have step : ∀ x : Nat, x = x % 256 + 256 * (x / 256) := fun x => (Nat.mod_add_div x 256).symm
  have last : z / 256 / 256 / 256 / 256 / 256 / 256 / 256 % 256 = z / 256 / 256 / 256 / 256 / 256 / 256 / 256 := by
    rw [Nat.mod_eq_of_lt]
    simp only [Nat.div_div_eq_div_mul]
    exact Nat.div_lt_of_lt_mul (by simpa using hz)
  unfold eight
  rw [last, ← step, ← step, ← step, ← step, ← step, ← step, ← step]
theorem last_eight (x0 x1 x2 x3 x4 x5 x6 x7 : Nat) (h0 : x0 ≤ 8) (h1 : x1 ≤ 8) (h2 : x2 ≤ 8) (h3 : x3 ≤ 8) (h4 : x4 ≤ 8) (h5 : x5 ≤ 8) (h6 : x6 ≤ 8) (h7 : x7 ≤ 8) {z c d : Nat} (hz : z = eight x0 x1 x2 x3 x4 x5 x6 x7) (hc : c = z + z / 256) (hd : d = c + c / 256 / 256) :
    (d + d / 256 / 256 / 256 / 256) % 128 = x0 + x1 + x2 + x3 + x4 + x5 + x6 + x7 ∧ d + d / 256 / 256 / 256 / 256 < 18446744073709551616 ∧ d < 18446744073709551616 ∧ c < 18446744073709551616 := by
  rw [hz, eight_div1 _ _ _ _ _ _ _ _ (by omega), eight_add] at hc
  rw [hc, eight_div1 _ _ _ _ _ _ _ _ (by omega), eight_div1 _ _ _ _ _ _ _ _ (by omega), eight_add] at hd
  obtain ⟨f, e⟩ : ∃ f, d + d / 256 / 256 / 256 / 256 = f := ⟨_, rfl⟩
  rw [e]
  rw [hd, eight_div1 _ _ _ _ _ _ _ _ (by omega), eight_div1 _ _ _ _ _ _ _ _ (by omega), eight_div1 _ _ _ _ _ _ _ _ (by omega), eight_div1 _ _ _ _ _ _ _ _ (by omega), eight_add] at e
  clear hz
  refine ⟨?_, ?_, ?_, ?_⟩
  · rw [← e]
    unfold eight
    rw [show ∀ a b : Nat, a + 256 * b = a + 128 * (2 * b) from fun a b => by omega, Nat.add_mul_mod_self_left, Nat.mod_eq_of_lt (by omega)]
    omega
  · rw [← e]; exact eight_lt _ _ _ _ _ _ _ _ (by omega) (by omega) (by omega) (by omega) (by omega) (by omega) (by omega) (by omega)
  · rw [hd]; exact eight_lt _ _ _ _ _ _ _ _ (by omega) (by omega) (by omega) (by omega) (by omega) (by omega) (by omega) (by omega)
  · rw [hc]; exact eight_lt _ _ _ _ _ _ _ _ (by omega) (by omega) (by omega) (by omega) (by omega) (by omega) (by omega) (by omega)
theorem last_sum {z : Nat} (h : Small 256 8 8 z) (hz : z < 2 ^ 64) {c d : Nat} (hc : c = z + z / 256) (hd : d = c + c / 65536) :
    (d + d / 4294967296) % 128 = Dg 256 8 z ∧ d + d / 4294967296 < 18446744073709551616 ∧ d < 18446744073709551616 ∧ c < 18446744073709551616 := by
  obtain ⟨h0, h1, h2, h3, h4, h5, h6, h7, _⟩ := h
  have hd' : d = c + c / 256 / 256 := by rw [hd, Nat.div_div_eq_div_mul]
  have := last_eight _ _ _ _ _ _ _ _ h0 h1 h2 h3 h4 h5 h6 h7 (eight_of hz) hc hd'
  rw [show d / 4294967296 = d / 256 / 256 / 256 / 256 by simp only [Nat.div_div_eq_div_mul]]
  refine ⟨?_, this.2⟩
  rw [this.1]
  simp only [Dg]
  omega
end Go.Ab.Pop

/- A row of numbers by its bits, level by level. Plain Lean, no program. -/
namespace Go.Ab.Bs
open Go.Ab.Wd
set_option linter.unusedVariables false
set_option linter.unusedSimpArgs false
/-- The bit k of a number. -/
def bitb (k : Nat) (x : Int) : Bool := decide (x.toNat / 2 ^ k % 2 = 1)
def low (k : Nat) (l : List Int) : List Int := l.filter fun x => !bitb k x
def high (k : Nat) (l : List Int) : List Int := l.filter (bitb k)
def down (k : Nat) (l : List Int) : List Int := low k l ++ high k l
/-- The bits of the levels, from the highest one on. -/
def levels : Nat → List Int → List (List Bool)
  | 0, _ => []
  | k + 1, l => l.map (bitb k) :: levels k (down k l)
theorem low_length (k : Nat) (l : List Int) : (low k l).length + (high k l).length = l.length := by
  induction l with
  | nil => rfl
  | cons x l ih =>
    unfold low high at ih ⊢
    cases h : bitb k x <;> simp [h] <;> omega
theorem down_length (k : Nat) (l : List Int) : (down k l).length = l.length := by unfold down; rw [List.length_append, low_length]
theorem down_mem {k : Nat} {l : List Int} {x : Int} : x ∈ down k l ↔ x ∈ l := by
  unfold down low high
  rw [List.mem_append, List.mem_filter, List.mem_filter]
  cases h : bitb k x <;> simp
theorem levels_length : ∀ (w : Nat) (l : List Int), (levels w l).length = w
  | 0, _ => rfl
  | k + 1, l => by simp [levels, levels_length k]
/-- The row ahead of a level: row w l w = l, row w l k: what is behind the levels w-1 .. k. -/
def rowAt : Nat → List Int → Nat → List Int
  | 0, l, _ => l
  | w + 1, l, k => if k = w + 1 then l else rowAt w (down w l) k
theorem rowAt_top (w : Nat) (l : List Int) : rowAt w l w = l := by cases w <;> simp [rowAt]
theorem rowAt_step : ∀ (w : Nat) (l : List Int) (k : Nat), k < w → rowAt w l k = down k (rowAt w l (k + 1))
  | 0, _, _, h => by omega
  | w + 1, l, k, h => by
    by_cases c : k = w
    · subst c
      rw [rowAt, if_neg (by omega), rowAt_top, rowAt, if_pos rfl]
    · rw [rowAt, if_neg (by omega), rowAt, if_neg (by omega)]
      exact rowAt_step w _ k (by omega)
theorem levels_get : ∀ (w : Nat) (l : List Int) (i : Nat), i < w → (levels w l)[i]? = some ((rowAt w l (w - i)).map (bitb (w - i - 1)))
  | 0, _, _, h => by omega
  | w + 1, l, 0, _ => by simp [levels, rowAt]
  | w + 1, l, i + 1, h => by
    rw [levels, List.getElem?_cons_succ, levels_get w _ i (by omega), rowAt, if_neg (by omega)]
    congr 3 <;> omega
theorem rowAt_length (w : Nat) (l : List Int) (k : Nat) : (rowAt w l k).length = l.length := by
  induction w generalizing l with
  | zero => rfl
  | succ w ih =>
    rw [rowAt]
    split
    · rfl
    · rw [ih, down_length]
theorem rowAt_mem (w : Nat) (l : List Int) (k : Nat) (x : Int) : x ∈ rowAt w l k ↔ x ∈ l := by
  induction w generalizing l with
  | zero => rfl
  | succ w ih =>
    rw [rowAt]
    split
    · rfl
    · rw [ih, down_mem]
/-! ### parts of a row -/
/-- A part stands in a row from a place on. -/
def Part (r : List Int) (a : Nat) (s : List Int) : Prop := ∃ x y, r = x ++ s ++ y ∧ x.length = a
theorem Part.whole (r : List Int) : Part r 0 r := ⟨[], [], by simp, rfl⟩
theorem Part.le {r s : List Int} {a : Nat} (h : Part r a s) : a + s.length ≤ r.length := by obtain ⟨x, y, rfl, rfl⟩ := h; simp
theorem Part.get {r s : List Int} {a i : Nat} (h : Part r a s) (hi : i < s.length) : r[a + i]? = s[i]? := by
  obtain ⟨x, y, rfl, rfl⟩ := h
  rw [List.append_assoc, List.getElem?_append_right (by omega), Nat.add_sub_cancel_left, List.getElem?_append_left hi]
theorem Part.of_take {r : List Int} {a b : Nat} (hab : a ≤ b) (hb : b ≤ r.length) : Part r a ((r.take b).drop a) :=
  ⟨r.take a, r.drop b, by
    have e1 : r.take b = r.take a ++ (r.take b).drop a := by
      conv => lhs; rw [← List.take_append_drop a (r.take b)]
      rw [List.take_take, Nat.min_eq_left hab]
    rw [← e1, List.take_append_drop], by simp; omega⟩
/-- How many ones, noughts stand ahead of a place. -/
def onesTo (b : List Bool) (i : Nat) : Nat := ((b.take i).filter id).length
def zerosTo (b : List Bool) (i : Nat) : Nat := min i b.length - onesTo b i
theorem onesTo_map (k : Nat) (r : List Int) (i : Nat) : onesTo (r.map (bitb k)) i = (high k (r.take i)).length := by
  unfold onesTo high
  rw [← List.map_take, List.filter_map, List.length_map]; rfl
theorem zerosTo_map (k : Nat) (r : List Int) (i : Nat) : zerosTo (r.map (bitb k)) i = (low k (r.take i)).length := by
  unfold zerosTo
  rw [onesTo_map, List.length_map]
  have := low_length k (r.take i)
  rw [List.length_take] at this
  omega
/-- Where a place of a level leads. -/
def goto (b : List Bool) (i : Nat) (one : Bool) : Nat := if one = true then zerosTo b b.length + onesTo b i else zerosTo b i
theorem Part.down {r s : List Int} {a : Nat} (h : Part r a s) (k : Nat) (one : Bool) :
    Part (down k r) (goto (r.map (bitb k)) a one) (s.filter fun x => bitb k x == one) ∧
      goto (r.map (bitb k)) (a + s.length) one = goto (r.map (bitb k)) a one + (s.filter fun x => bitb k x == one).length := by
  obtain ⟨x, y, rfl, rfl⟩ := h
  have e1 : (x ++ s ++ y).take x.length = x := by rw [List.append_assoc, List.take_left']; rfl
  have e2 : (x ++ s ++ y).take (x.length + s.length) = x ++ s := by rw [List.take_left']; simp
  cases one with
  | false =>
    simp only [goto, Bool.false_eq_true, if_false, zerosTo_map, e1, e2]
    have hl : (s.filter fun x => bitb k x == false) = low k s := by unfold low; congr 1; funext z; cases bitb k z <;> rfl
    rw [hl]
    refine ⟨⟨low k x, low k y ++ high k (x ++ s ++ y), by simp [Bs.down, low], rfl⟩, by simp [low]⟩
  | true =>
    simp only [goto, if_true, zerosTo_map, onesTo_map, e1, e2, List.length_map, List.take_length]
    have hl : (s.filter fun x => bitb k x == true) = high k s := by unfold high; congr 1; funext z; cases bitb k z <;> rfl
    rw [hl]
    refine ⟨⟨low k (x ++ s ++ y) ++ high k x, high k y, by simp [Bs.down, high], by simp⟩, by simp [high]; omega⟩
/-- The upper bits agree. -/
def alike (k : Nat) (c x : Int) : Bool := decide (x.toNat / 2 ^ k = c.toNat / 2 ^ k)
theorem alike_step (k : Nat) (c x : Int) : alike k c x = (alike (k + 1) c x && (bitb k x == bitb k c)) := by
  unfold alike bitb
  have e1 : x.toNat / 2 ^ (k + 1) = x.toNat / 2 ^ k / 2 := by rw [Nat.pow_succ, Nat.div_div_eq_div_mul]
  have e2 : c.toNat / 2 ^ (k + 1) = c.toNat / 2 ^ k / 2 := by rw [Nat.pow_succ, Nat.div_div_eq_div_mul]
  rw [e1, e2]
  generalize x.toNat / 2 ^ k = u
  generalize c.toNat / 2 ^ k = v
  have : (decide (u % 2 = 1) == decide (v % 2 = 1)) = decide (u % 2 = v % 2) := by
    rcases Nat.mod_two_eq_zero_or_one u with h1 | h1 <;> rcases Nat.mod_two_eq_zero_or_one v with h2 | h2 <;> simp [h1, h2]
  rw [this, ← Bool.decide_and]
  congr 1
  exact propext (by omega)
theorem alike_top {w : Nat} {c x : Int} (hx : x.toNat < 2 ^ w) (hc : c.toNat < 2 ^ w) : alike w c x = true := by
  unfold alike
  rw [Nat.div_eq_of_lt hx, Nat.div_eq_of_lt hc]; simp
theorem alike_zero {c x : Int} (hx : 0 ≤ x) (hc : 0 ≤ c) : alike 0 c x = decide (x = c) := by
  unfold alike
  simp only [Nat.pow_zero, Nat.div_one]
  congr 1
  exact propext (by omega)
/-- Going down along the bits of c: what is left of a part is what agrees with c. -/
theorem Part.path {w : Nat} {l s : List Int} {a k : Nat} {c : Int} (hk : k < w) (h : Part (rowAt w l (k + 1)) a (s.filter (alike (k + 1) c))) :
    Part (rowAt w l k) (goto ((rowAt w l (k + 1)).map (bitb k)) a (bitb k c)) (s.filter (alike k c)) ∧
      goto ((rowAt w l (k + 1)).map (bitb k)) (a + (s.filter (alike (k + 1) c)).length) (bitb k c) = goto ((rowAt w l (k + 1)).map (bitb k)) a (bitb k c) + (s.filter (alike k c)).length := by
  have h1 := h.down k (bitb k c)
  rw [List.filter_filter] at h1
  have e : (fun a => (bitb k a == bitb k c) && alike (k + 1) c a) = alike k c := by funext x; rw [alike_step k c x, Bool.and_comm]
  rw [e] at h1
  rw [rowAt_step w l k hk]
  exact h1
end Go.Ab.Bs

/- The count of ones of a word; numbers of words. -/
namespace Go.Ab
open Go Go.Proofs Go.Ab.Wd Go.Ab.Bs Go.Ab.Sai
set_option linter.unusedVariables false
set_option linter.unusedSimpArgs false
theorem wrapu64 {x : Int} (h0 : 0 ≤ x) (h1 : x < 18446744073709551616) : IntKind.wrap .u64 x = x := by
  unfold IntKind.wrap
  have e2 : (2 : Int) ^ IntKind.u64.bits = 18446744073709551616 := by decide
  simp [e2, IntKind.signed]; omega
theorem and_u64 {a b : Nat} (ha : a < 18446744073709551616) (hb : b < 18446744073709551616) : bitOp .and .u64 (a : Int) (b : Int) = ((a &&& b : Nat) : Int) := by
  have e : IntKind.u64.bits = 64 := by decide
  have h : a &&& b < 18446744073709551616 := Nat.lt_of_le_of_lt Nat.and_le_left ha
  unfold bitOp; simp only [e, BitVec.ofInt_natCast, BitVec.toNat_and, BitVec.toNat_ofNat]
  rw [Nat.mod_eq_of_lt (by simpa using ha), Nat.mod_eq_of_lt (by simpa using hb), wrapu64 (by omega) (by omega)]
theorem or_u64 {a b : Nat} (ha : a < 18446744073709551616) (hb : b < 18446744073709551616) : bitOp .or .u64 (a : Int) (b : Int) = ((a ||| b : Nat) : Int) := by
  have e : IntKind.u64.bits = 64 := by decide
  have h : a ||| b < 2 ^ 64 := Nat.or_lt_two_pow (by simpa using ha) (by simpa using hb)
  unfold bitOp; simp only [e, BitVec.ofInt_natCast, BitVec.toNat_or, BitVec.toNat_ofNat]
  rw [Nat.mod_eq_of_lt (by simpa using ha), Nat.mod_eq_of_lt (by simpa using hb), wrapu64 (by omega) (by omega)]
theorem shr_u64 {a s : Nat} (hs : s ≤ 64) : shrI .u64 (a : Int) (s : Int) = ((a / 2 ^ s : Nat) : Int) := by
  have e : IntKind.u64.bits = 64 := by decide
  unfold shrI
  rw [e, Int.toNat_natCast, Nat.min_eq_left hs, Int.fdiv_eq_ediv_of_nonneg _ (Int.le_of_lt (Int.pow_pos (by omega)))]
  simp
theorem wrap_bits (s : Nat) : BitVec.ofInt 64 (IntKind.wrap .i64 (s : Int)) = BitVec.ofNat 64 s := by
  apply BitVec.eq_of_toNat_eq
  rw [BitVec.toNat_ofInt, BitVec.toNat_ofNat]
  unfold IntKind.wrap
  have e1 : (2 : Int) ^ IntKind.i64.bits = 18446744073709551616 := by decide
  have e3 : (2 : Int) ^ (IntKind.i64.bits - 1) = 9223372036854775808 := by decide
  simp only [e1, e3, IntKind.signed]
  simp
  split <;> omega
theorem and_127 {s : Nat} : bitOp .and .i64 (IntKind.wrap .i64 (s : Int)) 127 = ((s % 128 : Nat) : Int) := by
  have e : IntKind.i64.bits = 64 := by decide
  show IntKind.wrap .i64 (BitVec.ofInt 64 (IntKind.wrap .i64 (s : Int)) &&& BitVec.ofInt 64 127).toNat = _
  rw [wrap_bits]
  have h : (BitVec.ofNat 64 s &&& BitVec.ofInt 64 127).toNat = s % 128 := by
    rw [BitVec.toNat_and, BitVec.toNat_ofNat, show (BitVec.ofInt 64 127).toNat = 2 ^ 7 - 1 by decide, Nat.and_two_pow_sub_one_eq_mod]
    omega
  rw [h, wrap64 (by omega) (by omega)]
theorem count_run (σ : Store) {x : Nat} (hx : x < 2 ^ 64) : Runs Try.prog 90 [.int .u64 x] σ (.int .i64 (Pop.pop 64 x : Nat)) σ := by
  refine Runs.intro (fn := Try.f90) (by kernel_rfl) (by kernel_rfl) (Ev.of fun k => ?_)
  rw [f90_eq]
  obtain ⟨F1, F2, F3⟩ := Pop.fold64_spec x hx
  obtain ⟨a, ha⟩ : ∃ a, a = (x / 2 &&& 0x5555555555555555) + (x &&& 0x5555555555555555) := ⟨_, rfl⟩
  obtain ⟨b, hb⟩ : ∃ b, b = (a / 4 &&& 0x3333333333333333) + (a &&& 0x3333333333333333) := ⟨_, rfl⟩
  obtain ⟨z, hz⟩ : ∃ z, z = (b / 16 + b) &&& 0x0f0f0f0f0f0f0f0f := ⟨_, rfl⟩
  have ez : Pop.fold64 x = z := by rw [hz, hb, ha]; rfl
  rw [ez] at F1 F2 F3
  obtain ⟨c, hc⟩ : ∃ c, c = z + z / 256 := ⟨_, rfl⟩
  obtain ⟨d, hd⟩ : ∃ d, d = c + c / 65536 := ⟨_, rfl⟩
  obtain ⟨L1, L2, L3, L4⟩ := Pop.last_sum F1 F3 hc hd
  have a1 : x / 2 &&& 0x5555555555555555 ≤ 0x5555555555555555 := Nat.and_le_right
  have a2 : x &&& 0x5555555555555555 ≤ 0x5555555555555555 := Nat.and_le_right
  have b1 : a / 4 &&& 0x3333333333333333 ≤ 0x3333333333333333 := Nat.and_le_right
  have b2 : a &&& 0x3333333333333333 ≤ 0x3333333333333333 := Nat.and_le_right
  have s1 : shrI .u64 (x : Int) 1 = ((x / 2 : Nat) : Int) := shr_u64 (s := 1) (by omega)
  have s2 : shrI .u64 (a : Int) 2 = ((a / 4 : Nat) : Int) := shr_u64 (s := 2) (by omega)
  have s4 : shrI .u64 (b : Int) 4 = ((b / 16 : Nat) : Int) := shr_u64 (s := 4) (by omega)
  have s8 : shrI .u64 (z : Int) 8 = ((z / 256 : Nat) : Int) := shr_u64 (s := 8) (by omega)
  have s16 : shrI .u64 (c : Int) 16 = ((c / 65536 : Nat) : Int) := shr_u64 (s := 16) (by omega)
  have s32 : shrI .u64 (d : Int) 32 = ((d / 4294967296 : Nat) : Int) := shr_u64 (s := 32) (by omega)
  have e1 : IntKind.wrap .u64 (bitOp .and .u64 (shrI .u64 (x : Int) 1) 6148914691236517205 + bitOp .and .u64 (x : Int) 6148914691236517205) = (a : Int) := by
    have q1 : bitOp .and .u64 ((x / 2 : Nat) : Int) 6148914691236517205 = ((x / 2 &&& 0x5555555555555555 : Nat) : Int) := and_u64 (b := 6148914691236517205) (by omega) (by omega)
    have q2 : bitOp .and .u64 (x : Int) 6148914691236517205 = ((x &&& 0x5555555555555555 : Nat) : Int) := and_u64 (b := 6148914691236517205) (by omega) (by omega)
    rw [s1, q1, q2, wrapu64 (by omega) (by omega), ha]; omega
  have e2 : IntKind.wrap .u64 (bitOp .and .u64 (shrI .u64 (a : Int) 2) 3689348814741910323 + bitOp .and .u64 (a : Int) 3689348814741910323) = (b : Int) := by
    have q1 : bitOp .and .u64 ((a / 4 : Nat) : Int) 3689348814741910323 = ((a / 4 &&& 0x3333333333333333 : Nat) : Int) := and_u64 (b := 3689348814741910323) (by omega) (by omega)
    have q2 : bitOp .and .u64 (a : Int) 3689348814741910323 = ((a &&& 0x3333333333333333 : Nat) : Int) := and_u64 (b := 3689348814741910323) (by omega) (by omega)
    rw [s2, q1, q2, wrapu64 (by omega) (by omega), hb]; omega
  have e3 : bitOp .and .u64 (IntKind.wrap .u64 (shrI .u64 (b : Int) 4 + (b : Int))) 1085102592571150095 = (z : Int) := by
    rw [s4, wrapu64 (by omega) (by omega), ← Int.natCast_add, hz]
    exact and_u64 (b := 1085102592571150095) (by omega) (by omega)
  have e4 : IntKind.wrap .u64 ((z : Int) + shrI .u64 (z : Int) 8) = (c : Int) := by rw [s8, wrapu64 (by omega) (by omega)]; omega
  have e5 : IntKind.wrap .u64 ((c : Int) + shrI .u64 (c : Int) 16) = (d : Int) := by rw [s16, wrapu64 (by omega) (by omega)]; omega
  have e6 : IntKind.wrap .u64 ((d : Int) + shrI .u64 (d : Int) 32) = ((d + d / 4294967296 : Nat) : Int) := by rw [s32, wrapu64 (by omega) (by omega)]; omega
  simp only [e1, e2, e3, e4, e5, e6, and_127]
  rw [L1, F2]
end Go.Ab

/- Bits in words. -/
namespace Go.Ab.Bs
open Go.Ab.Wd
set_option linter.unusedVariables false
set_option linter.unusedSimpArgs false
/-- A bit at a place; past the end: none. -/
def bitAt (B : List Bool) (i : Nat) : Bool := B[i]?.getD false
theorem onesTo_succ (B : List Bool) (i : Nat) : onesTo B (i + 1) = onesTo B i + if bitAt B i = true then 1 else 0 := by
  unfold onesTo bitAt
  rw [List.take_add_one]
  cases h : B[i]? with
  | none => simp
  | some b => cases b <;> simp
theorem onesTo_zero (B : List Bool) : onesTo B 0 = 0 := by simp [onesTo]
theorem onesTo_le (B : List Bool) (i : Nat) : onesTo B i ≤ i := by
  unfold onesTo; have := List.length_filter_le id (B.take i); rw [List.length_take] at this; omega
theorem onesTo_len (B : List Bool) (i : Nat) : onesTo B i ≤ B.length := by
  unfold onesTo; have := List.length_filter_le id (B.take i); rw [List.length_take] at this; omega
theorem onesTo_ge (B : List Bool) {i : Nat} (h : B.length ≤ i) : onesTo B i = onesTo B B.length := by
  unfold onesTo; rw [List.take_of_length_le h, List.take_of_length_le (Nat.le_refl _)]
theorem onesTo_mono (B : List Bool) {i j : Nat} (h : i ≤ j) : onesTo B i ≤ onesTo B j := by
  induction j with
  | zero => rw [show i = 0 by omega]; exact Nat.le_refl _
  | succ j ih =>
    by_cases c : i = j + 1
    · rw [c]; exact Nat.le_refl _
    · have := ih (by omega); rw [onesTo_succ]; omega
theorem pop_succ : ∀ (s x : Nat), Pop.pop (s + 1) x = Pop.pop s x + if x.testBit s = true then 1 else 0
  | 0, x => by
    simp only [Pop.pop, Nat.add_zero, Nat.zero_add, Nat.testBit_zero]
    rcases Nat.mod_two_eq_zero_or_one x with h | h <;> simp [h]
  | s + 1, x => by
    rw [Pop.pop, pop_succ s (x / 2), Pop.pop, Nat.testBit_succ]; omega
/-- Words hold bits. -/
structure WB (B : List Bool) (ws : List Int) : Prop where
  len : ws.length = (B.length + 63) / 64
  bit : ∀ j : Nat, j < ws.length → ∃ x : Nat, rd ws j = x ∧ x < 2 ^ 64 ∧ ∀ b, b < 64 → x.testBit b = bitAt B (64 * j + b)
theorem ones_pop {B : List Bool} {x j : Nat} (h : ∀ b, b < 64 → x.testBit b = bitAt B (64 * j + b)) : ∀ s, s ≤ 64 → onesTo B (64 * j + s) = onesTo B (64 * j) + Pop.pop s x
  | 0, _ => by simp [Pop.pop]
  | s + 1, hs => by
    rw [← Nat.add_assoc, onesTo_succ, ones_pop h s (by omega), pop_succ, h s (by omega)]; omega
theorem pop_low {x s : Nat} : ∀ t, Pop.pop t (x &&& (2 ^ s - 1)) = Pop.pop (min t s) x
  | 0 => by simp [Pop.pop]
  | t + 1 => by
    rw [pop_succ, pop_low t, Nat.testBit_and, Nat.testBit_two_pow_sub_one]
    by_cases c : t < s
    · rw [show min (t + 1) s = min t s + 1 by omega, pop_succ, show min t s = t by omega]; simp [c]
    · rw [show min (t + 1) s = min t s by omega]; simp [c]
/-- Sums ahead of blocks. -/
structure AH (B : List Bool) (ws ah : List Int) : Prop where
  len : ah.length = (ws.length + 7) / 8
  val : ∀ j : Nat, j < ah.length → rd ah j = (onesTo B (512 * j) : Nat)
theorem testBit_div (x s : Nat) : x.testBit s = decide (x / 2 ^ s % 2 = 1) := Nat.testBit_eq_decide_div_mod_eq
theorem zerosTo_ge (B : List Bool) {i : Nat} (h : B.length ≤ i) : zerosTo B i = zerosTo B B.length := by
  unfold zerosTo; rw [onesTo_ge B h]; omega
end Go.Ab.Bs

/- A list of bits with its counts: rank, at. -/
namespace Go.Ab
open Go Go.Proofs Go.Ab.Wd Go.Ab.Bs Go.Ab.Sai
set_option linter.unusedVariables false
set_option linter.unusedSimpArgs false
section
variable {σ : Store} {b es o : Nat} {l : List AV}
theorem row_int {k : IntKind} {x : Int} (r : σ.Row b es l) (h : l[o]? = some (.int k x)) : σ.ldInt k (Ptr.add (some (b, 0)) o) = some x := by
  simp only [Store.ldInt, Ptr.add, Option.map_some, r.cell, Nat.zero_add, h, if_true]
theorem row_sl {x : Hdl} (r : σ.Row b es l) (h : l[o]? = some (.slice x)) : σ.ldSl (Ptr.add (some (b, 0)) o) = some x := by
  simp only [Store.ldSl, Ptr.add, Option.map_some, r.cell, Nat.zero_add, h]
end
/-- A list of bits in memory. -/
structure Vec (σ : Store) (p : Ptr) (B : List Bool) : Prop where
  ex : ∃ b hw ha ws ah, p = some (b, 0) ∧ σ.Row b 4 [.int .i64 B.length, .slice hw, .slice ha, .int .i64 (onesTo B B.length : Nat)] ∧ Store.Nums .u64 σ hw ws ∧ σ.Ints ha ah ∧ WB B ws ∧ AH B ws ah
  small : B.length < 2 ^ 30
theorem Vec.kp {σ σ' : Store} {p : Ptr} {B : List Bool} (v : Vec σ p B) (k : Kp σ.objs.length σ σ') : Vec σ' p B := by
  obtain ⟨b, hw, ha, ws, ah, rfl, R, W, A, wb, ab⟩ := v.ex
  exact ⟨⟨b, hw, ha, ws, ah, rfl, R.kp k R.lt, Store.Sl.kp W k, Store.Sl.kp A k, wb, ab⟩, v.small⟩
/-- The rows of a list of bits are among some. -/
structure VecF (σ : Store) (p : Ptr) (B : List Bool) (F : Nat → Prop) : Prop where
  ex : ∃ b hw ha ws ah, p = some (b, 0) ∧ σ.Row b 4 [.int .i64 B.length, .slice hw, .slice ha, .int .i64 (onesTo B B.length : Nat)] ∧ Store.Nums .u64 σ hw ws ∧ σ.Ints ha ah ∧ WB B ws ∧ AH B ws ah ∧ F b ∧ (∀ x, hw.row = some x → F x) ∧ ∀ x, ha.row = some x → F x
  small : B.length < 2 ^ 30
theorem VecF.vec {σ : Store} {p : Ptr} {B : List Bool} {F : Nat → Prop} (v : VecF σ p B F) : Vec σ p B := by
  obtain ⟨b, hw, ha, ws, ah, rfl, R, W, A, wb, ab, _, _, _⟩ := v.ex
  exact ⟨⟨b, hw, ha, ws, ah, rfl, R, W, A, wb, ab⟩, v.small⟩
theorem VecF.keep {σ σ' : Store} {p : Ptr} {B : List Bool} {F : Nat → Prop} (v : VecF σ p B F) (k : ∀ x, F x → σ'.objs[x]? = σ.objs[x]?) : VecF σ' p B F := by
  obtain ⟨b, hw, ha, ws, ah, rfl, R, W, A, wb, ab, f1, f2, f3⟩ := v.ex
  exact ⟨⟨b, hw, ha, ws, ah, rfl, (k b f1).trans R, W.keep fun c o e => k c (f2 c (by simp [Hdl.row, e])), A.keep fun c o e => k c (f3 c (by simp [Hdl.row, e])), wb, ab, f1, f2, f3⟩, v.small⟩
section
variable {σ : Store} {p : Ptr} {B : List Bool}
theorem vec_len (v : Vec σ p B) : Runs Try.prog 32 [.ptr p] σ (.int .i64 B.length) σ := by
  obtain ⟨b, hw, ha, ws, ah, rfl, R, W, A, wb, ab⟩ := v.ex
  have e0 := row_int R (o := 0) rfl
  refine Runs.intro (fn := Try.f32) (by kernel_rfl) (by kernel_rfl) (Ev.of fun k => ?_)
  rw [f32_eq]
  simp only [Option.bind_some, decide_eq_true_eq, decide_eq_false_iff_not, Bool.not_eq_true', Bool.not_true, Bool.not_false, Bool.false_eq_true, Bool.true_eq_false, Bool.not_eq_eq_eq_not, beq_self_eq_true, beqFT, beqTF, decide_true, decide_false, not_false_eq_true, not_true_eq_false, ne_eq, true_and, and_true, false_and, and_false, and_self, if_true, if_false, ite_true, ite_false, Bool.and_true, Bool.and_false, Bool.true_and, Bool.false_and, Bool.or_true, Bool.true_or, Bool.or_false, Bool.false_or, or_true, true_or, or_false, false_or, or_self, AV.asInt, AV.asBool, AV.asSl, AV.asPtr, AV.asFn, AV.asStr, AV.asMap, AV.asIfc, AV.item, List.length_cons, List.length_nil, List.getElem?_cons_zero, List.getElem?_cons_succ, Nat.zero_add, Option.isNone_some, e0]
theorem vec_ones (v : Vec σ p B) : Runs Try.prog 80 [.ptr p] σ (.int .i64 (onesTo B B.length : Nat)) σ := by
  obtain ⟨b, hw, ha, ws, ah, rfl, R, W, A, wb, ab⟩ := v.ex
  have e0 := row_int R (o := 3) rfl
  refine Runs.intro (fn := Try.f80) (by kernel_rfl) (by kernel_rfl) (Ev.of fun k => ?_)
  rw [f80_eq]
  simp only [Option.bind_some, decide_eq_true_eq, decide_eq_false_iff_not, Bool.not_eq_true', Bool.not_true, Bool.not_false, Bool.false_eq_true, Bool.true_eq_false, Bool.not_eq_eq_eq_not, beq_self_eq_true, beqFT, beqTF, decide_true, decide_false, not_false_eq_true, not_true_eq_false, ne_eq, true_and, and_true, false_and, and_false, and_self, if_true, if_false, ite_true, ite_false, Bool.and_true, Bool.and_false, Bool.true_and, Bool.false_and, Bool.or_true, Bool.true_or, Bool.or_false, Bool.false_or, or_true, true_or, or_false, false_or, or_self, AV.asInt, AV.asBool, AV.asSl, AV.asPtr, AV.asFn, AV.asStr, AV.asMap, AV.asIfc, AV.item, List.length_cons, List.length_nil, List.getElem?_cons_zero, List.getElem?_cons_succ, Nat.zero_add, Option.isNone_some, e0]
theorem idiv64 {i : Int} (h0 : 0 ≤ i) (h1 : i < 2 ^ 62) : IntKind.wrap .i64 (Int.tdiv i 64) = (i.toNat / 64 : Nat) ∧ Int.tmod i 64 = (i.toNat % 64 : Nat) := by
  rw [Int.tdiv_eq_ediv_of_nonneg h0, Int.tmod_eq_emod_of_nonneg h0, wrap64 (by omega) (by omega)]
  omega
theorem vec_at (v : Vec σ p B) (i : Int) : Runs Try.prog 33 [.ptr p, .int .i64 i] σ (.bool (decide (0 ≤ i) && bitAt B i.toNat)) σ := by
  obtain ⟨b, hw, ha, ws, ah, rfl, R, W, A, wb, ab⟩ := v.ex
  have sm := v.small
  have e0 := row_int R (o := 0) rfl
  have e1 := row_sl R (o := 1) rfl
  refine Runs.intro (fn := Try.f33) (by kernel_rfl) (by kernel_rfl) (Ev.of fun k => ?_)
  rw [f33_eq]
  by_cases c0 : 0 ≤ i
  · by_cases c1 : i < B.length
    · obtain ⟨d1, d2⟩ := idiv64 c0 (by omega)
      have lw := nums_len W
      have wl := wb.len
      have j1 : i.toNat / 64 < ws.length := by omega
      obtain ⟨x, x1, x2, x3⟩ := wb.bit _ j1
      have rx := nums_rd W (i := (i.toNat / 64 : Nat)) (by omega) (by omega)
      have c2 : (0 : Int) ≤ (i.toNat / 64 : Nat) := by omega
      have c3 : ((i.toNat / 64 : Nat) : Int) < hw.len := by omega
      have c4 : (0 : Int) ≤ (i.toNat % 64 : Nat) := by omega
      have q1 : shrI .u64 (x : Int) (i.toNat % 64 : Nat) = ((x / 2 ^ (i.toNat % 64) : Nat) : Int) := shr_u64 (by omega)
      have q2 : x / 2 ^ (i.toNat % 64) < 2 ^ 64 := Nat.lt_of_le_of_lt (Nat.div_le_self _ _) x2
      have q3 : bitOp .and .u64 ((x / 2 ^ (i.toNat % 64) : Nat) : Int) 1 = ((x / 2 ^ (i.toNat % 64) % 2 : Nat) : Int) := by
        rw [← Nat.and_one_is_mod]; exact and_u64 (b := 1) (by omega) (by omega)
      have hb := x3 (i.toNat % 64) (by omega)
      rw [testBit_div, show 64 * (i.toNat / 64) + i.toNat % 64 = i.toNat by omega] at hb
      simp only [Option.bind_some, decide_eq_true_eq, decide_eq_false_iff_not, Bool.not_eq_true', Bool.not_true, Bool.not_false, Bool.false_eq_true, Bool.true_eq_false, Bool.not_eq_eq_eq_not, beq_self_eq_true, beqFT, beqTF, decide_true, decide_false, not_false_eq_true, not_true_eq_false, ne_eq, true_and, and_true, false_and, and_false, and_self, if_true, if_false, ite_true, ite_false, Bool.and_true, Bool.and_false, Bool.true_and, Bool.false_and, Bool.or_true, Bool.true_or, Bool.or_false, Bool.false_or, or_true, true_or, or_false, false_or, or_self, AV.asInt, AV.asBool, AV.asSl, AV.asPtr, AV.asFn, AV.asStr, AV.asMap, AV.asIfc, AV.item, List.length_cons, List.length_nil, List.getElem?_cons_zero, List.getElem?_cons_succ, Nat.zero_add, Option.isNone_some, e0, e1, c0, c1, d1, d2, c2, c3, c4, rx, x1, q1, q3, ← hb]
      have : ((x / 2 ^ (i.toNat % 64) % 2 : Nat) : Int) = 1 ↔ x / 2 ^ (i.toNat % 64) % 2 = 1 := by omega
      simp only [this]
    · have : bitAt B i.toNat = false := by unfold bitAt; rw [List.getElem?_eq_none (by omega)]; rfl
      simp only [Option.bind_some, decide_eq_true_eq, decide_eq_false_iff_not, Bool.not_eq_true', Bool.not_true, Bool.not_false, Bool.false_eq_true, Bool.true_eq_false, Bool.not_eq_eq_eq_not, beq_self_eq_true, beqFT, beqTF, decide_true, decide_false, not_false_eq_true, not_true_eq_false, ne_eq, true_and, and_true, false_and, and_false, and_self, if_true, if_false, ite_true, ite_false, Bool.and_true, Bool.and_false, Bool.true_and, Bool.false_and, Bool.or_true, Bool.true_or, Bool.or_false, Bool.false_or, or_true, true_or, or_false, false_or, or_self, AV.asInt, AV.asBool, AV.asSl, AV.asPtr, AV.asFn, AV.asStr, AV.asMap, AV.asIfc, AV.item, List.length_cons, List.length_nil, List.getElem?_cons_zero, List.getElem?_cons_succ, Nat.zero_add, Option.isNone_some, e0, c0, c1, this]
  · simp only [Option.bind_some, decide_eq_true_eq, decide_eq_false_iff_not, Bool.not_eq_true', Bool.not_true, Bool.not_false, Bool.false_eq_true, Bool.true_eq_false, Bool.not_eq_eq_eq_not, beq_self_eq_true, beqFT, beqTF, decide_true, decide_false, not_false_eq_true, not_true_eq_false, ne_eq, true_and, and_true, false_and, and_false, and_self, if_true, if_false, ite_true, ite_false, Bool.and_true, Bool.and_false, Bool.true_and, Bool.false_and, Bool.or_true, Bool.true_or, Bool.or_false, Bool.false_or, or_true, true_or, or_false, false_or, or_self, AV.asInt, AV.asBool, AV.asSl, AV.asPtr, AV.asFn, AV.asStr, AV.asMap, AV.asIfc, AV.item, List.length_cons, List.length_nil, List.getElem?_cons_zero, List.getElem?_cons_succ, Nat.zero_add, Option.isNone_some, c0]
theorem vec_rank (v : Vec σ p B) (i : Int) : Runs Try.prog 77 [.ptr p, .int .i64 i] σ (.int .i64 (onesTo B i.toNat : Nat)) σ := by
  obtain ⟨b, hw, ha, ws, ah, rfl, R, W, A, wb, ab⟩ := v.ex
  have sm := v.small
  have e0 := row_int R (o := 0) rfl
  have e1 := row_sl R (o := 1) rfl
  have e2 := row_sl R (o := 2) rfl
  have e3 := row_int R (o := 3) rfl
  by_cases c0 : i ≤ 0
  · refine Runs.intro (fn := Try.f77) (by kernel_rfl) (by kernel_rfl) (Ev.of fun k => ?_)
    rw [f77_eq]
    simp only [Option.bind_some, decide_eq_true_eq, decide_eq_false_iff_not, Bool.not_eq_true', Bool.not_true, Bool.not_false, Bool.false_eq_true, Bool.true_eq_false, Bool.not_eq_eq_eq_not, beq_self_eq_true, beqFT, beqTF, decide_true, decide_false, not_false_eq_true, not_true_eq_false, ne_eq, true_and, and_true, false_and, and_false, and_self, if_true, if_false, ite_true, ite_false, Bool.and_true, Bool.and_false, Bool.true_and, Bool.false_and, Bool.or_true, Bool.true_or, Bool.or_false, Bool.false_or, or_true, true_or, or_false, false_or, or_self, AV.asInt, AV.asBool, AV.asSl, AV.asPtr, AV.asFn, AV.asStr, AV.asMap, AV.asIfc, AV.item, List.length_cons, List.length_nil, List.getElem?_cons_zero, List.getElem?_cons_succ, Nat.zero_add, Option.isNone_some, c0]
    rw [show i.toNat = 0 by omega, onesTo_zero]; rfl
  by_cases c1 : (B.length : Int) ≤ i
  · refine Runs.intro (fn := Try.f77) (by kernel_rfl) (by kernel_rfl) (Ev.of fun k => ?_)
    rw [f77_eq]
    simp only [Option.bind_some, decide_eq_true_eq, decide_eq_false_iff_not, Bool.not_eq_true', Bool.not_true, Bool.not_false, Bool.false_eq_true, Bool.true_eq_false, Bool.not_eq_eq_eq_not, beq_self_eq_true, beqFT, beqTF, decide_true, decide_false, not_false_eq_true, not_true_eq_false, ne_eq, true_and, and_true, false_and, and_false, and_self, if_true, if_false, ite_true, ite_false, Bool.and_true, Bool.and_false, Bool.true_and, Bool.false_and, Bool.or_true, Bool.true_or, Bool.or_false, Bool.false_or, or_true, true_or, or_false, false_or, or_self, AV.asInt, AV.asBool, AV.asSl, AV.asPtr, AV.asFn, AV.asStr, AV.asMap, AV.asIfc, AV.item, List.length_cons, List.length_nil, List.getElem?_cons_zero, List.getElem?_cons_succ, Nat.zero_add, Option.isNone_some, c0, e0, c1, e3]
    rw [onesTo_ge B (i := i.toNat) (by omega)]
  obtain ⟨d1, d2⟩ := idiv64 (i := i) (by omega) (by omega)
  obtain ⟨w, hw_⟩ : ∃ w, w = i.toNat / 64 := ⟨_, rfl⟩
  rw [← hw_] at d1
  have lw := nums_len W
  have la := A.ilen
  have wl := wb.len
  have al := ab.len
  have d3 : IntKind.wrap .i64 (Int.tdiv (w : Nat) 8) = (w / 8 : Nat) := by
    rw [Int.tdiv_eq_ediv_of_nonneg (by omega), wrap64 (by omega) (by omega)]; omega
  have d4 : IntKind.wrap .i64 ((w / 8 : Nat) * 8) = (w / 8 * 8 : Nat) := by
    rw [wrap64 (by omega) (by omega)]; omega
  have ra := A.rd (i := (w / 8 : Nat)) (by omega) (by omega)
  rw [ab.val _ (by omega)] at ra
  obtain ⟨r, e, rfl⟩ := EvI.up (f := fun k s => stepF Try.prog (gm Try.prog k) drawn k Try.f77 [1, 1, 1, 1, 1, 0, 1, 0] [7, 6, 5, 1, 0] s) (w - w / 8 * 8)
    (fun t s => s = ([.int .i64 (w / 8 * 8 + t : Nat), .int .i64 (onesTo B (64 * (w / 8 * 8 + t)) : Nat), .int .i64 (w : Nat), .int .i64 i, .ptr (some (b, 0))], σ))
    (fun r => r = (AX.exit 0, [(6, .int .i64 (onesTo B (64 * w) : Nat)), (5, .int .i64 (w : Nat)), (1, .int .i64 i), (0, .ptr (some (b, 0)))], σ))
    (by
      rintro t s ht rfl
      obtain ⟨j, hj⟩ : ∃ j, j = w / 8 * 8 + t := ⟨_, rfl⟩
      rw [← hj, show w / 8 * 8 + (t + 1) = j + 1 by omega]
      have j0 : (0 : Int) ≤ j := by omega
      have j1 : (j : Int) < w := by omega
      have j2 : (j : Int) < hw.len := by omega
      obtain ⟨x, x1, x2, x3⟩ := wb.bit j (by omega)
      have rx := nums_rd W (i := (j : Int)) (by omega) (by omega)
      obtain ⟨n3, r3⟩ := count_run σ x2
      have op := ones_pop x3 64 (Nat.le_refl _)
      have ol := onesTo_le B (64 * j)
      have pl := Pop.pop_le 64 x
      have w1 : IntKind.wrap .i64 ((onesTo B (64 * j) : Nat) + (Pop.pop 64 x : Nat)) = (onesTo B (64 * (j + 1)) : Nat) := by
        rw [wrap64 (by omega) (by omega), show 64 * (j + 1) = 64 * j + 64 by omega, op]; omega
      have w2 : IntKind.wrap .i64 ((j : Int) + 1) = ((j + 1 : Nat) : Int) := by rw [wrap64 (by omega) (by omega)]; omega
      refine ⟨([.int .i64 (j + 1 : Nat), .int .i64 (onesTo B (64 * (j + 1)) : Nat), .int .i64 (w : Nat), .int .i64 i, .ptr (some (b, 0))], σ), ⟨n3, fun k hk => ?_⟩, rfl⟩
      have r3 := r3 k hk
      simp only at r3
      simp only [f77_L11111010]
      simp only [Option.bind_some, decide_eq_true_eq, decide_eq_false_iff_not, Bool.not_eq_true', Bool.not_true, Bool.not_false, Bool.false_eq_true, Bool.true_eq_false, Bool.not_eq_eq_eq_not, beq_self_eq_true, beqFT, beqTF, decide_true, decide_false, not_false_eq_true, not_true_eq_false, ne_eq, true_and, and_true, false_and, and_false, and_self, if_true, if_false, ite_true, ite_false, Bool.and_true, Bool.and_false, Bool.true_and, Bool.false_and, Bool.or_true, Bool.true_or, Bool.or_false, Bool.false_or, or_true, true_or, or_false, false_or, or_self, AV.asInt, AV.asBool, AV.asSl, AV.asPtr, AV.asFn, AV.asStr, AV.asMap, AV.asIfc, AV.item, List.length_cons, List.length_nil, List.getElem?_cons_zero, List.getElem?_cons_succ, Nat.zero_add, j0, j1, j2, e1, rx, x1, r3, w1, w2])
    (by
      rintro s rfl
      rw [show w / 8 * 8 + (w - w / 8 * 8) = w by omega]
      exact ⟨_, Ev.of fun k => by simp only [f77_L11111010]; simp only [Option.bind_some, decide_eq_true_eq, decide_eq_false_iff_not, Bool.not_eq_true', Bool.not_true, Bool.not_false, Bool.false_eq_true, Bool.true_eq_false, Bool.not_eq_eq_eq_not, beq_self_eq_true, beqFT, beqTF, decide_true, decide_false, not_false_eq_true, not_true_eq_false, ne_eq, true_and, and_true, false_and, and_false, and_self, if_true, if_false, ite_true, ite_false, Bool.and_true, Bool.and_false, Bool.true_and, Bool.false_and, Bool.or_true, Bool.true_or, Bool.or_false, Bool.false_or, or_true, true_or, or_false, false_or, or_self, AV.asInt, AV.asBool, AV.asSl, AV.asPtr, AV.asFn, AV.asStr, AV.asMap, AV.asIfc, AV.item, List.length_cons, List.length_nil, List.getElem?_cons_zero, List.getElem?_cons_succ, Nat.zero_add, Int.lt_irrefl], rfl⟩)
    (s := ([.int .i64 (w / 8 * 8 : Nat), .int .i64 (onesTo B (512 * (w / 8)) : Nat), .int .i64 (w : Nat), .int .i64 i, .ptr (some (b, 0))], σ)) (by rw [show 64 * (w / 8 * 8 + 0) = 512 * (w / 8) by omega]; rfl)
  obtain ⟨n1, e⟩ := loopF_ev e
  obtain ⟨x, x1, x2, x3⟩ := wb.bit w (by omega)
  have rx := nums_rd W (i := (w : Int)) (by omega) (by omega)
  have hs : i.toNat % 64 < 64 := Nat.mod_lt _ (by omega)
  have p2 : 2 ^ (i.toNat % 64) ≤ 2 ^ 63 := Nat.pow_le_pow_right (by omega) (by omega)
  have p1 : 1 ≤ 2 ^ (i.toNat % 64) := Nat.one_le_two_pow
  have q1 : IntKind.wrap .u64 (shlI .u64 1 (i.toNat % 64 : Nat) - 1) = ((2 ^ (i.toNat % 64) - 1 : Nat) : Int) := by
    have eb : IntKind.u64.bits = 64 := by decide
    unfold shlI
    rw [eb, Int.toNat_natCast, Nat.min_eq_left (by omega), Int.one_mul]
    have : ((2 : Int) ^ (i.toNat % 64)) = ((2 ^ (i.toNat % 64) : Nat) : Int) := by simp
    rw [this, wrapu64 (x := ((2 ^ (i.toNat % 64) : Nat) : Int)) (by omega) (by omega), wrapu64 (by omega) (by omega)]; omega
  have q2 : bitOp .and .u64 (x : Int) ((2 ^ (i.toNat % 64) - 1 : Nat) : Int) = ((x &&& (2 ^ (i.toNat % 64) - 1) : Nat) : Int) := and_u64 (by omega) (by omega)
  obtain ⟨n2, r2⟩ := count_run σ (x := x &&& (2 ^ (i.toNat % 64) - 1)) (Nat.lt_of_le_of_lt Nat.and_le_left x2)
  have pl := pop_low (x := x) (s := i.toNat % 64) 64
  rw [Nat.min_eq_right (by omega)] at pl
  have op := ones_pop x3 (i.toNat % 64) (by omega)
  have ol := onesTo_le B i.toNat
  rw [show 64 * w + i.toNat % 64 = i.toNat by omega] at op
  have w1 : IntKind.wrap .i64 ((onesTo B (64 * w) : Nat) + (Pop.pop 64 (x &&& (2 ^ (i.toNat % 64) - 1)) : Nat)) = (onesTo B i.toNat : Nat) := by
    rw [pl, wrap64 (by omega) (by omega), op]; omega
  have c2 : (0 : Int) ≤ (w / 8 : Nat) := by omega
  have c3 : ((w / 8 : Nat) : Int) < ha.len := by omega
  have c4 : (0 : Int) ≤ (w : Nat) := by omega
  have c5 : ((w : Nat) : Int) < hw.len := by omega
  have c6 : (0 : Int) ≤ (i.toNat % 64 : Nat) := by omega
  refine Runs.intro (fn := Try.f77) (by kernel_rfl) (by kernel_rfl) ⟨n1 + n2, fun k hk => ?_⟩
  have e := e k (by omega)
  have r2 := r2 k (by omega)
  simp only at e r2
  simp only [f77_eq]
  simp only [Option.bind_some, decide_eq_true_eq, decide_eq_false_iff_not, Bool.not_eq_true', Bool.not_true, Bool.not_false, Bool.false_eq_true, Bool.true_eq_false, Bool.not_eq_eq_eq_not, beq_self_eq_true, beqFT, beqTF, decide_true, decide_false, not_false_eq_true, not_true_eq_false, ne_eq, true_and, and_true, false_and, and_false, and_self, if_true, if_false, ite_true, ite_false, Bool.and_true, Bool.and_false, Bool.true_and, Bool.false_and, Bool.or_true, Bool.true_or, Bool.or_false, Bool.false_or, or_true, true_or, or_false, false_or, or_self, AV.asInt, AV.asBool, AV.asSl, AV.asPtr, AV.asFn, AV.asStr, AV.asMap, AV.asIfc, AV.item, List.length_cons, List.length_nil, List.getElem?_cons_zero, List.getElem?_cons_succ, Nat.zero_add, Option.isNone_some, c0, e0, c1, e2, d1, d3, d4, c2, c3, ra, e]
  rw [f77_X11111010_1]
  simp only [Option.bind_some, decide_eq_true_eq, decide_eq_false_iff_not, Bool.not_eq_true', Bool.not_true, Bool.not_false, Bool.false_eq_true, Bool.true_eq_false, Bool.not_eq_eq_eq_not, beq_self_eq_true, beqFT, beqTF, decide_true, decide_false, not_false_eq_true, not_true_eq_false, ne_eq, true_and, and_true, false_and, and_false, and_self, if_true, if_false, ite_true, ite_false, Bool.and_true, Bool.and_false, Bool.true_and, Bool.false_and, Bool.or_true, Bool.true_or, Bool.or_false, Bool.false_or, or_true, true_or, or_false, false_or, or_self, AV.asInt, AV.asBool, AV.asSl, AV.asPtr, AV.asFn, AV.asStr, AV.asMap, AV.asIfc, AV.item, List.length_cons, List.length_nil, List.getElem?_cons_zero, List.getElem?_cons_succ, Nat.zero_add, e1, c4, c5, rx, x1, d2, c6, q1, q2, r2, w1]
theorem mn2_eq (a b : Int) : mn2 a b = min a b := by unfold mn2; split <;> omega
theorem mx2_eq (a b : Int) : mx2 a b = max a b := by unfold mx2; split <;> omega
theorem vec_zeros (v : Vec σ p B) (i : Int) : Runs Try.prog 63 [.ptr p, .int .i64 i] σ (.int .i64 (zerosTo B i.toNat : Nat)) σ := by
  obtain ⟨n1, r1⟩ := vec_len v
  obtain ⟨n2, r2⟩ := vec_rank v i
  have sm := v.small
  have ol := onesTo_le B i.toNat
  have ol2 := onesTo_len B i.toNat
  have w1 : IntKind.wrap .i64 (mx2 (Int.ofNat 0) (mn2 i B.length) - (onesTo B i.toNat : Nat)) = (zerosTo B i.toNat : Nat) := by
    have : mx2 (Int.ofNat 0) (mn2 i B.length) = (min i.toNat B.length : Nat) := by rw [mn2_eq, mx2_eq]; simp only [Int.ofNat_eq_natCast]; omega
    unfold zerosTo
    rw [this, wrap64 (by omega) (by omega)]; omega
  refine Runs.intro (fn := Try.f63) (by kernel_rfl) (by kernel_rfl) ⟨n1 + n2, fun k hk => ?_⟩
  have r1 := r1 k (by omega)
  have r2 := r2 k (by omega)
  simp only at r1 r2
  simp only [f63_eq]
  simp only [Option.bind_some, decide_eq_true_eq, decide_eq_false_iff_not, Bool.not_eq_true', Bool.not_true, Bool.not_false, Bool.false_eq_true, Bool.true_eq_false, Bool.not_eq_eq_eq_not, beq_self_eq_true, beqFT, beqTF, decide_true, decide_false, not_false_eq_true, not_true_eq_false, ne_eq, true_and, and_true, false_and, and_false, and_self, if_true, if_false, ite_true, ite_false, Bool.and_true, Bool.and_false, Bool.true_and, Bool.false_and, Bool.or_true, Bool.true_or, Bool.or_false, Bool.false_or, or_true, true_or, or_false, false_or, or_self, AV.asInt, AV.asBool, AV.asSl, AV.asPtr, AV.asFn, AV.asStr, AV.asMap, AV.asIfc, AV.item, List.length_cons, List.length_nil, List.getElem?_cons_zero, List.getElem?_cons_succ, Nat.zero_add, r1, r2, w1]
theorem down_run (v : Vec σ p B) (i : Int) (one : Bool) : Runs Try.prog 58 [.ptr p, .int .i64 i, .bool one] σ (.int .i64 (goto B i.toNat one : Nat)) σ := by
  obtain ⟨n1, r1⟩ := vec_len v
  obtain ⟨n2, r2⟩ := vec_zeros v B.length
  obtain ⟨n3, r3⟩ := vec_rank v i
  obtain ⟨n4, r4⟩ := vec_zeros v i
  have sm := v.small
  have ol2 := onesTo_len B i.toNat
  refine Runs.intro (fn := Try.f58) (by kernel_rfl) (by kernel_rfl) ⟨n1 + n2 + n3 + n4, fun k hk => ?_⟩
  have r1 := r1 k (by omega)
  have r2 := r2 k (by omega)
  have r3 := r3 k (by omega)
  have r4 := r4 k (by omega)
  simp only [Int.toNat_natCast] at r1 r2 r3 r4
  simp only [f58_eq]
  cases one with
  | false => simp only [Option.bind_some, decide_eq_true_eq, decide_eq_false_iff_not, Bool.not_eq_true', Bool.not_true, Bool.not_false, Bool.false_eq_true, Bool.true_eq_false, Bool.not_eq_eq_eq_not, beq_self_eq_true, beqFT, beqTF, decide_true, decide_false, not_false_eq_true, not_true_eq_false, ne_eq, true_and, and_true, false_and, and_false, and_self, if_true, if_false, ite_true, ite_false, Bool.and_true, Bool.and_false, Bool.true_and, Bool.false_and, Bool.or_true, Bool.true_or, Bool.or_false, Bool.false_or, or_true, true_or, or_false, false_or, or_self, AV.asInt, AV.asBool, AV.asSl, AV.asPtr, AV.asFn, AV.asStr, AV.asMap, AV.asIfc, AV.item, List.length_cons, List.length_nil, List.getElem?_cons_zero, List.getElem?_cons_succ, Nat.zero_add, r4, goto]
  | true =>
    have w1 : IntKind.wrap .i64 ((zerosTo B B.length : Nat) + (onesTo B i.toNat : Nat)) = (zerosTo B B.length + onesTo B i.toNat : Nat) := by
      have : zerosTo B B.length ≤ B.length := by unfold zerosTo; omega
      rw [wrap64 (by omega) (by omega)]; omega
    simp only [Option.bind_some, decide_eq_true_eq, decide_eq_false_iff_not, Bool.not_eq_true', Bool.not_true, Bool.not_false, Bool.false_eq_true, Bool.true_eq_false, Bool.not_eq_eq_eq_not, beq_self_eq_true, beqFT, beqTF, decide_true, decide_false, not_false_eq_true, not_true_eq_false, ne_eq, true_and, and_true, false_and, and_false, and_self, if_true, if_false, ite_true, ite_false, Bool.and_true, Bool.and_false, Bool.true_and, Bool.false_and, Bool.or_true, Bool.true_or, Bool.or_false, Bool.false_or, or_true, true_or, or_false, false_or, or_self, AV.asInt, AV.asBool, AV.asSl, AV.asPtr, AV.asFn, AV.asStr, AV.asMap, AV.asIfc, AV.item, List.length_cons, List.length_nil, List.getElem?_cons_zero, List.getElem?_cons_succ, Nat.zero_add, r1, r2, r3, w1, goto]
end
end Go.Ab

/- Packed bits: New, Set, Words; a list of bits from them. -/
namespace Go.Ab
open Go Go.Proofs Go.Ab.Wd Go.Ab.Bs Go.Ab.Sai
set_option linter.unusedVariables false
set_option linter.unusedSimpArgs false
/-- slices.Clone. -/
theorem clone_fact {σ : Store} {h : Hdl} {l : List AV} {bs : Nat} (s : σ.Sl h 1 l) (hp : σ.prot ≤ σ.objs.length) (ho : l.all AV.one = true) (hb : 0 < bs) (hc : l.length * bs ≤ 140737488355328) :
    ∃ h' σ', Kp σ.objs.length σ σ' ∧ Grow σ' σ.objs.length h' 1 l ∧
      (if Option.isNone (Hdl.a h) = true then some (.slice Hdl.nil, σ) else Option.bind (Store.readSl (σ.push [] 1) h 1) fun x => Option.bind (Store.app (σ.push [] 1) ⟨some (σ.objs.length, 0), 0, some 0⟩ 1 bs x h.len) fun y => some (AV.slice y.1, y.2)) = some (AV.slice h', σ') := by
  by_cases c : Option.isNone (Hdl.a h) = true
  · rw [if_pos c]
    have hl : l = [] := by
      have hlen := s.len
      rcases s.row with h0 | ⟨b, o, cs, rw, e, _⟩
      · rw [h0] at hlen; exact List.length_eq_zero_iff.1 (by omega)
      · rw [e] at c; cases c
    subst hl
    exact ⟨Hdl.nil, σ, Kp.refl _ _, Grow.nil _ _ _, rfl⟩
  · rw [if_neg c]
    obtain ⟨h', σ', e1, e2, k, g⟩ := copy_app s hp ho hb hc
    exact ⟨h', σ', k, g, by rw [e1, Option.bind_some, e2]; rfl⟩
theorem cloneU_run {σ : Store} {h : Hdl} {l : List Int} (s : Store.Nums .u64 σ h l) (hp : σ.prot ≤ σ.objs.length) (hc : l.length < 2 ^ 40) :
    ∃ h' σ', Runs Try.prog 96 [.slice h] σ (.slice h') σ' ∧ Kp σ.objs.length σ σ' ∧ GrowN .u64 σ' σ.objs.length h' l := by
  obtain ⟨h', σ', k, g, e⟩ := clone_fact (bs := 8) s hp (numsL_one _ _) (by omega) (by simp; omega)
  exact ⟨h', σ', Runs.intro (fn := Try.f96) (by kernel_rfl) (by kernel_rfl) (Ev.of fun m => by rw [f96_eq]; exact e), k, g⟩
theorem cloneI_run {σ : Store} {h : Hdl} {l : List Int} (s : σ.Ints h l) (hp : σ.prot ≤ σ.objs.length) (hc : l.length < 2 ^ 40) :
    ∃ h' σ', Runs Try.prog 73 [.slice h] σ (.slice h') σ' ∧ Kp σ.objs.length σ σ' ∧ GrowI σ' σ.objs.length h' l := by
  obtain ⟨h', σ', k, g, e⟩ := clone_fact (bs := 8) s hp (intsL_one _) (by omega) (by simp; omega)
  exact ⟨h', σ', Runs.intro (fn := Try.f73) (by kernel_rfl) (by kernel_rfl) (Ev.of fun m => by rw [f73_eq]; exact e), k, g⟩
def ptrsL (l : List Ptr) : List AV := l.map AV.ptr
@[simp] theorem ptrsL_length (l : List Ptr) : (ptrsL l).length = l.length := by simp [ptrsL]
theorem ptrsL_one (l : List Ptr) : (ptrsL l).all AV.one = true := by simp [ptrsL, AV.one]
theorem cloneP_run {σ : Store} {h : Hdl} {l : List Ptr} (s : σ.Sl h 1 (ptrsL l)) (hp : σ.prot ≤ σ.objs.length) (hc : l.length < 2 ^ 40) :
    ∃ h' σ', Runs Try.prog 57 [.slice h] σ (.slice h') σ' ∧ Kp σ.objs.length σ σ' ∧ Grow σ' σ.objs.length h' 1 (ptrsL l) := by
  obtain ⟨h', σ', k, g, e⟩ := clone_fact (bs := 8) s hp (ptrsL_one _) (by omega) (by simp; omega)
  exact ⟨h', σ', Runs.intro (fn := Try.f57) (by kernel_rfl) (by kernel_rfl) (Ev.of fun m => by rw [f57_eq]; exact e), k, g⟩
/-- Packed bits in memory. -/
structure Pk (σ : Store) (L : Nat) (B : List Bool) : Prop where
  ex : ∃ ws, σ.Row L 1 (numsL .u64 ws) ∧ WB B ws
  row : σ.Row (L + 1) 3 [.int .i64 1, .int .i64 B.length, .slice (hdS L ((B.length + 63) / 64))]
theorem need_run (σ : Store) {n : Nat} (hn : n < 2 ^ 40) : Runs Try.prog 85 [.int .i64 1, .int .i64 n] σ (.int .i64 ((n + 63) / 64 : Nat)) σ := by
  refine Runs.intro (fn := Try.f85) (by kernel_rfl) (by kernel_rfl) (Ev.of fun k => ?_)
  rw [f85_eq, Int.one_mul, wrap64 (x := (n : Int)) (by omega) (by omega), wrap64 (x := (n : Int) + 63) (by omega) (by omega), Int.tdiv_eq_ediv_of_nonneg (by omega), wrap64 (by omega) (by omega)]
  congr 3
theorem mask_run (σ : Store) : Runs Try.prog 86 [.int .i64 1] σ (.int .u64 1) σ := by
  refine Runs.intro (fn := Try.f86) (by kernel_rfl) (by kernel_rfl) (Ev.of fun k => ?_)
  have w : IntKind.wrap .i64 (64 - 1) = 63 := by decide
  have e : shrI .u64 18446744073709551615 63 = 1 := (shr_u64 (a := 18446744073709551615) (s := 63) (by omega)).trans (by decide)
  have c : (0 : Int) ≤ 63 := by omega
  rw [f86_eq]
  simp only [w, e, c, if_true]
theorem rd_replicate0 (n : Nat) (j : Nat) : rd (List.replicate n (0 : Int)) j = 0 := by
  unfold rd; simp [List.getD, List.getElem?_replicate]; split <;> rfl
theorem packNew_run {σ : Store} {n : Nat} (hn : n ≤ 4194304) : ∃ σ', Runs Try.prog 74 [.int .i64 1, .int .i64 n] σ (.tuple [.ptr (some (σ.objs.length + 1, 0)), .int .i64 0]) σ' ∧ Kp σ.objs.length σ σ' ∧ σ'.objs.length = σ.objs.length + 2 ∧ Pk σ' σ.objs.length (List.replicate n false) := by
  obtain ⟨k1, r1⟩ := need_run σ (n := n) (by omega)
  have c1 : ¬ (1 : Int) < 1 := by omega
  have c2 : ¬ (64 : Int) < 1 := by omega
  have c3 : ¬ (n : Int) < 0 := by omega
  have c4 : ¬ (4194304 : Int) < n := by omega
  have c5 : (0 : Int) ≤ ((n + 63) / 64 : Nat) := by omega
  have c6 : (((n + 63) / 64 : Nat) : Int) * ((8 : Nat) : Int) ≤ 281474976710656 := by omega
  refine ⟨(σ.push (mkCells [.int .u64 0] ((n + 63) / 64)) 1).push [.int .i64 1, .int .i64 n, .slice (hdS σ.objs.length ((n + 63) / 64))] 3, Runs.intro (fn := Try.f74) (by kernel_rfl) (by kernel_rfl) ⟨k1, fun k hk => ?_⟩, ?_, by simp, ⟨⟨List.replicate ((n + 63) / 64) 0, ?_, ?_⟩, ?_⟩⟩
  · have r1 := r1 k hk
    simp only at r1
    simp only [f74_eq]
    simp only [Option.bind_some, decide_eq_true_eq, decide_eq_false_iff_not, Bool.not_eq_true', Bool.not_true, Bool.not_false, Bool.false_eq_true, Bool.true_eq_false, Bool.not_eq_eq_eq_not, beq_self_eq_true, beqFT, beqTF, decide_true, decide_false, not_false_eq_true, not_true_eq_false, ne_eq, true_and, and_true, false_and, and_false, and_self, if_true, if_false, ite_true, ite_false, Bool.and_true, Bool.and_false, Bool.true_and, Bool.false_and, Bool.or_true, Bool.true_or, Bool.or_false, Bool.false_or, or_true, true_or, or_false, false_or, or_self, AV.asInt, AV.asBool, AV.asSl, AV.asPtr, AV.asFn, AV.asStr, AV.asMap, AV.asIfc, AV.item, List.length_cons, List.length_nil, List.getElem?_cons_zero, List.getElem?_cons_succ, Nat.zero_add, c1, c2, c3, c4, r1, c5, c6, Int.le_refl, Int.toNat_natCast]
    simp [hdS]
  · exact (Kp.push _ _ (Nat.le_refl _)).push' (by simp)
  · rw [← mkCells_num]; exact Store.Row.new.push
  · refine ⟨by simp, fun j hj => ⟨0, rd_replicate0 _ _, by omega, fun b hb => ?_⟩⟩
    simp [bitAt, List.getElem?_replicate]
    split <;> rfl
  · have := (Store.Row.new : ((σ.push (mkCells [.int .u64 0] ((n + 63) / 64)) 1).push [.int .i64 1, .int .i64 n, .slice (hdS σ.objs.length ((n + 63) / 64))] 3).Row _ 3 _)
    simpa using this
/-- A bit is set. -/
theorem setbit {x s : Nat} (hx : x < 2 ^ 64) (hs : s < 64) : ∃ z : Nat, bitOp .or .u64 (bitOp .andNot .u64 (x : Int) ((2 ^ s : Nat) : Int)) ((2 ^ s : Nat) : Int) = z ∧ z < 2 ^ 64 ∧ ∀ b, b < 64 → z.testBit b = (x.testBit b || decide (b = s)) := by
  have p2 : 2 ^ s < 2 ^ 64 := Nat.pow_lt_pow_right (by omega) hs
  obtain ⟨u, hu⟩ : ∃ u, u = (BitVec.ofNat 64 x &&& ~~~BitVec.ofNat 64 (2 ^ s)).toNat := ⟨_, rfl⟩
  have ul : u < 2 ^ 64 := by rw [hu]; exact BitVec.isLt _
  have e1 : bitOp .andNot .u64 (x : Int) ((2 ^ s : Nat) : Int) = (u : Int) := by
    show IntKind.wrap .u64 (BitVec.ofInt 64 (x : Int) &&& ~~~BitVec.ofInt 64 ((2 ^ s : Nat) : Int)).toNat = _
    rw [BitVec.ofInt_natCast, BitVec.ofInt_natCast, ← hu, wrapu64 (by omega) (by omega)]
  refine ⟨u ||| 2 ^ s, by rw [e1, or_u64 (by omega) (by omega)], Nat.or_lt_two_pow ul p2, fun b hb => ?_⟩
  rw [Nat.testBit_or, Nat.testBit_two_pow, hu, BitVec.testBit_toNat, BitVec.getLsbD_and, BitVec.getLsbD_not, BitVec.getLsbD_ofNat, BitVec.getLsbD_ofNat, Nat.testBit_two_pow]
  by_cases c : s = b
  · subst c; simp
  · have c' : ¬ b = s := fun h => c h.symm
    simp [c, c', hb]
theorem Bs.WB.set {B : List Bool} {ws : List Int} (w : WB B ws) {i : Nat} (hi : i < B.length) {x z : Nat} (hx : rd ws (i / 64 : Nat) = x) (hz : z < 2 ^ 64) (hb : ∀ b, b < 64 → z.testBit b = (x.testBit b || decide (b = i % 64))) :
    WB (B.set i true) (ws.set (i / 64) (z : Int)) := by
  refine ⟨by simpa using w.len, fun j hj => ?_⟩
  rw [List.length_set] at hj
  obtain ⟨y, y1, y2, y3⟩ := w.bit j hj
  by_cases c : j = i / 64
  · subst c
    have exy : x = y := by omega
    subst exy
    refine ⟨z, ?_, hz, fun b hb' => ?_⟩
    · rw [rd_getElem (by simpa using hj)]; simp
    · rw [hb b hb', y3 b hb']
      unfold bitAt
      rw [List.getElem?_set]
      by_cases c : b = i % 64
      · rw [if_pos (by omega), if_pos (by omega)]; simp [c]
      · rw [if_neg (by omega)]; simp [c]
  · refine ⟨y, ?_, y2, fun b hb' => ?_⟩
    · rw [rd_getElem (show j < (ws.set (i / 64) (z : Int)).length by rw [List.length_set]; exact hj), List.getElem_set_ne (by omega), ← rd_getElem hj]; exact y1
    · rw [y3 b hb']
      unfold bitAt
      rw [List.getElem?_set, if_neg (by omega)]
theorem set_run {σ : Store} {L : Nat} {B : List Bool} (P : Pk σ L B) (hp : σ.prot ≤ L) {i : Nat} (hi : i < B.length) (hn : B.length < 2 ^ 30) :
    ∃ σ', Runs Try.prog 75 [.ptr (some (L + 1, 0)), .int .i64 i, .int .u64 1] σ (.bool true) σ' ∧ Kp L σ σ' ∧ Off L σ σ' ∧ Pk σ' L (B.set i true) := by
  obtain ⟨ws, W, wb⟩ := P.ex
  have R := P.row
  have e0 := row_int R (o := 0) rfl
  have e1 := row_int R (o := 1) rfl
  have e2 := row_sl R (o := 2) rfl
  obtain ⟨km, rm⟩ := mask_run σ
  have wl := wb.len
  obtain ⟨d1, d2⟩ := idiv64 (i := (i : Int)) (by omega) (by omega)
  rw [Int.toNat_natCast] at d1 d2
  obtain ⟨x, x1, x2, x3⟩ := wb.bit (i / 64) (by omega)
  obtain ⟨z, z1, z2, z3⟩ := setbit (s := i % 64) x2 (Nat.mod_lt _ (by omega))
  have rx := row_rd W (i := (i / 64 : Nat)) (len := (B.length + 63) / 64) (cp := some ((B.length + 63) / 64)) (by omega) (by omega)
  have st := st_nums (x := (z : Int)) (len := (B.length + 63) / 64) (cp := some ((B.length + 63) / 64)) W hp (i := (i / 64 : Nat)) (by omega) (by omega)
  rw [Int.toNat_natCast] at st
  have p2 : 2 ^ (i % 64) ≤ 2 ^ 63 := Nat.pow_le_pow_right (by omega) (by omega)
  have p1 : 1 ≤ 2 ^ (i % 64) := Nat.one_le_two_pow
  have q1 : shlI .u64 1 (i % 64 : Nat) = ((2 ^ (i % 64) : Nat) : Int) := by
    have eb : IntKind.u64.bits = 64 := by decide
    unfold shlI
    rw [eb, Int.toNat_natCast, Nat.min_eq_left (by omega), Int.one_mul]
    have : ((2 : Int) ^ (i % 64)) = ((2 ^ (i % 64) : Nat) : Int) := by simp
    rw [this, wrapu64 (by omega) (by omega)]
  have w1 : IntKind.wrap .i64 ((i : Int) * 1) = i := by rw [Int.mul_one, wrap64 (by omega) (by omega)]
  have w2 : ¬ (64 : Int) < IntKind.wrap .i64 ((i % 64 : Nat) + 1) := by rw [wrap64 (by omega) (by omega)]; omega
  have c0 : ¬ (i : Int) < 0 := by omega
  have c1 : ¬ (B.length : Int) ≤ i := by omega
  have c2 : ¬ (1 : Int) < 1 := by omega
  have c3 : (0 : Int) ≤ (i / 64 : Nat) := by omega
  have c4 : ((i / 64 : Nat) : Int) < ((B.length + 63) / 64 : Nat) := by omega
  have c5 : (0 : Int) ≤ (i % 64 : Nat) := by omega
  obtain ⟨σ', hσ⟩ : ∃ s, s = σ.setO L (.cells (numsL .u64 (ws.set (i / 64) (z : Int))) true 1) := ⟨_, rfl⟩
  have R' : σ'.Row (L + 1) 3 [.int .i64 1, .int .i64 B.length, .slice (hdS L ((B.length + 63) / 64))] := by rw [hσ]; exact R.setO_ne (by omega)
  have e0' := row_int R' (o := 0) rfl
  refine ⟨σ', Runs.intro (fn := Try.f75) (by kernel_rfl) (by kernel_rfl) ⟨km, fun k hk => ?_⟩, ?_, ?_, ⟨⟨ws.set (i / 64) (z : Int), ?_, wb.set hi x1 z2 z3⟩, by simpa using R'⟩⟩
  · have rm := rm k hk
    simp only at rm
    simp only [f75_eq]
    simp only [Option.bind_some, decide_eq_true_eq, decide_eq_false_iff_not, Bool.not_eq_true', Bool.not_true, Bool.not_false, Bool.false_eq_true, Bool.true_eq_false, Bool.not_eq_eq_eq_not, beq_self_eq_true, beqFT, beqTF, decide_true, decide_false, not_false_eq_true, not_true_eq_false, ne_eq, true_and, and_true, false_and, and_false, and_self, if_true, if_false, ite_true, ite_false, Bool.and_true, Bool.and_false, Bool.true_and, Bool.false_and, Bool.or_true, Bool.true_or, Bool.or_false, Bool.false_or, or_true, true_or, or_false, false_or, or_self, AV.asInt, AV.asBool, AV.asSl, AV.asPtr, AV.asFn, AV.asStr, AV.asMap, AV.asIfc, AV.item, List.length_cons, List.length_nil, List.getElem?_cons_zero, List.getElem?_cons_succ, Nat.zero_add, Option.isNone_some, c0, e1, c1, e0, rm, c2, e2, w1, d1, d2, c3, c4, rx, x1, c5, q1, z1, st, ← hσ, e0', w2]
  · rw [hσ]; exact (Kp.refl _ _).setO (Nat.le_refl _)
  · rw [hσ]; exact ⟨rfl, setO_len, fun c hc => by show (σ.objs.set L _)[c]? = _; rw [List.getElem?_set, if_neg (by omega)]⟩
  · rw [hσ]; exact Store.Row.setO_eq W.lt
end Go.Ab

/- A list of bits from packed bits. -/
namespace Go.Ab
open Go Go.Proofs Go.Ab.Wd Go.Ab.Bs Go.Ab.Sai
set_option linter.unusedVariables false
set_option linter.unusedSimpArgs false
theorem callG_same {Γ : Gam} {g : Fun} {args : List AV} {v : AV} {σ : Store} (h : Γ g args { σ with prot := σ.objs.length } = some (v, { σ with prot := σ.objs.length })) : callG Γ true g args σ = some (v, σ) := by
  unfold callG; simp only []; rw [h]; rfl
theorem st_fld {σ : Store} {b es o : Nat} {l : List AV} (r : σ.Row b es l) (hp : σ.prot ≤ b) (h1 : o < l.length) {v : AV} (hv : v.one = true) :
    σ.stL (Ptr.add (some (b, 0)) o) [v] 0 = some (σ.setO b (.cells (l.set o v) true es)) := by
  have := st_cell r hp h1 hv
  simpa [Ptr.add] using this
def aheads (B : List Bool) (i : Nat) : List Int := (List.range ((i + 7) / 8)).map fun j => (onesTo B (512 * j) : Nat)
theorem aheads_length (B : List Bool) (i : Nat) : (aheads B i).length = (i + 7) / 8 := by simp [aheads]
theorem aheads_hit (B : List Bool) {i : Nat} (h : i % 8 = 0) : aheads B (i + 1) = aheads B i ++ [((onesTo B (64 * i) : Nat) : Int)] := by
  unfold aheads
  rw [show (i + 1 + 7) / 8 = (i + 7) / 8 + 1 by omega, List.range_succ, List.map_append]
  simp only [List.map_cons, List.map_nil]
  rw [show 512 * ((i + 7) / 8) = 64 * i by omega]
theorem aheads_miss (B : List Bool) {i : Nat} (h : i % 8 ≠ 0) : aheads B (i + 1) = aheads B i := by
  unfold aheads
  rw [show (i + 1 + 7) / 8 = (i + 7) / 8 by omega]
theorem rankNew_run {σ : Store} {L : Nat} {B : List Bool} (P : Pk σ L B) (hp : σ.prot ≤ σ.objs.length) (hn : B.length < 2 ^ 30) :
    ∃ p σ', Runs Try.prog 76 [.ptr (some (L + 1, 0))] σ (.tuple [.ptr p, .int .i64 0]) σ' ∧ Kp σ.objs.length σ σ' ∧ VecF σ' p B (fun x => σ.objs.length ≤ x ∧ x < σ'.objs.length) := by
  obtain ⟨ws, W, wb⟩ := P.ex
  have R := P.row
  have wl := wb.len
  have e0 := row_int R (o := 0) rfl
  have e1 := row_int R (o := 1) rfl
  have e2 := row_sl R (o := 2) rfl
  obtain ⟨k1, r1⟩ : Runs Try.prog 87 [.ptr (some (L + 1, 0))] σ (.int .i64 1) σ :=
    Runs.intro (fn := Try.f87) (by kernel_rfl) (by kernel_rfl) (Ev.of fun k => by rw [f87_eq]; simp only [Option.bind_some, decide_eq_true_eq, decide_eq_false_iff_not, Bool.not_eq_true', Bool.not_true, Bool.not_false, Bool.false_eq_true, Bool.true_eq_false, Bool.not_eq_eq_eq_not, beq_self_eq_true, beqFT, beqTF, decide_true, decide_false, not_false_eq_true, not_true_eq_false, ne_eq, true_and, and_true, false_and, and_false, and_self, if_true, if_false, ite_true, ite_false, Bool.and_true, Bool.and_false, Bool.true_and, Bool.false_and, Bool.or_true, Bool.true_or, Bool.or_false, Bool.false_or, or_true, true_or, or_false, false_or, or_self, AV.asInt, AV.asBool, AV.asSl, AV.asPtr, AV.asFn, AV.asStr, AV.asMap, AV.asIfc, AV.item, List.length_cons, List.length_nil, List.getElem?_cons_zero, List.getElem?_cons_succ, Nat.zero_add, Option.isNone_some, e0])
  obtain ⟨k2, r2⟩ : Runs Try.prog 88 [.ptr (some (L + 1, 0))] σ (.int .i64 B.length) σ :=
    Runs.intro (fn := Try.f88) (by kernel_rfl) (by kernel_rfl) (Ev.of fun k => by rw [f88_eq]; simp only [Option.bind_some, decide_eq_true_eq, decide_eq_false_iff_not, Bool.not_eq_true', Bool.not_true, Bool.not_false, Bool.false_eq_true, Bool.true_eq_false, Bool.not_eq_eq_eq_not, beq_self_eq_true, beqFT, beqTF, decide_true, decide_false, not_false_eq_true, not_true_eq_false, ne_eq, true_and, and_true, false_and, and_false, and_self, if_true, if_false, ite_true, ite_false, Bool.and_true, Bool.and_false, Bool.true_and, Bool.false_and, Bool.or_true, Bool.true_or, Bool.or_false, Bool.false_or, or_true, true_or, or_false, false_or, or_self, AV.asInt, AV.asBool, AV.asSl, AV.asPtr, AV.asFn, AV.asStr, AV.asMap, AV.asIfc, AV.item, List.length_cons, List.length_nil, List.getElem?_cons_zero, List.getElem?_cons_succ, Nat.zero_add, Option.isNone_some, e1])
  have Wn : Store.Nums .u64 σ (hdS L ((B.length + 63) / 64)) ws := row_nums W (by omega)
  obtain ⟨hw, σ2, ⟨k3, r3⟩, K2, g2⟩ := cloneU_run Wn hp (by omega)
  have hp2 : σ2.prot ≤ σ2.objs.length := by rw [K2.prot]; have := K2.len; omega
  obtain ⟨k4, r4⟩ : Runs Try.prog 89 [.ptr (some (L + 1, 0))] σ (.slice hw) σ2 :=
    Runs.intro (fn := Try.f89) (by kernel_rfl) (by kernel_rfl) ⟨k3, fun k hk => by
      have r3 := r3 k hk
      simp only at r3
      simp only [f89_eq]; simp only [Option.bind_some, decide_eq_true_eq, decide_eq_false_iff_not, Bool.not_eq_true', Bool.not_true, Bool.not_false, Bool.false_eq_true, Bool.true_eq_false, Bool.not_eq_eq_eq_not, beq_self_eq_true, beqFT, beqTF, decide_true, decide_false, not_false_eq_true, not_true_eq_false, ne_eq, true_and, and_true, false_and, and_false, and_self, if_true, if_false, ite_true, ite_false, Bool.and_true, Bool.and_false, Bool.true_and, Bool.false_and, Bool.or_true, Bool.true_or, Bool.or_false, Bool.false_or, or_true, true_or, or_false, false_or, or_self, AV.asInt, AV.asBool, AV.asSl, AV.asPtr, AV.asFn, AV.asStr, AV.asMap, AV.asIfc, AV.item, List.length_cons, List.length_nil, List.getElem?_cons_zero, List.getElem?_cons_succ, Nat.zero_add, Option.isNone_some, e2, r3]⟩
  obtain ⟨b, hb⟩ : ∃ b, b = σ2.objs.length := ⟨_, rfl⟩
  obtain ⟨σ3, h3⟩ : ∃ s, s = σ2.push [.int .i64 B.length, .slice hw, .slice Hdl.nil, .int .i64 0] 4 := ⟨_, rfl⟩
  have K3 : Kp b σ2 σ3 := by rw [h3, hb]; exact Kp.push _ _ (Nat.le_refl _)
  have R3 : σ3.Row b 4 [.int .i64 B.length, .slice hw, .slice Hdl.nil, .int .i64 0] := by rw [h3, hb]; exact Store.Row.new
  have f1 := row_sl R3 (o := 1) rfl
  have lw := nums_len g2.nums
  have l3 : b + 1 ≤ σ3.objs.length := R3.lt
  obtain ⟨r, e, σ4, ha, rfl, K4, R4, g4⟩ := EvI.up (f := fun k s => stepF Try.prog (gm Try.prog k) drawn k Try.f76 [1, 1, 1, 0, 1, 0] [25, 24, 23, 4] s) ws.length
    (fun i s => ∃ s1 ha, s = ([.int .i64 i, .int .i64 ws.length, .slice hw, .ptr (some (b, 0))], s1) ∧ Kp b σ2 s1 ∧ s1.Row b 4 [.int .i64 B.length, .slice hw, .slice ha, .int .i64 (onesTo B (64 * i) : Nat)] ∧ GrowI s1 (b + 1) ha (aheads B i))
    (fun r => ∃ s1 ha, r = (AX.exit 1, [(4, .ptr (some (b, 0)))], s1) ∧ Kp b σ2 s1 ∧ s1.Row b 4 [.int .i64 B.length, .slice hw, .slice ha, .int .i64 (onesTo B (64 * ws.length) : Nat)] ∧ GrowI s1 (b + 1) ha (aheads B ws.length))
    (by
      rintro i s hi ⟨s1, ha, rfl, kk, rr, g⟩
      have i0 : (0 : Int) ≤ i := by omega
      have i1 : (i : Int) < ws.length := by omega
      have i2 : (i : Int) < hw.len := by omega
      have w := wsucc hi (by omega)
      have hps : s1.prot ≤ b := by rw [kk.prot, hb]; exact hp2
      have rx := nums_rd (Store.Sl.kp g2.nums (hb ▸ kk)) i0 i1
      obtain ⟨x, x1, x2, x3⟩ := wb.bit i hi
      have op := ones_pop x3 64 (Nat.le_refl _)
      have ol := onesTo_le B (64 * i)
      have pl := Pop.pop_le 64 x
      have w1 : IntKind.wrap .i64 ((onesTo B (64 * i) : Nat) + (Pop.pop 64 x : Nat)) = (onesTo B (64 * (i + 1)) : Nat) := by
        rw [wrap64 (by omega) (by omega), show 64 * (i + 1) = 64 * i + 64 by omega, op]; omega
      have q2 := row_sl rr (o := 2) rfl
      have q3 := row_int rr (o := 3) rfl
      by_cases c : i % 8 = 0
      · have c' : Int.tmod (i : Int) 8 = 0 := by rw [Int.tmod_eq_emod_of_nonneg i0]; omega
        obtain ⟨h', s2, e2, k2, g2'⟩ := g.app (by omega) rr.lt (onesTo B (64 * i) : Nat) (by rw [aheads_length]; omega)
        have rr2 := rr.kp k2 (Nat.lt_succ_self b)
        have p2 : s2.prot ≤ b := by rw [k2.prot]; exact hps
        have t1 := st_fld rr2 p2 (o := 2) (by simp) (v := .slice h') rfl
        obtain ⟨s3, hs3⟩ : ∃ s, s = s2.setO b (.cells ([.int .i64 B.length, .slice hw, .slice ha, .int .i64 (onesTo B (64 * i) : Nat)].set 2 (.slice h')) true 4) := ⟨_, rfl⟩
        rw [← hs3] at t1
        have rr3 : s3.Row b 4 [.int .i64 B.length, .slice hw, .slice h', .int .i64 (onesTo B (64 * i) : Nat)] := by rw [hs3]; exact Store.Row.setO_eq rr2.lt
        have q4 := row_int rr3 (o := 3) rfl
        have p3 : s3.prot ≤ b := by rw [hs3]; exact p2
        have t2 := st_fld rr3 p3 (o := 3) (by simp) (v := .int .i64 (onesTo B (64 * (i + 1)) : Nat)) rfl
        obtain ⟨s4, hs4⟩ : ∃ s, s = s3.setO b (.cells ([.int .i64 B.length, .slice hw, .slice h', .int .i64 (onesTo B (64 * i) : Nat)].set 3 (.int .i64 (onesTo B (64 * (i + 1)) : Nat))) true 4) := ⟨_, rfl⟩
        rw [← hs4] at t2
        obtain ⟨n5, r5⟩ := count_run { s3 with prot := s3.objs.length } x2
        refine ⟨([.int .i64 (i + 1 : Nat), .int .i64 ws.length, .slice hw, .ptr (some (b, 0))], s4), ⟨n5, fun k hk => ?_⟩, s4, h', rfl, ?_, ?_, ?_⟩
        · have r5 := r5 k hk
          simp only at r5
          have r6 := callG_same r5
          simp only [f76_L111010]
          simp only [Option.bind_some, decide_eq_true_eq, decide_eq_false_iff_not, Bool.not_eq_true', Bool.not_true, Bool.not_false, Bool.false_eq_true, Bool.true_eq_false, Bool.not_eq_eq_eq_not, beq_self_eq_true, beqFT, beqTF, decide_true, decide_false, not_false_eq_true, not_true_eq_false, ne_eq, true_and, and_true, false_and, and_false, and_self, if_true, if_false, ite_true, ite_false, Bool.and_true, Bool.and_false, Bool.true_and, Bool.false_and, Bool.or_true, Bool.true_or, Bool.or_false, Bool.false_or, or_true, true_or, or_false, false_or, or_self, AV.asInt, AV.asBool, AV.asSl, AV.asPtr, AV.asFn, AV.asStr, AV.asMap, AV.asIfc, AV.item, List.length_cons, List.length_nil, List.getElem?_cons_zero, List.getElem?_cons_succ, Nat.zero_add, i0, i1, i2, rx, x1, c', q2, q3, read1, e2, t1, q4, r6, w1, t2, w]
        · rw [hs4, hs3]; exact ((kk.trans (k2.mono (by omega))).setO (Nat.le_refl _)).setO (Nat.le_refl _)
        · rw [hs4]; exact Store.Row.setO_eq rr3.lt
        · rw [aheads_hit B c, hs4, hs3]; exact (g2'.setO (Nat.lt_succ_self b)).setO (Nat.lt_succ_self b)
      · have c' : ¬ Int.tmod (i : Int) 8 = 0 := by rw [Int.tmod_eq_emod_of_nonneg i0]; omega
        have t2 := st_fld rr hps (o := 3) (by simp) (v := .int .i64 (onesTo B (64 * (i + 1)) : Nat)) rfl
        obtain ⟨s4, hs4⟩ : ∃ s, s = s1.setO b (.cells ([.int .i64 B.length, .slice hw, .slice ha, .int .i64 (onesTo B (64 * i) : Nat)].set 3 (.int .i64 (onesTo B (64 * (i + 1)) : Nat))) true 4) := ⟨_, rfl⟩
        rw [← hs4] at t2
        obtain ⟨n5, r5⟩ := count_run { s1 with prot := s1.objs.length } x2
        refine ⟨([.int .i64 (i + 1 : Nat), .int .i64 ws.length, .slice hw, .ptr (some (b, 0))], s4), ⟨n5, fun k hk => ?_⟩, s4, ha, rfl, ?_, ?_, ?_⟩
        · have r5 := r5 k hk
          simp only at r5
          have r6 := callG_same r5
          simp only [f76_L111010]
          simp only [Option.bind_some, decide_eq_true_eq, decide_eq_false_iff_not, Bool.not_eq_true', Bool.not_true, Bool.not_false, Bool.false_eq_true, Bool.true_eq_false, Bool.not_eq_eq_eq_not, beq_self_eq_true, beqFT, beqTF, decide_true, decide_false, not_false_eq_true, not_true_eq_false, ne_eq, true_and, and_true, false_and, and_false, and_self, if_true, if_false, ite_true, ite_false, Bool.and_true, Bool.and_false, Bool.true_and, Bool.false_and, Bool.or_true, Bool.true_or, Bool.or_false, Bool.false_or, or_true, true_or, or_false, false_or, or_self, AV.asInt, AV.asBool, AV.asSl, AV.asPtr, AV.asFn, AV.asStr, AV.asMap, AV.asIfc, AV.item, List.length_cons, List.length_nil, List.getElem?_cons_zero, List.getElem?_cons_succ, Nat.zero_add, i0, i1, i2, rx, x1, c', q3, r6, w1, t2, w]
        · rw [hs4]; exact kk.setO (Nat.le_refl _)
        · rw [hs4]; exact Store.Row.setO_eq rr.lt
        · rw [aheads_miss B c, hs4]; exact g.setO (Nat.lt_succ_self b))
    (by
      rintro s ⟨s1, ha, rfl, kk, rr, g⟩
      exact ⟨(AX.exit 1, [(4, .ptr (some (b, 0)))], s1), Ev.of fun k => by simp only [f76_L111010]; simp only [Option.bind_some, decide_eq_true_eq, decide_eq_false_iff_not, Bool.not_eq_true', Bool.not_true, Bool.not_false, Bool.false_eq_true, Bool.true_eq_false, Bool.not_eq_eq_eq_not, beq_self_eq_true, beqFT, beqTF, decide_true, decide_false, not_false_eq_true, not_true_eq_false, ne_eq, true_and, and_true, false_and, and_false, and_self, if_true, if_false, ite_true, ite_false, Bool.and_true, Bool.and_false, Bool.true_and, Bool.false_and, Bool.or_true, Bool.true_or, Bool.or_false, Bool.false_or, or_true, true_or, or_false, false_or, or_self, AV.asInt, AV.asBool, AV.asSl, AV.asPtr, AV.asFn, AV.asStr, AV.asMap, AV.asIfc, AV.item, List.length_cons, List.length_nil, List.getElem?_cons_zero, List.getElem?_cons_succ, Nat.zero_add, Int.lt_irrefl], s1, ha, rfl, kk, rr, g⟩)
    (s := ([.int .i64 0, .int .i64 ws.length, .slice hw, .ptr (some (b, 0))], σ3)) ⟨σ3, Hdl.nil, rfl, K3, by simpa [onesTo_zero] using R3, Grow.nil _ _ _⟩
  rw [onesTo_ge B (i := 64 * ws.length) (by omega)] at R4
  obtain ⟨n5, e⟩ := loopF_ev e
  have K24 : Kp σ2.objs.length σ2 σ4 := hb ▸ K4
  refine ⟨some (b, 0), σ4, Runs.intro (fn := Try.f76) (by kernel_rfl) (by kernel_rfl) ⟨k1 + k2 + k4 + n5, fun k hk => ?_⟩, K2.all K24, ⟨⟨b, hw, ha, ws, aheads B ws.length, rfl, R4, Store.Sl.kp g2.nums K24, g4.ints, wb, ⟨aheads_length _ _, fun j hj => ?_⟩, ⟨by rw [hb]; exact K2.len, R4.lt⟩, fun x hx => ?_, fun x hx => ?_⟩, hn⟩⟩
  · have r1 := r1 k (by omega)
    have r2 := r2 k (by omega)
    have r4 := r4 k (by omega)
    have e := e k (by omega)
    simp only at r1 r2 r4 e
    simp only [f76_eq]
    simp only [Option.bind_some, decide_eq_true_eq, decide_eq_false_iff_not, Bool.not_eq_true', Bool.not_true, Bool.not_false, Bool.false_eq_true, Bool.true_eq_false, Bool.not_eq_eq_eq_not, beq_self_eq_true, beqFT, beqTF, decide_true, decide_false, not_false_eq_true, not_true_eq_false, ne_eq, true_and, and_true, false_and, and_false, and_self, if_true, if_false, ite_true, ite_false, Bool.and_true, Bool.and_false, Bool.true_and, Bool.false_and, Bool.or_true, Bool.true_or, Bool.or_false, Bool.false_or, or_true, true_or, or_false, false_or, or_self, AV.asInt, AV.asBool, AV.asSl, AV.asPtr, AV.asFn, AV.asStr, AV.asMap, AV.asIfc, AV.item, List.length_cons, List.length_nil, List.getElem?_cons_zero, List.getElem?_cons_succ, Nat.zero_add, Option.isNone_some, r1, r2, r4, ← h3, ← hb, f1, lw, e]
    rw [f76_X111010_1]
  · rw [rd_getElem hj]; simp [aheads]
  · obtain ⟨o, ho⟩ : ∃ o, hw.a = some (x, o) := by
      cases ha : hw.a with
      | none => simp [Hdl.row, ha] at hx
      | some bo => obtain ⟨c, o⟩ := bo; simp [Hdl.row, ha] at hx; subst hx; exact ⟨o, rfl⟩
    have := g2.rowLt x o ho
    exact ⟨this.1, by have := K4.len; omega⟩
  · obtain ⟨o, ho⟩ : ∃ o, ha.a = some (x, o) := by
      cases h : ha.a with
      | none => simp [Hdl.row, h] at hx
      | some bo => obtain ⟨c, o⟩ := bo; simp [Hdl.row, h] at hx; subst hx; exact ⟨o, rfl⟩
    have := g4.rowLt x o ho
    have := K2.len
    exact ⟨by omega, by omega⟩
end Go.Ab

/- How wide numbers are. -/
namespace Go.Ab
open Go Go.Proofs Go.Ab.Wd Go.Ab.Bs Go.Ab.Sai
set_option linter.unusedVariables false
set_option linter.unusedSimpArgs false
def IsLen (x c : Nat) : Prop := x < 2 ^ c ∧ (c = 0 ∨ 2 ^ (c - 1) ≤ x)
theorem IsLen.shift {x c s : Nat} (h : IsLen (x / 2 ^ s) c) (hs : 2 ^ s ≤ x) : IsLen x (s + c) := by
  obtain ⟨h1, h2⟩ := h
  have p : 0 < 2 ^ s := Nat.two_pow_pos s
  have g : 1 ≤ x / 2 ^ s := (Nat.le_div_iff_mul_le p).2 (by omega)
  have c0 : c ≠ 0 := by rintro rfl; simp at h1; omega
  refine ⟨?_, .inr ?_⟩
  · rw [Nat.pow_add, Nat.mul_comm]; exact (Nat.div_lt_iff_lt_mul p).1 h1
  · rcases h2 with h2 | h2
    · exact absurd h2 c0
    · rw [show s + c - 1 = s + (c - 1) by omega, Nat.pow_add, Nat.mul_comm]
      exact (Nat.le_div_iff_mul_le p).1 h2
theorem IsLen.uniq {x c d : Nat} (h : IsLen x c) (g : IsLen x d) : c = d := by
  obtain ⟨h1, h2⟩ := h
  obtain ⟨g1, g2⟩ := g
  have m : ∀ {a b : Nat}, a < b → x < 2 ^ a → (b = 0 ∨ 2 ^ (b - 1) ≤ x) → False := fun {a b} hab ha hb => by
    rcases hb with hb | hb
    · omega
    · have : 2 ^ a ≤ 2 ^ (b - 1) := Nat.pow_le_pow_right (by omega) (by omega)
      omega
  by_cases c1 : c < d
  · exact (m c1 h1 g2).elim
  · by_cases c2 : d < c
    · exact (m c2 g1 h2).elim
    · omega
theorem tab_ok : ∀ v : Fin 256, ∃ c : Fin 9, strAt len8tab v.val = some (c.val : Int) ∧ (v.val < 2 ^ c.val ∧ (c.val = 0 ∨ 2 ^ (c.val - 1) ≤ v.val)) := by decide +kernel
theorem tab_get {v : Nat} (hv : v < 256) : ∃ c : Nat, c ≤ 8 ∧ strAt len8tab v = some (c : Int) ∧ IsLen v c := by
  obtain ⟨c, h1, h2⟩ := tab_ok ⟨v, hv⟩
  exact ⟨c.val, by omega, h1, h2⟩
theorem wrapu8 {x : Int} (h0 : 0 ≤ x) (h1 : x < 256) : IntKind.wrap .u8 x = x := by
  unfold IntKind.wrap
  have e2 : (2 : Int) ^ IntKind.u8.bits = 256 := by decide
  simp [e2, IntKind.signed]; omega
theorem len64_run (σ : Store) {x : Nat} (hx : x < 2 ^ 24) : ∃ c : Nat, c ≤ 24 ∧ Runs Try.prog 84 [.int .u64 x] σ (.int .i64 c) σ ∧ IsLen x c := by
  have c1 : ¬ (4294967296 : Int) ≤ x := by omega
  have s16 : shrI .u64 (x : Int) 16 = ((x / 65536 : Nat) : Int) := shr_u64 (s := 16) (by omega)
  have s8 : shrI .u64 (x : Int) 8 = ((x / 256 : Nat) : Int) := shr_u64 (s := 8) (by omega)
  by_cases c2 : 65536 ≤ x
  · obtain ⟨c, hc, ht, hl⟩ := tab_get (v := x / 65536) (by omega)
    have c2' : (65536 : Int) ≤ x := by omega
    have c3 : ¬ (256 : Int) ≤ (x / 65536 : Nat) := by omega
    have w1 : IntKind.wrap .u8 ((x / 65536 : Nat) : Int) = (x / 65536 : Nat) := wrapu8 (by omega) (by omega)
    have c4 : (0 : Int) ≤ (x / 65536 : Nat) := by omega
    have w2 : IntKind.wrap .i64 (0 + 16) = 16 := by decide
    have w3 : IntKind.wrap .i64 (c : Int) = c := wrap64 (by omega) (by omega)
    have w4 : IntKind.wrap .i64 (16 + (c : Int)) = (16 + c : Nat) := by rw [wrap64 (by omega) (by omega)]; omega
    exact ⟨16 + c, by omega, Runs.intro (fn := Try.f84) (by kernel_rfl) (by kernel_rfl) (Ev.of fun k => by
      rw [f84_eq]; simp only [Option.bind_some, decide_eq_true_eq, decide_eq_false_iff_not, Bool.not_eq_true', Bool.not_true, Bool.not_false, Bool.false_eq_true, Bool.true_eq_false, Bool.not_eq_eq_eq_not, beq_self_eq_true, beqFT, beqTF, decide_true, decide_false, not_false_eq_true, not_true_eq_false, ne_eq, true_and, and_true, false_and, and_false, and_self, if_true, if_false, ite_true, ite_false, Bool.and_true, Bool.and_false, Bool.true_and, Bool.false_and, Bool.or_true, Bool.true_or, Bool.or_false, Bool.false_or, or_true, true_or, or_false, false_or, or_self, AV.asInt, AV.asBool, AV.asSl, AV.asPtr, AV.asFn, AV.asStr, AV.asMap, AV.asIfc, AV.item, List.length_cons, List.length_nil, List.getElem?_cons_zero, List.getElem?_cons_succ, Nat.zero_add, c1, c2', s16, c3, w1, c4, Int.toNat_natCast, ht, w2, w3, w4]), IsLen.shift (s := 16) hl (by omega)⟩
  · by_cases c3 : 256 ≤ x
    · obtain ⟨c, hc, ht, hl⟩ := tab_get (v := x / 256) (by omega)
      have c2' : ¬ (65536 : Int) ≤ x := by omega
      have c3' : (256 : Int) ≤ x := by omega
      have w1 : IntKind.wrap .u8 ((x / 256 : Nat) : Int) = (x / 256 : Nat) := wrapu8 (by omega) (by omega)
      have c4 : (0 : Int) ≤ (x / 256 : Nat) := by omega
      have w2 : IntKind.wrap .i64 (0 + 8) = 8 := by decide
      have w3 : IntKind.wrap .i64 (c : Int) = c := wrap64 (by omega) (by omega)
      have w4 : IntKind.wrap .i64 (8 + (c : Int)) = (8 + c : Nat) := by rw [wrap64 (by omega) (by omega)]; omega
      exact ⟨8 + c, by omega, Runs.intro (fn := Try.f84) (by kernel_rfl) (by kernel_rfl) (Ev.of fun k => by
        rw [f84_eq]; simp only [Option.bind_some, decide_eq_true_eq, decide_eq_false_iff_not, Bool.not_eq_true', Bool.not_true, Bool.not_false, Bool.false_eq_true, Bool.true_eq_false, Bool.not_eq_eq_eq_not, beq_self_eq_true, beqFT, beqTF, decide_true, decide_false, not_false_eq_true, not_true_eq_false, ne_eq, true_and, and_true, false_and, and_false, and_self, if_true, if_false, ite_true, ite_false, Bool.and_true, Bool.and_false, Bool.true_and, Bool.false_and, Bool.or_true, Bool.true_or, Bool.or_false, Bool.false_or, or_true, true_or, or_false, false_or, or_self, AV.asInt, AV.asBool, AV.asSl, AV.asPtr, AV.asFn, AV.asStr, AV.asMap, AV.asIfc, AV.item, List.length_cons, List.length_nil, List.getElem?_cons_zero, List.getElem?_cons_succ, Nat.zero_add, c1, c2', s8, c3', w1, c4, Int.toNat_natCast, ht, w2, w3, w4]), IsLen.shift (s := 8) hl (by omega)⟩
    · obtain ⟨c, hc, ht, hl⟩ := tab_get (v := x) (by omega)
      have c2' : ¬ (65536 : Int) ≤ x := by omega
      have c3' : ¬ (256 : Int) ≤ x := by omega
      have w1 : IntKind.wrap .u8 (x : Int) = x := wrapu8 (by omega) (by omega)
      have c4 : (0 : Int) ≤ (x : Int) := by omega
      have w3 : IntKind.wrap .i64 (c : Int) = c := wrap64 (by omega) (by omega)
      have w4 : IntKind.wrap .i64 (0 + (c : Int)) = c := by rw [wrap64 (by omega) (by omega)]; omega
      exact ⟨c, by omega, Runs.intro (fn := Try.f84) (by kernel_rfl) (by kernel_rfl) (Ev.of fun k => by
        rw [f84_eq]; simp only [Option.bind_some, decide_eq_true_eq, decide_eq_false_iff_not, Bool.not_eq_true', Bool.not_true, Bool.not_false, Bool.false_eq_true, Bool.true_eq_false, Bool.not_eq_eq_eq_not, beq_self_eq_true, beqFT, beqTF, decide_true, decide_false, not_false_eq_true, not_true_eq_false, ne_eq, true_and, and_true, false_and, and_false, and_self, if_true, if_false, ite_true, ite_false, Bool.and_true, Bool.and_false, Bool.true_and, Bool.false_and, Bool.or_true, Bool.true_or, Bool.or_false, Bool.false_or, or_true, true_or, or_false, false_or, or_self, AV.asInt, AV.asBool, AV.asSl, AV.asPtr, AV.asFn, AV.asStr, AV.asMap, AV.asIfc, AV.item, List.length_cons, List.length_nil, List.getElem?_cons_zero, List.getElem?_cons_succ, Nat.zero_add, c1, c2', c3', w1, c4, Int.toNat_natCast, ht, w3, w4]), hl⟩
/-- The width of numbers up to one. -/
def IsWid (x w : Nat) : Prop := 1 ≤ w ∧ w ≤ 24 ∧ x < 2 ^ w ∧ (w = 1 ∨ 2 ^ (w - 1) ≤ x)
theorem IsWid.uniq {x c d : Nat} (h : IsWid x c) (g : IsWid x d) : c = d := by
  obtain ⟨h0, _, h1, h2⟩ := h
  obtain ⟨g0, _, g1, g2⟩ := g
  have m : ∀ {a b : Nat}, 1 ≤ a → a < b → x < 2 ^ a → (b = 1 ∨ 2 ^ (b - 1) ≤ x) → False := fun {a b} ha0 hab ha hb => by
    rcases hb with hb | hb
    · omega
    · have : 2 ^ a ≤ 2 ^ (b - 1) := Nat.pow_le_pow_right (by omega) (by omega)
      omega
  by_cases c1 : c < d
  · exact (m h0 c1 h1 g2).elim
  · by_cases c2 : d < c
    · exact (m g0 c2 g1 h2).elim
    · omega
theorem width_run (σ : Store) {x : Nat} (hx : x < 2 ^ 24) : ∃ w : Nat, Runs Try.prog 72 [.int .u64 x] σ (.int .i64 w) σ ∧ IsWid x w := by
  obtain ⟨c, c24, ⟨k, r⟩, h1, h2⟩ := len64_run σ hx
  have e : mx2 (Int.ofNat 1) c = ((max 1 c : Nat) : Int) := by rw [mx2_eq]; simp only [Int.ofNat_eq_natCast]; omega
  refine ⟨max 1 c, Runs.intro (fn := Try.f72) (by kernel_rfl) (by kernel_rfl) ⟨k, fun m hm => ?_⟩, by omega, by omega, ?_, ?_⟩
  · have r := r m hm
    simp only at r
    simp only [f72_eq]
    simp only [Option.bind_some, decide_eq_true_eq, decide_eq_false_iff_not, Bool.not_eq_true', Bool.not_true, Bool.not_false, Bool.false_eq_true, Bool.true_eq_false, Bool.not_eq_eq_eq_not, beq_self_eq_true, beqFT, beqTF, decide_true, decide_false, not_false_eq_true, not_true_eq_false, ne_eq, true_and, and_true, false_and, and_false, and_self, if_true, if_false, ite_true, ite_false, Bool.and_true, Bool.and_false, Bool.true_and, Bool.false_and, Bool.or_true, Bool.true_or, Bool.or_false, Bool.false_or, or_true, true_or, or_false, false_or, or_self, AV.asInt, AV.asBool, AV.asSl, AV.asPtr, AV.asFn, AV.asStr, AV.asMap, AV.asIfc, AV.item, List.length_cons, List.length_nil, List.getElem?_cons_zero, List.getElem?_cons_succ, Nat.zero_add, r, e]
  · by_cases c1 : 1 ≤ c
    · rw [Nat.max_eq_right c1]; exact h1
    · rw [show c = 0 by omega, Nat.pow_zero] at h1
      rw [show x = 0 by omega]; exact Nat.two_pow_pos _
  · by_cases c1 : 2 ≤ c
    · rw [Nat.max_eq_right (by omega)]; rcases h2 with h2 | h2
      · omega
      · exact .inr h2
    · exact .inl (by omega)
end Go.Ab

/- A level of a wavelet matrix. -/
namespace Go.Ab
open Go Go.Proofs Go.Ab.Wd Go.Ab.Bs Go.Ab.Sai
set_option linter.unusedVariables false
set_option linter.unusedSimpArgs false
theorem bit_test {x : Int} {k : Nat} (x0 : 0 ≤ x) (x1 : x < 2 ^ 62) (hk : k ≤ 64) : bitOp .and .i64 (shrI .i64 x (k : Int)) 1 = ((x.toNat / 2 ^ k % 2 : Nat) : Int) := by
  obtain ⟨a, rfl⟩ := Int.eq_ofNat_of_zero_le x0
  have e : IntKind.i64.bits = 64 := by decide
  have h1 : a / 2 ^ k ≤ a := Nat.div_le_self _ _
  have q : shrI .i64 (a : Int) (k : Int) = ((a / 2 ^ k : Nat) : Int) := by
    unfold shrI
    rw [e, Int.toNat_natCast, Nat.min_eq_left hk, Int.fdiv_eq_ediv_of_nonneg _ (Int.le_of_lt (Int.pow_pos (by omega)))]
    simp
  rw [q]
  show IntKind.wrap .i64 (BitVec.ofInt 64 ((a / 2 ^ k : Nat) : Int) &&& BitVec.ofInt 64 1).toNat = _
  have h2 : (BitVec.ofInt 64 ((a / 2 ^ k : Nat) : Int) &&& BitVec.ofInt 64 1).toNat = a / 2 ^ k % 2 := by
    rw [BitVec.ofInt_natCast, BitVec.toNat_and, BitVec.toNat_ofNat, show (BitVec.ofInt 64 1).toNat = 1 by decide, Nat.and_one_is_mod]
    generalize a / 2 ^ k = u
    omega
  rw [h2, wrap64 (by omega) (by omega), Int.toNat_natCast]
theorem bit_on {x : Int} {k : Nat} (x0 : 0 ≤ x) (x1 : x < 2 ^ 62) (hk : k ≤ 64) (h : bitb k x = true) : bitOp .and .i64 (shrI .i64 x (k : Int)) 1 = 1 := by
  rw [bit_test x0 x1 hk]; simp only [bitb, decide_eq_true_eq] at h; omega
theorem bit_off {x : Int} {k : Nat} (x0 : 0 ≤ x) (x1 : x < 2 ^ 62) (hk : k ≤ 64) (h : bitb k x = false) : ¬ bitOp .and .i64 (shrI .i64 x (k : Int)) 1 = 1 := by
  rw [bit_test x0 x1 hk]; simp only [bitb, decide_eq_false_iff_not] at h; omega
def bitsTo (k n : Nat) (r : List Int) (i : Nat) : List Bool := (r.take i).map (bitb k) ++ List.replicate (n - i) false
theorem bitsTo_len {k : Nat} {r : List Int} {i : Nat} (hi : i ≤ r.length) : (bitsTo k r.length r i).length = r.length := by simp [bitsTo]; omega
theorem bitsTo_off {k : Nat} {r : List Int} {i : Nat} (hi : i < r.length) (h : bitb k (rd r i) = false) : bitsTo k r.length r (i + 1) = bitsTo k r.length r i := by
  unfold bitsTo
  rw [take_rd hi, List.map_append, show r.length - i = (r.length - (i + 1)) + 1 by omega, List.replicate_succ, List.append_assoc]
  simp [h]
theorem bitsTo_on {k : Nat} {r : List Int} {i : Nat} (hi : i < r.length) (h : bitb k (rd r i) = true) : bitsTo k r.length r (i + 1) = (bitsTo k r.length r i).set i true := by
  unfold bitsTo
  rw [take_rd hi, List.map_append, show r.length - i = (r.length - (i + 1)) + 1 by omega, List.replicate_succ, List.append_assoc, List.set_append_right _ _ (show (List.map (bitb k) (List.take i r)).length ≤ i by simp; omega)]
  simp [h, Nat.min_eq_left (Nat.le_of_lt hi)]
theorem bitsTo_end {k : Nat} {r : List Int} : bitsTo k r.length r r.length = r.map (bitb k) := by simp [bitsTo]
theorem split_loop {σ : Store} {L : Nat} {r : List Int} {hr : Hdl} {k : Nat} {pm : Ptr} (hR : σ.Ints hr r) (hL : σ.objs.length = L + 2) (hRo : ∀ x, hr.row = some x → x < L) (P : Pk σ L (List.replicate r.length false)) (hp : σ.prot ≤ L) (hn : r.length < 2 ^ 30) (hk : k ≤ 64) (hx : ∀ x ∈ r, 0 ≤ x ∧ x < 2 ^ 62) :
    ∃ lo hi σ', EvI (fun kk s => stepF Try.prog (gm Try.prog kk) drawn kk Try.f55 [1, 1, 1, 1, 0, 1, 0, 0, 1, 0, 0, 1, 1, 0, 1, 0] [61, 60, 59, 12, 11, 9, 8, 6] s)
      ([.int .i64 0, .int .i64 r.length, .slice hr, .slice Hdl.nil, .slice Hdl.nil, .ptr (some (L + 1, 0)), .int .i64 k, .ptr pm], σ) (AX.exit 2, [(12, .slice hi), (11, .slice lo), (9, .ptr (some (L + 1, 0))), (8, .int .i64 k), (6, .ptr pm)], σ') ∧
      Kp L σ σ' ∧ Pk σ' L (r.map (bitb k)) ∧ GrowI σ' (L + 2) lo (low k r) ∧ GrowI σ' (L + 2) hi (high k r) ∧ (∀ x, lo.row = some x → hi.row ≠ some x) := by
  have lr := hR.ilen
  obtain ⟨rr, e, lo, hi, σ', rfl, h1, h2, h3, h4, h5⟩ := EvI.up (f := fun kk s => stepF Try.prog (gm Try.prog kk) drawn kk Try.f55 [1, 1, 1, 1, 0, 1, 0, 0, 1, 0, 0, 1, 1, 0, 1, 0] [61, 60, 59, 12, 11, 9, 8, 6] s) r.length
    (fun i s => ∃ lo hi s1, s = ([.int .i64 i, .int .i64 r.length, .slice hr, .slice hi, .slice lo, .ptr (some (L + 1, 0)), .int .i64 k, .ptr pm], s1) ∧ Kp L σ s1 ∧ Pk s1 L (bitsTo k r.length r i) ∧ GrowI s1 (L + 2) lo (low k (r.take i)) ∧ GrowI s1 (L + 2) hi (high k (r.take i)) ∧ (∀ x, lo.row = some x → hi.row ≠ some x))
    (fun q => ∃ lo hi s1, q = (AX.exit 2, [(12, .slice hi), (11, .slice lo), (9, .ptr (some (L + 1, 0))), (8, .int .i64 k), (6, .ptr pm)], s1) ∧ Kp L σ s1 ∧ Pk s1 L (r.map (bitb k)) ∧ GrowI s1 (L + 2) lo (low k r) ∧ GrowI s1 (L + 2) hi (high k r) ∧ (∀ x, lo.row = some x → hi.row ≠ some x))
    (by
      rintro i s hi_ ⟨lo, hi, s1, rfl, kk, P1, ga, gb, d⟩
      have i0 : (0 : Int) ≤ i := by omega
      have i1 : (i : Int) < r.length := by omega
      have w := wsucc hi_ (by omega)
      have hR1 : s1.Ints hr r := Store.Sl.keep hR fun c o ho => kk.keep c (hRo c (by simp [Hdl.row, ho]))
      have rx := hR1.rd i0 i1
      have hxr := hx _ (rd_mem i0 i1)
      have l1 := kk.len
      have p1 : s1.prot ≤ L := by rw [kk.prot]; exact hp
      have k0 : (0 : Int) ≤ k := by omega
      cases hb : bitb k (rd r i) with
      | true =>
        have c := bit_on hxr.1 hxr.2 hk hb
        obtain ⟨s2, ⟨n2, r2⟩, k2, o2, P2⟩ := set_run P1 p1 (i := i) (by rw [bitsTo_len (Nat.le_of_lt hi_)]; exact hi_) (by rw [bitsTo_len (Nat.le_of_lt hi_)]; exact hn)
        rw [← bitsTo_on hi_ hb] at P2
        have l2 := o2.len
        have ga2 : GrowI s2 (L + 2) lo _ := ga.keep fun c o ho => o2.off c (by have := ga.rowLt c o ho; omega)
        have gb2 : GrowI s2 (L + 2) hi _ := gb.keep fun c o ho => o2.off c (by have := gb.rowLt c o ho; omega)
        obtain ⟨h', s3, e3, k3, gb3, fr, rw3⟩ := growN_appX (k := .i64) (bs := 8) gb2 (by rw [k2.prot]; omega) (by omega) (rd r i) (by omega) (by omega) (by
          have := List.length_filter_le (bitb k) (r.take i); simp [high] at this ⊢; omega)
        have ga3 : GrowI s3 (L + 2) lo _ := ga2.keepX fun x hx => fr x (ga2.has x hx) fun e => d x hx e
        refine ⟨_, ⟨n2, fun m hm => ?_⟩, lo, h', s3, rfl, (kk.trans k2).trans (k3.mono (by omega)), ⟨?_, P2.row.kp k3 (by omega)⟩, ?_, ?_, fun x hx => ?_⟩
        · have r2 := r2 m hm
          simp only at r2
          simp only [f55_L1111010010011010]
          simp only [Option.bind_some, decide_eq_true_eq, decide_eq_false_iff_not, Bool.not_eq_true', Bool.not_true, Bool.not_false, Bool.false_eq_true, Bool.true_eq_false, Bool.not_eq_eq_eq_not, beq_self_eq_true, beqFT, beqTF, decide_true, decide_false, not_false_eq_true, not_true_eq_false, ne_eq, true_and, and_true, false_and, and_false, and_self, if_true, if_false, ite_true, ite_false, Bool.and_true, Bool.and_false, Bool.true_and, Bool.false_and, Bool.or_true, Bool.true_or, Bool.or_false, Bool.false_or, or_true, true_or, or_false, false_or, or_self, AV.asInt, AV.asBool, AV.asSl, AV.asPtr, AV.asFn, AV.asStr, AV.asMap, AV.asIfc, AV.item, List.length_cons, List.length_nil, List.getElem?_cons_zero, List.getElem?_cons_succ, Nat.zero_add, lr, i0, i1, rx, k0, c, r2, read1, e3, w]
        · obtain ⟨ws, W, wb⟩ := P2.ex
          exact ⟨ws, W.kp k3 (by omega), wb⟩
        · rw [take_rd hi_, low, List.filter_append, List.filter_cons_of_neg (by simp [hb]), List.filter_nil, List.append_nil]; exact ga3
        · rw [take_rd hi_, high, List.filter_append, List.filter_cons_of_pos hb]; exact gb3
        · rcases rw3 with h | h
          · rw [h]; exact d x hx
          · intro e; have := h x e; have := ga2.has x hx; omega
      | false =>
        have c := bit_off hxr.1 hxr.2 hk hb
        obtain ⟨h', s3, e3, k3, ga3, fr, rw3⟩ := growN_appX (k := .i64) (bs := 8) ga (by omega) (by omega) (rd r i) (by omega) (by omega) (by
          have := List.length_filter_le (fun x => !bitb k x) (r.take i); simp [low] at this ⊢; omega)
        have gb3 : GrowI s3 (L + 2) hi _ := gb.keepX fun x hx => fr x (gb.has x hx) fun e => d x e hx
        refine ⟨_, Ev.of fun m => ?_, h', hi, s3, rfl, kk.trans (k3.mono (by omega)), ?_, ?_, ?_, fun x hx => ?_⟩
        · simp only [f55_L1111010010011010]
          simp only [Option.bind_some, decide_eq_true_eq, decide_eq_false_iff_not, Bool.not_eq_true', Bool.not_true, Bool.not_false, Bool.false_eq_true, Bool.true_eq_false, Bool.not_eq_eq_eq_not, beq_self_eq_true, beqFT, beqTF, decide_true, decide_false, not_false_eq_true, not_true_eq_false, ne_eq, true_and, and_true, false_and, and_false, and_self, if_true, if_false, ite_true, ite_false, Bool.and_true, Bool.and_false, Bool.true_and, Bool.false_and, Bool.or_true, Bool.true_or, Bool.or_false, Bool.false_or, or_true, true_or, or_false, false_or, or_self, AV.asInt, AV.asBool, AV.asSl, AV.asPtr, AV.asFn, AV.asStr, AV.asMap, AV.asIfc, AV.item, List.length_cons, List.length_nil, List.getElem?_cons_zero, List.getElem?_cons_succ, Nat.zero_add, lr, i0, i1, rx, k0, c, read1, e3, w]
        · rw [bitsTo_off hi_ hb]
          obtain ⟨ws, W, wb⟩ := P1.ex
          exact ⟨⟨ws, W.kp k3 (by omega), wb⟩, P1.row.kp k3 (by omega)⟩
        · rw [take_rd hi_, low, List.filter_append, List.filter_cons_of_pos (by simp [hb])]; exact ga3
        · rw [take_rd hi_, high, List.filter_append, List.filter_cons_of_neg (by simp [hb]), List.filter_nil, List.append_nil]; exact gb3
        · rcases rw3 with h | h
          · exact d x (h ▸ hx)
          · intro e; have := h x hx; have := gb.has x e; omega)
    (by
      rintro s ⟨lo, hi, s1, rfl, kk, P1, ga, gb, d⟩
      rw [List.take_length] at ga gb
      rw [bitsTo_end] at P1
      exact ⟨(AX.exit 2, [(12, .slice hi), (11, .slice lo), (9, .ptr (some (L + 1, 0))), (8, .int .i64 k), (6, .ptr pm)], s1), Ev.of fun m => by simp only [f55_L1111010010011010]; simp only [Option.bind_some, decide_eq_true_eq, decide_eq_false_iff_not, Bool.not_eq_true', Bool.not_true, Bool.not_false, Bool.false_eq_true, Bool.true_eq_false, Bool.not_eq_eq_eq_not, beq_self_eq_true, beqFT, beqTF, decide_true, decide_false, not_false_eq_true, not_true_eq_false, ne_eq, true_and, and_true, false_and, and_false, and_self, if_true, if_false, ite_true, ite_false, Bool.and_true, Bool.and_false, Bool.true_and, Bool.false_and, Bool.or_true, Bool.true_or, Bool.or_false, Bool.false_or, or_true, true_or, or_false, false_or, or_self, AV.asInt, AV.asBool, AV.asSl, AV.asPtr, AV.asFn, AV.asStr, AV.asMap, AV.asIfc, AV.item, List.length_cons, List.length_nil, List.getElem?_cons_zero, List.getElem?_cons_succ, Nat.zero_add, Int.lt_irrefl], lo, hi, s1, rfl, kk, P1, ga, gb, d⟩)
    (s := ([.int .i64 0, .int .i64 r.length, .slice hr, .slice Hdl.nil, .slice Hdl.nil, .ptr (some (L + 1, 0)), .int .i64 k, .ptr pm], σ))
    ⟨Hdl.nil, Hdl.nil, σ, rfl, Kp.refl _ _, by simpa [bitsTo] using P, Grow.nil _ _ _, Grow.nil _ _ _, fun x hx => by simp [Hdl.row, Hdl.nil] at hx⟩
  exact ⟨lo, hi, σ', e, h1, h2, h3, h4, h5⟩
end Go.Ab

/- A wavelet matrix in memory; how it is made. -/
namespace Go.Ab
open Go Go.Proofs Go.Ab.Wd Go.Ab.Bs Go.Ab.Sai
set_option linter.unusedVariables false
set_option linter.unusedSimpArgs false
/-- The bits of a level. -/
def lev (w : Nat) (l : List Int) (j : Nat) : List Bool := (Bs.rowAt w l (w - j)).map (bitb (w - j - 1))
/-- A matrix in memory. -/
structure Mat (σ : Store) (p : Ptr) (l : List Int) (w : Nat) : Prop where
  ex : ∃ b hl ps, p = some (b, 0) ∧ σ.Row b 3 [.int .i64 l.length, .int .i64 w, .slice hl] ∧ σ.Sl hl 1 (ptrsL ps) ∧ ps.length = w ∧ ∀ j, j < w → ∃ q, ps[j]? = some q ∧ Vec σ q (lev w l j)
  wid : 1 ≤ w ∧ w ≤ 24
  small : l.length ≤ 4194304
  rng : ∀ x ∈ l, 0 ≤ x ∧ x < 2 ^ w
theorem Mat.kp {σ σ' : Store} {p : Ptr} {l : List Int} {w : Nat} (m : Mat σ p l w) (k : Kp σ.objs.length σ σ') : Mat σ' p l w := by
  obtain ⟨b, hl, ps, rfl, R, S, lp, V⟩ := m.ex
  exact ⟨⟨b, hl, ps, rfl, R.kp k R.lt, Store.Sl.kp S k, lp, fun j hj => by obtain ⟨q, e, v⟩ := V j hj; exact ⟨q, e, v.kp k⟩⟩, m.wid, m.small, m.rng⟩
def okW (l : List Int) (most : Int) : Bool := decide (0 ≤ most) && (decide (most < 4194304) && (decide (l.length ≤ 4194304) && !(l.any fun c => decide (c < 0) || decide (most < c))))
theorem okW_iff {l : List Int} {most : Int} : okW l most = true ↔ 0 ≤ most ∧ most < 4194304 ∧ l.length ≤ 4194304 ∧ ∀ x ∈ l, 0 ≤ x ∧ x ≤ most := by
  simp only [okW, Bool.and_eq_true, decide_eq_true_eq, Bool.not_eq_true', List.any_eq_false, Bool.or_eq_true, not_or]
  exact ⟨fun ⟨a, b, c, d⟩ => ⟨a, b, c, fun x hx => by have := d x hx; omega⟩, fun ⟨a, b, c, d⟩ => ⟨a, b, c, fun x hx => by have := d x hx; omega⟩⟩
theorem newC1_run {σ : Store} {b : Nat} {al : Int} (h : σ.ldInt .i64 (some (b, 0)) = some al) (x : Int) : Runs Try.prog 71 [.int .i64 x, .ptr (some (b, 0))] σ (.bool (decide (x < 0) || decide (al < x))) σ := by
  refine Runs.intro (fn := Try.f71) (by kernel_rfl) (by kernel_rfl) (Ev.of fun k => ?_)
  rw [f71_eq]
  by_cases c : x < 0
  · simp [c]
  · simp [c, h]
theorem hasRow {h : Hdl} {x : Nat} (hx : h.row = some x) : ∃ o, h.a = some (x, o) := by
  cases ha : h.a with
  | none => simp [Hdl.row, ha] at hx
  | some bo => obtain ⟨c, o⟩ := bo; simp [Hdl.row, ha] at hx; subst hx; exact ⟨o, rfl⟩
theorem ptrsL_append (l m : List Ptr) : ptrsL (l ++ m) = ptrsL l ++ ptrsL m := by simp [ptrsL]
/-- What holds between two levels. -/
structure NewI (σ3 : Store) (b w : Nat) (l : List Int) (m : Nat) (hrow : Hdl) (s1 : Store) : Prop where
  kk : Kp b σ3 s1
  ex : ∃ hl ps, s1.Row b 3 [.int .i64 l.length, .int .i64 w, .slice hl] ∧ Grow s1 (b + 1) hl 1 (ptrsL ps) ∧ ps.length = w - m ∧
    ∀ j, j < w - m → ∃ p lo hi, ps[j]? = some p ∧ VecF s1 p (lev w l j) (fun x => lo ≤ x ∧ x < hi) ∧ b < lo ∧ hi ≤ s1.objs.length ∧ ∀ x, hl.row = some x → ¬ (lo ≤ x ∧ x < hi)
  row : s1.Ints hrow (Bs.rowAt w l m)
  has : s1.Has hrow
theorem new_round {σ3 : Store} {b w : Nat} {l : List Int} {m : Nat} {hrow : Hdl} {s1 : Store} (I : NewI σ3 b w l (m + 1) hrow s1) (hm : m < w) (hw : w ≤ 24) (hp : s1.prot ≤ b) (hl : l.length ≤ 4194304) (hx : ∀ x ∈ l, 0 ≤ x ∧ x < 2 ^ 62) :
    ∃ hrow' s2, Ev (fun k => stepF Try.prog (gm Try.prog k) drawn k Try.f55 [1, 1, 1, 1, 0, 1, 0] [8, 7, 6] ([.int .i64 m, .slice hrow, .ptr (some (b, 0))], s1))
      (.inl ([.int .i64 ((m : Int) - 1), .slice hrow', .ptr (some (b, 0))], s2)) ∧ NewI σ3 b w l m hrow' s2 := by
  obtain ⟨hl_, ps, R, G, lp, V⟩ := I.ex
  have q0 := row_int R (o := 0) rfl
  have bl := R.lt
  obtain ⟨r, hr⟩ : ∃ r, r = Bs.rowAt w l (m + 1) := ⟨_, rfl⟩
  have lr : r.length = l.length := by rw [hr, rowAt_length]
  have hI := I.row
  rw [← hr] at hI
  -- the packed bits
  obtain ⟨s2, ⟨k2, r2⟩, K2, len2, P2⟩ := packNew_run (σ := s1) (n := l.length) hl
  have I2 : s2.Ints hrow r := Store.Sl.kp hI K2
  obtain ⟨lo, hi, s3, e3, K3, P3, glo, ghi, dd⟩ := split_loop (k := m) (pm := some (b, 0)) I2 len2 (fun x hx => I.has x hx) (by rw [lr]; exact P2) (by rw [K2.prot]; omega) (by omega) (by omega) (fun x hx' => hx x (by rw [hr] at hx'; exact (rowAt_mem _ _ _ _).1 hx'))
  have l3 := K3.len
  have p3 : s3.prot ≤ b := by rw [K3.prot, K2.prot]; exact hp
  have K13 : Kp s1.objs.length s1 s3 := K2.trans K3
  obtain ⟨q, s4, ⟨k4, r4⟩, K4, VF⟩ := rankNew_run P3 (by omega) (by simp; omega)
  have l4 := K4.len
  have K14 : Kp s1.objs.length s1 s4 := K13.trans (K4.mono (by omega))
  have R4 := R.kp K14 bl
  have G4 : Grow s4 (b + 1) hl_ 1 (ptrsL ps) := G.kp K14
  have q4 := row_sl R4 (o := 2) rfl
  have p4 : s4.prot ≤ b := by rw [K4.prot]; exact p3
  have lpl : ps.length ≤ 24 := by omega
  obtain ⟨hl', s5, e5, K5, G5, fr5, rw5⟩ := Grow.app1X G4 (by omega) R4.lt (v := .ptr q) rfl (bs := 8) (by omega) (by simp; omega)
  have l5 := K5.len
  have R5 := R4.kp K5 (Nat.lt_succ_self b)
  have p5 : s5.prot ≤ b := by rw [K5.prot]; exact p4
  have t5 := st_fld R5 p5 (o := 2) (by simp) (v := .slice hl') rfl
  obtain ⟨s6, hs6⟩ : ∃ s, s = s5.setO b (.cells ([.int .i64 l.length, .int .i64 w, .slice hl_].set 2 (.slice hl')) true 3) := ⟨_, rfl⟩
  rw [← hs6] at t5
  have l6 : s6.objs.length = s5.objs.length := by rw [hs6]; exact setO_len
  have p6 : s6.prot ≤ b := by rw [hs6]; exact p5
  have R6 : s6.Row b 3 [.int .i64 l.length, .int .i64 w, .slice hl'] := by rw [hs6]; exact Store.Row.setO_eq R5.lt
  have f6 : ∀ x, x ≠ b → s6.objs[x]? = s5.objs[x]? := fun x hx => by rw [hs6]; show (s5.objs.set b _)[x]? = _; rw [List.getElem?_set, if_neg (by omega)]
  -- what of the lists is left as it was
  have hlr : ∀ x, hl_.row = some x → x < s1.objs.length := fun x hx => G.has x hx
  have old5 : ∀ x, s1.objs.length ≤ x → x < s4.objs.length → s5.objs[x]? = s4.objs[x]? := fun x h1 h2 => fr5 x h2 fun e => by have := hlr x e; omega
  have nlo : ∀ x o, lo.a = some (x, o) → s1.objs.length + 2 ≤ x ∧ x < s3.objs.length := fun x o e => glo.rowLt x o e
  have nhi : ∀ x o, hi.a = some (x, o) → s1.objs.length + 2 ≤ x ∧ x < s3.objs.length := fun x o e => ghi.rowLt x o e
  have keep36 : ∀ x, s1.objs.length ≤ x → x < s3.objs.length → s6.objs[x]? = s3.objs[x]? := fun x h1 h2 => by rw [f6 x (by omega), old5 x h1 (by omega), K4.keep x h2]
  have glo6 : GrowI s6 (s1.objs.length + 2) lo (low m r) := glo.keep fun x o e => keep36 x (by have := nlo x o e; omega) (nlo x o e).2
  have ghi6 : GrowI s6 (s1.objs.length + 2) hi (high m r) := ghi.keep fun x o e => keep36 x (by have := nhi x o e; omega) (nhi x o e).2
  have lwl := low_length m r
  have lh := ghi6.ints.ilen
  have llo := glo6.ints.ilen
  obtain ⟨h7, s7, e7, K7, S7, O7, len7, fr7⟩ := app_spec (xs := intsL (high m r)) (by_ := 8) (m := hi.len) glo6.sl glo6.own (by omega) (by omega) (by omega) (by simp; omega) (intsL_one _) (by omega) (by omega)
  have l7 := K7.len
  have rd6 : Store.readSl s6 hi 1 = some (intsL (high m r)) := Store.Sl.read ghi6.sl
  refine ⟨h7, s7, ?_, ⟨?_, ⟨hl', ps ++ [q], ?_, ?_, ?_, ?_⟩, ?_, ?_⟩⟩
  · obtain ⟨n3, e3⟩ := loopF_ev e3
    refine ⟨k2 + n3 + k4, fun k hk => ?_⟩
    have r2 := r2 k (by omega)
    have e3 := e3 k (by omega)
    have r4 := r4 k (by omega)
    simp only at r2 e3 r4
    have hrl := I2.ilen
    have i0 : (0 : Int) ≤ m := by omega
    have w1 : IntKind.wrap .i64 ((m : Int) - 1) = m - 1 := wrap64 (by omega) (by omega)
    simp only [f55_L1111010]
    simp only [Option.bind_some, decide_eq_true_eq, decide_eq_false_iff_not, Bool.not_eq_true', Bool.not_true, Bool.not_false, Bool.false_eq_true, Bool.true_eq_false, Bool.not_eq_eq_eq_not, beq_self_eq_true, beqFT, beqTF, decide_true, decide_false, not_false_eq_true, not_true_eq_false, ne_eq, true_and, and_true, false_and, and_false, and_self, if_true, if_false, ite_true, ite_false, Bool.and_true, Bool.and_false, Bool.true_and, Bool.false_and, Bool.or_true, Bool.true_or, Bool.or_false, Bool.false_or, or_true, true_or, or_false, false_or, or_self, AV.asInt, AV.asBool, AV.asSl, AV.asPtr, AV.asFn, AV.asStr, AV.asMap, AV.asIfc, AV.item, List.length_cons, List.length_nil, List.getElem?_cons_zero, List.getElem?_cons_succ, Nat.zero_add, i0, q0, r2, hrl, e3]
    rw [f55_X1111010010011010_1]
    simp only [Option.bind_some, decide_eq_true_eq, decide_eq_false_iff_not, Bool.not_eq_true', Bool.not_true, Bool.not_false, Bool.false_eq_true, Bool.true_eq_false, Bool.not_eq_eq_eq_not, beq_self_eq_true, beqFT, beqTF, decide_true, decide_false, not_false_eq_true, not_true_eq_false, ne_eq, true_and, and_true, false_and, and_false, and_self, if_true, if_false, ite_true, ite_false, Bool.and_true, Bool.and_false, Bool.true_and, Bool.false_and, Bool.or_true, Bool.true_or, Bool.or_false, Bool.false_or, or_true, true_or, or_false, false_or, or_self, AV.asInt, AV.asBool, AV.asSl, AV.asPtr, AV.asFn, AV.asStr, AV.asMap, AV.asIfc, AV.item, List.length_cons, List.length_nil, List.getElem?_cons_zero, List.getElem?_cons_succ, Nat.zero_add, r4, q4, read1, e5, t5, rd6, e7, w1]
  · have k56 : Kp b s5 s6 := by rw [hs6]; exact (Kp.refl _ _).setO (Nat.le_refl _)
    exact (((I.kk.trans (K14.mono (by omega))).trans (K5.mono (by omega))).trans k56).trans (K7.mono (by omega))
  · exact R6.kp K7 (by omega)
  · rw [ptrsL_append]
    refine (G5.keep fun x o e => f6 x (by have := G5.rowLt x o e; omega)).keep fun x o e => ?_
    have hx : hl'.row = some x := by simp [Hdl.row, e]
    refine fr7 x (fun c o' e' => ?_) (by have := (G5.rowLt x o e).2; omega)
    have := nlo c o' e'
    rcases rw5 with h | h
    · have := hlr x (h ▸ hx); omega
    · have := h x hx; omega
  · rw [List.length_append, lp]; simp; omega
  · intro j hj
    by_cases c : j < w - (m + 1)
    · obtain ⟨p, a, z, h1, h2, h3, h4, h5⟩ := V j c
      refine ⟨p, a, z, by rw [List.getElem?_append_left (by omega)]; exact h1, h2.keep fun x hx => ?_, h3, by omega, fun x hx => ?_⟩
      · rw [fr7 x (fun c o' e' => by have := nlo c o' e'; omega) (by omega), f6 x (by omega), fr5 x (by omega) fun e => h5 x e hx, K14.keep x (by omega)]
      · rcases rw5 with h | h
        · exact h5 x (h ▸ hx)
        · have := h x hx; omega
    · have ej : j = w - (m + 1) := by omega
      refine ⟨q, s3.objs.length, s4.objs.length, by rw [List.getElem?_append_right (by omega), lp, ej]; simp, ?_, by omega, by omega, fun x hx => ?_⟩
      · have e : lev w l j = r.map (bitb m) := by unfold lev; rw [hr, ej, show w - (w - (m + 1)) = m + 1 by omega]; rfl
        rw [e]
        refine VF.keep fun x hx => ?_
        rw [fr7 x (fun c o' e' => by have := nlo c o' e'; omega) (by omega), f6 x (by omega), old5 x (by omega) hx.2]
      · rcases rw5 with h | h
        · have := hlr x (h ▸ hx); omega
        · have := h x hx; omega
  · rw [rowAt_step w l m hm, ← hr]
    have := S7
    rw [← intsL_append] at this
    exact this
  · intro x hx
    obtain ⟨o, ho⟩ := hasRow hx
    obtain ⟨_, cs, hc, _⟩ := O7.own x o ho
    exact (List.getElem?_eq_some_iff.1 hc).1
end Go.Ab

/- Counts. -/
namespace Go.Ab
open Go Go.Proofs Go.Ab.Wd Go.Ab.Bs Go.Ab.Sai
set_option linter.unusedVariables false
set_option linter.unusedSimpArgs false
/-- May a list be counted? -/
def okC (t : List Int) (al : Int) : Bool := decide (0 ≤ al) && decide (al ≤ 4194304) && !(t.any fun c => decide (c < 0) || decide (al ≤ c))
theorem okC_iff {t : List Int} {al : Int} : okC t al = true ↔ 0 ≤ al ∧ al ≤ 4194304 ∧ ∀ x ∈ t, 0 ≤ x ∧ x < al := by
  simp only [okC, Bool.and_eq_true, decide_eq_true_eq, Bool.not_eq_true', List.any_eq_false, Bool.or_eq_true, and_assoc]
  refine and_congr_right fun _ => and_congr_right fun _ => ?_
  exact ⟨fun h x hx => by have := h x hx; omega, fun h x hx => by have := h x hx; omega⟩
/-- How many are below each number. -/
def below (b : List Int) (c : Int) : Int := (cnt (fun x => decide (x < c)) b : Nat)
def belows (b : List Int) (n : Nat) : List Int := (List.range n).map fun c : Nat => below b c
theorem belows_length (b : List Int) (n : Nat) : (belows b n).length = n := by simp [belows]
theorem rd_belows {b : List Int} {n : Nat} {c : Int} (h0 : 0 ≤ c) (h1 : c < n) : rd (belows b n) c = below b c := by
  obtain ⟨c, rfl⟩ := Int.eq_ofNat_of_zero_le h0
  rw [rd_getElem (by rw [belows_length]; omega)]
  simp [belows]
theorem below_succ (b : List Int) (c : Int) : below b (c + 1) = below b c + (cnt (fun x => decide (x = c)) b : Nat) := by
  unfold below
  rw [← Int.natCast_add, ← cnt_or b fun x _ => by simp; omega]
  congr 1
  refine cnt_congr fun x _ => ?_
  by_cases c1 : x < c
  · simp [c1]; omega
  · by_cases c2 : x = c
    · simp [c2]; omega
    · simp [c1, c2]; omega
theorem below_zero {b : List Int} (h : ∀ x ∈ b, 0 ≤ x) : below b 0 = 0 := by
  unfold below Bs.cnt
  rw [List.filter_eq_nil_iff.2 fun x hx => by have := h x hx; simp; omega]; rfl
theorem below_le (b : List Int) (c : Int) : 0 ≤ below b c ∧ below b c ≤ b.length := by
  have := cnt_le (fun x => decide (x < c)) b
  unfold below; omega
theorem counts_c1_run {σ : Store} {b : Nat} {al : Int} (h : σ.ldInt .i64 (some (b, 0)) = some al) (x : Int) : Runs Try.prog 47 [.int .i64 x, .ptr (some (b, 0))] σ (.bool (decide (x < 0) || decide (al ≤ x))) σ := by
  refine Runs.intro (fn := Try.f47) (by kernel_rfl) (by kernel_rfl) (Ev.of fun k => ?_)
  rw [f47_eq]
  by_cases c : x < 0
  · simp [c]
  · simp [c, h]
/-- One of each number, a place on. -/
structure CntI (b : List Int) (n : Nat) (i : Nat) (o : List Int) : Prop where
  len : o.length = n + 1
  zero : rd o 0 = 0
  val : ∀ c : Int, 0 ≤ c → c < n → rd o (c + 1) = (cnt (fun x => decide (x = c)) (b.take i) : Nat)
/-- Sums up to a place. -/
structure SumI (b : List Int) (n : Nat) (i : Nat) (o : List Int) : Prop where
  len : o.length = n + 1
  lo : ∀ c : Int, 0 ≤ c → c ≤ i → rd o c = below b c
  hi : ∀ c : Int, (i : Int) ≤ c → c < n → rd o (c + 1) = (cnt (fun x => decide (x = c)) b : Nat)
theorem counts_run {σ : Store} {h : Hdl} {b : List Int} {al : Int} (hT : σ.Ints h b) (hp : σ.prot ≤ σ.objs.length) (hn : b.length < 2 ^ 61) :
    ∃ ho σ', Runs Try.prog 20 [.slice h, .int .i64 al] σ (.tuple [.slice ho, .int .i64 (if okC b al = true then 0 else 2)]) σ' ∧ Kp σ.objs.length σ σ' ∧ σ'.Ints ho (if okC b al = true then belows b (al.toNat + 1) else []) ∧ σ'.Has ho ∧
      (okC b al = true → ∃ N, σ.objs.length ≤ N ∧ ho = hdS N (al.toNat + 1) ∧ σ'.Row N 1 (intsL (belows b (al.toNat + 1)))) := by
  have ll := hT.ilen
  obtain ⟨σ1, h1⟩ : ∃ x, x = σ.push [.int .i64 al] 1 := ⟨_, rfl⟩
  have k1 : Kp σ.objs.length σ σ1 := by rw [h1]; exact Kp.push _ _ (Nat.le_refl _)
  have len1 : σ1.objs.length = σ.objs.length + 1 := by rw [h1]; simp
  have R1 : σ1.Row σ.objs.length 1 [.int .i64 al] := by rw [h1]; exact Store.Row.new
  have ldr : ∀ {s : Store}, s.Row σ.objs.length 1 [.int .i64 al] → s.ldInt .i64 (some (σ.objs.length, 0)) = some al := fun {s} r => by simp only [Store.ldInt, r.cell]; simp
  have e1 := ldr R1
  have hT1 : σ1.Ints h b := Store.Sl.kp hT k1
  have bad : okC b al = false → (∃ k0, ∀ k, k0 ≤ k → evBody Try.prog (gm Try.prog k) drawn k Try.f20 [.slice h, .int .i64 al] σ = some (.tuple [.slice Hdl.nil, .int .i64 2], σ1)) →
      ∃ ho σ', Runs Try.prog 20 [.slice h, .int .i64 al] σ (.tuple [.slice ho, .int .i64 (if okC b al = true then 0 else 2)]) σ' ∧ Kp σ.objs.length σ σ' ∧ σ'.Ints ho (if okC b al = true then belows b (al.toNat + 1) else []) ∧ σ'.Has ho ∧
        (okC b al = true → ∃ N, σ.objs.length ≤ N ∧ ho = hdS N (al.toNat + 1) ∧ σ'.Row N 1 (intsL (belows b (al.toNat + 1)))) := by
    intro hb hr
    rw [if_neg (by rw [hb]; simp), if_neg (by rw [hb]; simp)]
    exact ⟨Hdl.nil, σ1, Runs.intro (fn := Try.f20) (by kernel_rfl) (by kernel_rfl) hr, k1, ints_nil _, Store.Has.nil _, fun h => by rw [hb] at h; cases h⟩
  by_cases c1 : al < 0
  · exact bad (by simp [okC]; omega) ⟨0, fun k _ => by rw [f20_eq, ← h1]; simp only [Option.bind_some, decide_eq_true_eq, decide_eq_false_iff_not, Bool.not_eq_true', Bool.not_true, Bool.not_false, Bool.false_eq_true, Bool.true_eq_false, Bool.not_eq_eq_eq_not, beq_self_eq_true, beqFT, beqTF, decide_true, decide_false, not_false_eq_true, not_true_eq_false, ne_eq, true_and, and_true, false_and, and_false, and_self, if_true, if_false, ite_true, ite_false, Bool.and_true, Bool.and_false, Bool.true_and, Bool.false_and, Bool.or_true, Bool.true_or, Bool.or_false, Bool.false_or, or_true, true_or, or_false, false_or, or_self, AV.asInt, AV.asBool, AV.asSl, AV.asPtr, AV.asFn, AV.asStr, AV.asMap, AV.asIfc, AV.item, List.length_cons, List.length_nil, List.getElem?_cons_zero, List.getElem?_cons_succ, Nat.zero_add, e1, c1]⟩
  by_cases c2 : 4194304 < al
  · exact bad (by simp [okC]; omega) ⟨0, fun k _ => by rw [f20_eq, ← h1]; simp only [Option.bind_some, decide_eq_true_eq, decide_eq_false_iff_not, Bool.not_eq_true', Bool.not_true, Bool.not_false, Bool.false_eq_true, Bool.true_eq_false, Bool.not_eq_eq_eq_not, beq_self_eq_true, beqFT, beqTF, decide_true, decide_false, not_false_eq_true, not_true_eq_false, ne_eq, true_and, and_true, false_and, and_false, and_self, if_true, if_false, ite_true, ite_false, Bool.and_true, Bool.and_false, Bool.true_and, Bool.false_and, Bool.or_true, Bool.true_or, Bool.or_false, Bool.false_or, or_true, true_or, or_false, false_or, or_self, AV.asInt, AV.asBool, AV.asSl, AV.asPtr, AV.asFn, AV.asStr, AV.asMap, AV.asIfc, AV.item, List.length_cons, List.length_nil, List.getElem?_cons_zero, List.getElem?_cons_succ, Nat.zero_add, e1, c1, c2]⟩
  obtain ⟨k2, r2⟩ := containsFunc_run (g := 47) (a := []) (c := [.ptr (some (σ.objs.length, 0))]) hT1 (by omega) (fun x _ => counts_c1_run e1 x)
  by_cases c4 : (b.any fun c => decide (c < 0) || decide (al ≤ c)) = true
  · rw [c4] at r2
    refine bad (by simp only [okC, c4]; simp) ⟨k2, fun k hk => ?_⟩
    have r2 := r2 k hk
    simp only at r2
    rw [f20_eq, ← h1]; simp only [Option.bind_some, decide_eq_true_eq, decide_eq_false_iff_not, Bool.not_eq_true', Bool.not_true, Bool.not_false, Bool.false_eq_true, Bool.true_eq_false, Bool.not_eq_eq_eq_not, beq_self_eq_true, beqFT, beqTF, decide_true, decide_false, not_false_eq_true, not_true_eq_false, ne_eq, true_and, and_true, false_and, and_false, and_self, if_true, if_false, ite_true, ite_false, Bool.and_true, Bool.and_false, Bool.true_and, Bool.false_and, Bool.or_true, Bool.true_or, Bool.or_false, Bool.false_or, or_true, true_or, or_false, false_or, or_self, AV.asInt, AV.asBool, AV.asSl, AV.asPtr, AV.asFn, AV.asStr, AV.asMap, AV.asIfc, AV.item, List.length_cons, List.length_nil, List.getElem?_cons_zero, List.getElem?_cons_succ, Nat.zero_add, e1, c1, c2, r2]
  have c4' : (b.any fun c => decide (c < 0) || decide (al ≤ c)) = false := by simpa using c4
  have hok : okC b al = true := by simp only [okC, c4']; simp; omega
  obtain ⟨g1, g2, g3⟩ := okC_iff.1 hok
  obtain ⟨n, rfl⟩ := Int.eq_ofNat_of_zero_le g1
  rw [if_pos hok, if_pos hok, show ((n : Int)).toNat = n by omega]
  have hrng : ∀ x ∈ b, 0 ≤ x ∧ x < (n : Int) := g3
  obtain ⟨σ2, h2⟩ : ∃ x, x = σ1.push (intsL (List.replicate (n + 1) 0)) 1 := ⟨_, rfl⟩
  have K2 : Kp (σ.objs.length + 1) σ1 σ2 := by rw [h2]; exact Kp.push _ _ (by omega)
  have R2 : σ2.Row σ1.objs.length 1 (intsL (List.replicate (n + 1) 0)) := by rw [h2]; exact Store.Row.new
  -- counts
  obtain ⟨ra, ea, o3, σ3, rfl, K3, R3, M3⟩ := EvI.up (f := fun k s => stepF Try.prog (gm Try.prog k) drawn k Try.f20 [1, 1, 1, 0, 1, 0] [26, 25, 24, 6, 3] s) b.length
    (fun i s => ∃ o s1, s = ([.int .i64 i, .int .i64 b.length, .slice h, .slice (hdS σ1.objs.length (n + 1)), .ptr (some (σ.objs.length, 0))], s1) ∧ Kp (σ.objs.length + 1) σ1 s1 ∧ s1.Row σ1.objs.length 1 (intsL o) ∧ CntI b n i o)
    (fun r => ∃ o s1, r = (AX.exit 0, [(6, .slice (hdS σ1.objs.length (n + 1))), (3, .ptr (some (σ.objs.length, 0)))], s1) ∧ Kp (σ.objs.length + 1) σ1 s1 ∧ s1.Row σ1.objs.length 1 (intsL o) ∧ CntI b n b.length o)
    (by
      rintro i s hi ⟨o, s1, rfl, kk, rr, m⟩
      have i0 : (0 : Int) ≤ i := by omega
      have i1 : (i : Int) < b.length := by omega
      have w := wsucc hi (by omega)
      have rx := Store.Ints.rd (Store.Sl.kp hT (k1.trans (kk.mono (by omega)))) i0 i1
      obtain ⟨x0, x1⟩ := hrng _ (rd_mem i0 i1)
      have lo := m.len
      have w1 : IntKind.wrap .i64 (rd b i + 1) = rd b i + 1 := wrap64 (by omega) (by omega)
      have y0 : 0 ≤ rd b i + 1 := by omega
      have y1 : rd b i + 1 < ((n + 1 : Nat) : Int) := by omega
      have ro := rr.ld_ints (len := n + 1) (cp := some (n + 1)) y0 (by omega)
      have mv := m.val _ x0 x1
      have cl := cnt_le (fun x => decide (x = rd b i)) (b.take i)
      rw [List.length_take] at cl
      have w2 : IntKind.wrap .i64 (rd o (rd b i + 1) + 1) = rd o (rd b i + 1) + 1 := wrap64 (by omega) (by omega)
      have st := st_ints (x := rd o (rd b i + 1) + 1) (len := n + 1) (cp := some (n + 1)) rr (by rw [kk.prot, k1.prot]; omega) y0 (by omega)
      refine ⟨_, Ev.of fun k => by simp only [f20_L111010]; simp only [Option.bind_some, decide_eq_true_eq, decide_eq_false_iff_not, Bool.not_eq_true', Bool.not_true, Bool.not_false, Bool.false_eq_true, Bool.true_eq_false, Bool.not_eq_eq_eq_not, beq_self_eq_true, beqFT, beqTF, decide_true, decide_false, not_false_eq_true, not_true_eq_false, ne_eq, true_and, and_true, false_and, and_false, and_self, if_true, if_false, ite_true, ite_false, Bool.and_true, Bool.and_false, Bool.true_and, Bool.false_and, Bool.or_true, Bool.true_or, Bool.or_false, Bool.false_or, or_true, true_or, or_false, false_or, or_self, AV.asInt, AV.asBool, AV.asSl, AV.asPtr, AV.asFn, AV.asStr, AV.asMap, AV.asIfc, AV.item, List.length_cons, List.length_nil, List.getElem?_cons_zero, List.getElem?_cons_succ, Nat.zero_add, ll, i0, i1, rx, w1, y0, y1, ro, w2, st, w], o.set (rd b i + 1).toNat (rd o (rd b i + 1) + 1), _, rfl, kk.setO (by omega), Store.Row.setO_eq rr.lt, ⟨by simpa using lo, ?_, fun c c0 c1 => ?_⟩⟩
      · rw [rd_set y0 (by omega) (Int.le_refl 0), if_neg (by omega)]; exact m.zero
      · rw [rd_set y0 (by omega) (by omega), cnt_take_succ _ hi, m.val c c0 c1]
        by_cases e : rd b i = c
        · rw [if_pos (by omega), if_pos (by simp [e]), mv, e]; omega
        · rw [if_neg (by omega), if_neg (by simpa using e)]; omega)
    (by
      rintro s ⟨o, s1, rfl, kk, rr, m⟩
      exact ⟨_, Ev.of fun k => by simp only [f20_L111010]; simp only [Option.bind_some, decide_eq_true_eq, decide_eq_false_iff_not, Bool.not_eq_true', Bool.not_true, Bool.not_false, Bool.false_eq_true, Bool.true_eq_false, Bool.not_eq_eq_eq_not, beq_self_eq_true, beqFT, beqTF, decide_true, decide_false, not_false_eq_true, not_true_eq_false, ne_eq, true_and, and_true, false_and, and_false, and_self, if_true, if_false, ite_true, ite_false, Bool.and_true, Bool.and_false, Bool.true_and, Bool.false_and, Bool.or_true, Bool.true_or, Bool.or_false, Bool.false_or, or_true, true_or, or_false, false_or, or_self, AV.asInt, AV.asBool, AV.asSl, AV.asPtr, AV.asFn, AV.asStr, AV.asMap, AV.asIfc, AV.item, List.length_cons, List.length_nil, List.getElem?_cons_zero, List.getElem?_cons_succ, Nat.zero_add, Int.lt_irrefl], o, s1, rfl, kk, rr, m⟩)
    (s := ([.int .i64 0, .int .i64 b.length, .slice h, .slice (hdS σ1.objs.length (n + 1)), .ptr (some (σ.objs.length, 0))], σ2))
    ⟨_, σ2, rfl, K2, R2, ⟨by simp, by simp [rd, List.replicate_succ], fun c c0 c1 => by
      obtain ⟨c, rfl⟩ := Int.eq_ofNat_of_zero_le c0
      rw [show (c : Int) + 1 = ((c + 1 : Nat) : Int) by omega, rd_getElem (by simp; omega)]
      simp [Bs.cnt]⟩⟩
  have e3 := ldr (R1.kp K3 (by omega))
  -- sums
  obtain ⟨rb, eb, σ4, rfl, K4, R4⟩ := EvI.up (f := fun k s => stepF Try.prog (gm Try.prog k) drawn k Try.f20 [1, 1, 1, 1, 0, 1, 0] [39, 38, 6] s) n
    (fun i s => ∃ o s1, s = ([.int .i64 i, .int .i64 n, .slice (hdS σ1.objs.length (n + 1))], s1) ∧ Kp (σ.objs.length + 1) σ1 s1 ∧ s1.Row σ1.objs.length 1 (intsL o) ∧ SumI b n i o)
    (fun r => ∃ s1, r = (AX.exit 2, [(6, .slice (hdS σ1.objs.length (n + 1)))], s1) ∧ Kp (σ.objs.length + 1) σ1 s1 ∧ s1.Row σ1.objs.length 1 (intsL (belows b (n + 1))))
    (by
      rintro i s hi ⟨o, s1, rfl, kk, rr, m⟩
      have i0 : (0 : Int) ≤ i := by omega
      have i1 : (i : Int) < n := by omega
      have w : IntKind.wrap .i64 ((i : Int) + 1) = i + 1 := wrap64 (by omega) (by omega)
      have w' : ((i : Int) + 1) = ((i + 1 : Nat) : Int) := by omega
      have lo := m.len
      have y0 : 0 ≤ (i : Int) + 1 := by omega
      have y1 : (i : Int) + 1 < ((n + 1 : Nat) : Int) := by omega
      have y2 : (i : Int) < ((n + 1 : Nat) : Int) := by omega
      have ra := rr.ld_ints (len := n + 1) (cp := some (n + 1)) y0 (by omega)
      have rb := rr.ld_ints (len := n + 1) (cp := some (n + 1)) i0 (by omega)
      have v1 := m.hi i (Int.le_refl _) i1
      have v2 := m.lo i i0 (Int.le_refl _)
      have bs := below_succ b i
      have bl := below_le b (i + 1)
      have w2 : IntKind.wrap .i64 (rd o ((i : Int) + 1) + rd o i) = below b (i + 1) := by rw [wrap64 (by omega) (by omega)]; omega
      have st := st_ints (x := below b (i + 1)) (len := n + 1) (cp := some (n + 1)) rr (by rw [kk.prot, k1.prot]; omega) y0 (by omega)
      refine ⟨_, Ev.of fun k => by simp only [f20_L1111010]; simp only [Option.bind_some, decide_eq_true_eq, decide_eq_false_iff_not, Bool.not_eq_true', Bool.not_true, Bool.not_false, Bool.false_eq_true, Bool.true_eq_false, Bool.not_eq_eq_eq_not, beq_self_eq_true, beqFT, beqTF, decide_true, decide_false, not_false_eq_true, not_true_eq_false, ne_eq, true_and, and_true, false_and, and_false, and_self, if_true, if_false, ite_true, ite_false, Bool.and_true, Bool.and_false, Bool.true_and, Bool.false_and, Bool.or_true, Bool.true_or, Bool.or_false, Bool.false_or, or_true, true_or, or_false, false_or, or_self, AV.asInt, AV.asBool, AV.asSl, AV.asPtr, AV.asFn, AV.asStr, AV.asMap, AV.asIfc, AV.item, List.length_cons, List.length_nil, List.getElem?_cons_zero, List.getElem?_cons_succ, Nat.zero_add, i0, i1, w, y0, y1, y2, ra, rb, w2, st]; rw [w'], o.set ((i : Int) + 1).toNat (below b (i + 1)), _, rfl, kk.setO (by omega), Store.Row.setO_eq rr.lt, ⟨by simpa using lo, fun c c0 c1 => ?_, fun c c0 c1 => ?_⟩⟩
      · rw [rd_set y0 (by omega) c0]
        by_cases e : (i : Int) + 1 = c
        · rw [if_pos e, e]
        · rw [if_neg e]; exact m.lo c c0 (by omega)
      · rw [rd_set y0 (by omega) (by omega), if_neg (by omega)]; exact m.hi c (by omega) c1)
    (by
      rintro s ⟨o, s1, rfl, kk, rr, m⟩
      have : o = belows b (n + 1) := Bs.ext_rd (by rw [m.len, belows_length]) fun c c0 c1 => by
        have := m.len
        rw [m.lo c c0 (by omega), rd_belows c0 (by omega)]
      subst this
      exact ⟨(AX.exit 2, [(6, .slice (hdS σ1.objs.length (n + 1)))], s1), Ev.of fun k => by simp only [f20_L1111010]; simp only [Option.bind_some, decide_eq_true_eq, decide_eq_false_iff_not, Bool.not_eq_true', Bool.not_true, Bool.not_false, Bool.false_eq_true, Bool.true_eq_false, Bool.not_eq_eq_eq_not, beq_self_eq_true, beqFT, beqTF, decide_true, decide_false, not_false_eq_true, not_true_eq_false, ne_eq, true_and, and_true, false_and, and_false, and_self, if_true, if_false, ite_true, ite_false, Bool.and_true, Bool.and_false, Bool.true_and, Bool.false_and, Bool.or_true, Bool.true_or, Bool.or_false, Bool.false_or, or_true, true_or, or_false, false_or, or_self, AV.asInt, AV.asBool, AV.asSl, AV.asPtr, AV.asFn, AV.asStr, AV.asMap, AV.asIfc, AV.item, List.length_cons, List.length_nil, List.getElem?_cons_zero, List.getElem?_cons_succ, Nat.zero_add, Int.lt_irrefl], s1, rfl, kk, rr⟩)
    (s := ([.int .i64 0, .int .i64 n, .slice (hdS σ1.objs.length (n + 1))], σ3))
    ⟨o3, σ3, rfl, K3, R3, ⟨M3.len, fun c c0 c1 => by
      have : c = 0 := by omega
      rw [this, M3.zero, below_zero fun x hx => (hrng x hx).1], fun c c0 c1 => by
      have := M3.val c (by omega) c1
      rwa [List.take_length] at this⟩⟩
  obtain ⟨na, ea⟩ := loopF_ev ea
  obtain ⟨nb, eb⟩ := loopF_ev eb
  refine ⟨hdS σ1.objs.length (n + 1), σ4, Runs.intro (fn := Try.f20) (by kernel_rfl) (by kernel_rfl) ⟨k2 + na + nb, fun k hk => ?_⟩, k1.trans (K4.mono (by omega)), R4.sl (by simp [belows_length]), fun x e => by simp [Hdl.row] at e; have := R4.lt; omega, fun _ => ⟨_, by omega, rfl, R4⟩⟩
  have r2 := r2 k (by omega)
  have ea := ea k (by omega)
  have eb := eb k (by omega)
  simp only [c4'] at r2 ea eb
  have w1 : IntKind.wrap .i64 ((n : Int) + 1) = ((n + 1 : Nat) : Int) := by rw [wrap64 (by omega) (by omega)]; omega
  have b1 : (0 : Int) ≤ (n + 1 : Nat) := by omega
  have b2 : ((n + 1 : Nat) : Int) * ((8 : Nat) : Int) ≤ 281474976710656 := by omega
  simp only [f20_eq, ← h1]
  simp only [Option.bind_some, decide_eq_true_eq, decide_eq_false_iff_not, Bool.not_eq_true', Bool.not_true, Bool.not_false, Bool.false_eq_true, Bool.true_eq_false, Bool.not_eq_eq_eq_not, beq_self_eq_true, beqFT, beqTF, decide_true, decide_false, not_false_eq_true, not_true_eq_false, ne_eq, true_and, and_true, false_and, and_false, and_self, if_true, if_false, ite_true, ite_false, Bool.and_true, Bool.and_false, Bool.true_and, Bool.false_and, Bool.or_true, Bool.true_or, Bool.or_false, Bool.false_or, or_true, true_or, or_false, false_or, or_self, AV.asInt, AV.asBool, AV.asSl, AV.asPtr, AV.asFn, AV.asStr, AV.asMap, AV.asIfc, AV.item, List.length_cons, List.length_nil, List.getElem?_cons_zero, List.getElem?_cons_succ, Nat.zero_add, e1, c1, c2, r2, w1, b1, b2, Int.le_refl, Int.toNat_natCast, mkCells_int, ← h2, ll, ea]
  rw [f20_X111010_1]
  simp only [Option.bind_some, decide_eq_true_eq, decide_eq_false_iff_not, Bool.not_eq_true', Bool.not_true, Bool.not_false, Bool.false_eq_true, Bool.true_eq_false, Bool.not_eq_eq_eq_not, beq_self_eq_true, beqFT, beqTF, decide_true, decide_false, not_false_eq_true, not_true_eq_false, ne_eq, true_and, and_true, false_and, and_false, and_self, if_true, if_false, ite_true, ite_false, Bool.and_true, Bool.and_false, Bool.true_and, Bool.false_and, Bool.or_true, Bool.true_or, Bool.or_false, Bool.false_or, or_true, true_or, or_false, false_or, or_self, AV.asInt, AV.asBool, AV.asSl, AV.asPtr, AV.asFn, AV.asStr, AV.asMap, AV.asIfc, AV.item, List.length_cons, List.length_nil, List.getElem?_cons_zero, List.getElem?_cons_succ, Nat.zero_add, e3, eb]
  rw [f20_X1111010_1]
end Go.Ab

/- A wavelet matrix is made. -/
namespace Go.Ab
open Go Go.Proofs Go.Ab.Wd Go.Ab.Bs Go.Ab.Sai
set_option linter.unusedVariables false
set_option linter.unusedSimpArgs false
theorem waveNew_bad {σ : Store} {h : Hdl} {l : List Int} {most : Int} (hT : σ.Ints h l) (hp : σ.prot ≤ σ.objs.length) (hn : l.length < 2 ^ 61) (hb : okW l most = false) :
    ∃ σ', Runs Try.prog 55 [.slice h, .int .i64 most] σ (.tuple [.ptr none, .int .i64 2]) σ' ∧ Kp σ.objs.length σ σ' := by
  have ll := hT.ilen
  obtain ⟨σ1, h1⟩ : ∃ x, x = σ.push [.int .i64 most] 1 := ⟨_, rfl⟩
  have k1 : Kp σ.objs.length σ σ1 := by rw [h1]; exact Kp.push _ _ (Nat.le_refl _)
  have R1 : σ1.Row σ.objs.length 1 [.int .i64 most] := by rw [h1]; exact Store.Row.new
  have e1 : σ1.ldInt .i64 (some (σ.objs.length, 0)) = some most := by simp only [Store.ldInt, R1.cell]; simp
  refine ⟨σ1, ?_, k1⟩
  by_cases c1 : most < 0
  · exact Runs.intro (fn := Try.f55) (by kernel_rfl) (by kernel_rfl) ⟨0, fun k _ => by simp only [f55_eq]; simp only [Option.bind_some, decide_eq_true_eq, decide_eq_false_iff_not, Bool.not_eq_true', Bool.not_true, Bool.not_false, Bool.false_eq_true, Bool.true_eq_false, Bool.not_eq_eq_eq_not, beq_self_eq_true, beqFT, beqTF, decide_true, decide_false, not_false_eq_true, not_true_eq_false, ne_eq, true_and, and_true, false_and, and_false, and_self, if_true, if_false, ite_true, ite_false, Bool.and_true, Bool.and_false, Bool.true_and, Bool.false_and, Bool.or_true, Bool.true_or, Bool.or_false, Bool.false_or, or_true, true_or, or_false, false_or, or_self, AV.asInt, AV.asBool, AV.asSl, AV.asPtr, AV.asFn, AV.asStr, AV.asMap, AV.asIfc, AV.item, List.length_cons, List.length_nil, List.getElem?_cons_zero, List.getElem?_cons_succ, Nat.zero_add, ← h1, e1, c1]⟩
  by_cases c2 : (4194304 : Int) ≤ most
  · exact Runs.intro (fn := Try.f55) (by kernel_rfl) (by kernel_rfl) ⟨0, fun k _ => by simp only [f55_eq]; simp only [Option.bind_some, decide_eq_true_eq, decide_eq_false_iff_not, Bool.not_eq_true', Bool.not_true, Bool.not_false, Bool.false_eq_true, Bool.true_eq_false, Bool.not_eq_eq_eq_not, beq_self_eq_true, beqFT, beqTF, decide_true, decide_false, not_false_eq_true, not_true_eq_false, ne_eq, true_and, and_true, false_and, and_false, and_self, if_true, if_false, ite_true, ite_false, Bool.and_true, Bool.and_false, Bool.true_and, Bool.false_and, Bool.or_true, Bool.true_or, Bool.or_false, Bool.false_or, or_true, true_or, or_false, false_or, or_self, AV.asInt, AV.asBool, AV.asSl, AV.asPtr, AV.asFn, AV.asStr, AV.asMap, AV.asIfc, AV.item, List.length_cons, List.length_nil, List.getElem?_cons_zero, List.getElem?_cons_succ, Nat.zero_add, ← h1, e1, c1, c2]⟩
  by_cases c3 : (4194304 : Int) < h.len
  · exact Runs.intro (fn := Try.f55) (by kernel_rfl) (by kernel_rfl) ⟨0, fun k _ => by simp only [f55_eq]; simp only [Option.bind_some, decide_eq_true_eq, decide_eq_false_iff_not, Bool.not_eq_true', Bool.not_true, Bool.not_false, Bool.false_eq_true, Bool.true_eq_false, Bool.not_eq_eq_eq_not, beq_self_eq_true, beqFT, beqTF, decide_true, decide_false, not_false_eq_true, not_true_eq_false, ne_eq, true_and, and_true, false_and, and_false, and_self, if_true, if_false, ite_true, ite_false, Bool.and_true, Bool.and_false, Bool.true_and, Bool.false_and, Bool.or_true, Bool.true_or, Bool.or_false, Bool.false_or, or_true, true_or, or_false, false_or, or_self, AV.asInt, AV.asBool, AV.asSl, AV.asPtr, AV.asFn, AV.asStr, AV.asMap, AV.asIfc, AV.item, List.length_cons, List.length_nil, List.getElem?_cons_zero, List.getElem?_cons_succ, Nat.zero_add, ← h1, e1, c1, c2, c3]⟩
  obtain ⟨k2, r2⟩ := containsFunc_run (g := 71) (a := []) (c := [.ptr (some (σ.objs.length, 0))]) (Store.Sl.kp hT k1) (by omega) (fun x _ => newC1_run e1 x)
  have c4 : (l.any fun c => decide (c < 0) || decide (most < c)) = true := by
    cases c : (l.any fun c => decide (c < 0) || decide (most < c)) with
    | true => rfl
    | false =>
      have : okW l most = true := by
        simp only [okW, c]; simp; omega
      rw [this] at hb; cases hb
  rw [c4] at r2
  exact Runs.intro (fn := Try.f55) (by kernel_rfl) (by kernel_rfl) ⟨k2, fun k hk => by
    have r2 := r2 k hk
    simp only at r2
    simp only [f55_eq]; simp only [Option.bind_some, decide_eq_true_eq, decide_eq_false_iff_not, Bool.not_eq_true', Bool.not_true, Bool.not_false, Bool.false_eq_true, Bool.true_eq_false, Bool.not_eq_eq_eq_not, beq_self_eq_true, beqFT, beqTF, decide_true, decide_false, not_false_eq_true, not_true_eq_false, ne_eq, true_and, and_true, false_and, and_false, and_self, if_true, if_false, ite_true, ite_false, Bool.and_true, Bool.and_false, Bool.true_and, Bool.false_and, Bool.or_true, Bool.true_or, Bool.or_false, Bool.false_or, or_true, true_or, or_false, false_or, or_self, AV.asInt, AV.asBool, AV.asSl, AV.asPtr, AV.asFn, AV.asStr, AV.asMap, AV.asIfc, AV.item, List.length_cons, List.length_nil, List.getElem?_cons_zero, List.getElem?_cons_succ, Nat.zero_add, ← h1, e1, c1, c2, c3, r2]⟩
theorem waveNew_run {σ : Store} {h : Hdl} {l : List Int} {most : Int} (hT : σ.Ints h l) (hp : σ.prot ≤ σ.objs.length) (hok : okW l most = true) :
    ∃ p w σ', Runs Try.prog 55 [.slice h, .int .i64 most] σ (.tuple [.ptr p, .int .i64 0]) σ' ∧ Kp σ.objs.length σ σ' ∧ Mat σ' p l w ∧ IsWid most.toNat w ∧ p.isNone = false ∧ (∀ σ'' : Store, (∀ x, σ.objs.length ≤ x → σ''.objs[x]? = σ'.objs[x]?) → Mat σ'' p l w) := by
  have ll := hT.ilen
  obtain ⟨m0, m1, ln, hx⟩ := okW_iff.1 hok
  obtain ⟨σ1, h1⟩ : ∃ x, x = σ.push [.int .i64 most] 1 := ⟨_, rfl⟩
  have k1 : Kp σ.objs.length σ σ1 := by rw [h1]; exact Kp.push _ _ (Nat.le_refl _)
  have R1 : σ1.Row σ.objs.length 1 [.int .i64 most] := by rw [h1]; exact Store.Row.new
  have e1 : σ1.ldInt .i64 (some (σ.objs.length, 0)) = some most := by simp only [Store.ldInt, R1.cell]; simp
  have len1 := k1.len
  have c1 : ¬ most < 0 := by omega
  have c2 : ¬ (4194304 : Int) ≤ most := by omega
  have c3 : ¬ (4194304 : Int) < h.len := by omega
  obtain ⟨k2, r2⟩ := containsFunc_run (g := 71) (a := []) (c := [.ptr (some (σ.objs.length, 0))]) (Store.Sl.kp hT k1) (by omega) (fun x _ => newC1_run e1 x)
  have c4 : (l.any fun c => decide (c < 0) || decide (most < c)) = false := by
    simp only [List.any_eq_false, Bool.or_eq_true, decide_eq_true_eq, not_or]
    exact fun x hx' => by have := hx x hx'; omega
  rw [c4] at r2
  obtain ⟨w, ⟨k3, r3⟩, W⟩ := width_run σ1 (x := most.toNat) (by omega)
  have em : ((most.toNat : Nat) : Int) = most := by omega
  rw [em] at r3
  have hw := W.2.1
  have hw1 := W.1
  have u1 : IntKind.wrap .u64 most = most := wrapu64 (by omega) (by omega)
  obtain ⟨b, hb⟩ : ∃ b, b = σ1.objs.length := ⟨_, rfl⟩
  obtain ⟨σ2, h2⟩ : ∃ x, x = σ1.push [.int .i64 l.length, .int .i64 w, .slice Hdl.nil] 3 := ⟨_, rfl⟩
  have k2' : Kp b σ1 σ2 := by rw [h2, hb]; exact Kp.push _ _ (Nat.le_refl _)
  have R2 : σ2.Row b 3 [.int .i64 l.length, .int .i64 w, .slice Hdl.nil] := by rw [h2, hb]; exact Store.Row.new
  have hp1 : σ1.prot ≤ b := by rw [k1.prot]; omega
  have hp2 : σ2.prot ≤ b := by rw [k2'.prot]; exact hp1
  have l2 := R2.lt
  obtain ⟨hc, σ3, ⟨k4, r4⟩, K3, G3⟩ := cloneI_run (Store.Sl.kp (Store.Sl.kp hT k1) (hb ▸ k2')) (by omega) (by omega)
  have R3 := R2.kp K3 l2
  have e3 := row_int R3 (o := 1) rfl
  have hp3 : σ3.prot ≤ b := by rw [K3.prot]; exact hp2
  obtain ⟨r, e, σ4, rfl, hcx, I4⟩ := EvI.downX (f := fun k s => stepF Try.prog (gm Try.prog k) drawn k Try.f55 [1, 1, 1, 1, 0, 1, 0] [8, 7, 6] s)
    (fun m s => ∃ hrow s1, s = ([.int .i64 ((m : Int) - 1), .slice hrow, .ptr (some (b, 0))], s1) ∧ m ≤ w ∧ NewI σ3 b w l m hrow s1)
    (fun r => ∃ s1, r = (AX.exit 0, [(6, .ptr (some (b, 0)))], s1) ∧ ∃ hrow, NewI σ3 b w l 0 hrow s1)
    (by
      rintro m s ⟨hrow, s1, rfl, hm, I⟩
      have em : ((m + 1 : Nat) : Int) - 1 = m := by omega
      rw [em]
      obtain ⟨h', s2, ev, I'⟩ := new_round I (by omega) hw (by rw [I.kk.prot]; exact hp3) ln (fun x hx' => by have := hx x hx'; omega)
      exact .inl ⟨_, ev, h', s2, rfl, by omega, I'⟩)
    (by
      rintro s ⟨hrow, s1, rfl, hm, I⟩
      have c : ¬ (0 : Int) ≤ ((0 : Nat) : Int) - 1 := by omega
      exact ⟨(AX.exit 0, [(6, .ptr (some (b, 0)))], s1), Ev.of fun k => by simp only [f55_L1111010]; simp only [Option.bind_some, decide_eq_true_eq, decide_eq_false_iff_not, Bool.not_eq_true', Bool.not_true, Bool.not_false, Bool.false_eq_true, Bool.true_eq_false, Bool.not_eq_eq_eq_not, beq_self_eq_true, beqFT, beqTF, decide_true, decide_false, not_false_eq_true, not_true_eq_false, ne_eq, true_and, and_true, false_and, and_false, and_self, if_true, if_false, ite_true, ite_false, Bool.and_true, Bool.and_false, Bool.true_and, Bool.false_and, Bool.or_true, Bool.true_or, Bool.or_false, Bool.false_or, or_true, true_or, or_false, false_or, or_self, AV.asInt, AV.asBool, AV.asSl, AV.asPtr, AV.asFn, AV.asStr, AV.asMap, AV.asIfc, AV.item, List.length_cons, List.length_nil, List.getElem?_cons_zero, List.getElem?_cons_succ, Nat.zero_add, c], s1, rfl, hrow, I⟩)
    w (s := ([.int .i64 ((w : Int) - 1), .slice hc, .ptr (some (b, 0))], σ3))
    ⟨hc, σ3, rfl, Nat.le_refl _, Kp.refl _ _, ⟨Hdl.nil, [], R3, Grow.nil _ _ _, by simp, fun j hj => by omega⟩, by rw [rowAt_top]; exact G3.ints, G3.has⟩
  obtain ⟨n5, e⟩ := loopF_ev e
  obtain ⟨hl, ps, R4, G4, lp, V⟩ := I4.ex
  have rg : ∀ x ∈ l, 0 ≤ x ∧ x < 2 ^ w := fun x hx' => by
    have := hx x hx'
    have h3 := W.2.2.1
    have : ((2 : Int) ^ w) = ((2 ^ w : Nat) : Int) := by simp
    omega
  refine ⟨some (b, 0), w, σ4, Runs.intro (fn := Try.f55) (by kernel_rfl) (by kernel_rfl) ⟨k2 + k3 + k4 + n5, fun k hk => ?_⟩, ?_, ⟨⟨b, hl, ps, rfl, R4, G4.sl, by omega, fun j hj => ?_⟩, ⟨by omega, by omega⟩, ln, rg⟩, W, rfl, fun σ'' fr => ⟨⟨b, hl, ps, rfl, (fr b (by omega)).trans R4, G4.sl.keep fun x o e => fr x (by have := G4.rowLt x o e; omega), by omega, fun j hj => ?_⟩, ⟨by omega, by omega⟩, ln, rg⟩⟩
  · have r2 := r2 k (by omega)
    have r3 := r3 k (by omega)
    have r4 := r4 k (by omega)
    have e := e k (by omega)
    simp only at r2 r3 r4 e
    have w1 : IntKind.wrap .i64 ((w : Int) - 1) = w - 1 := wrap64 (by omega) (by omega)
    simp only [f55_eq]
    simp only [Option.bind_some, decide_eq_true_eq, decide_eq_false_iff_not, Bool.not_eq_true', Bool.not_true, Bool.not_false, Bool.false_eq_true, Bool.true_eq_false, Bool.not_eq_eq_eq_not, beq_self_eq_true, beqFT, beqTF, decide_true, decide_false, not_false_eq_true, not_true_eq_false, ne_eq, true_and, and_true, false_and, and_false, and_self, if_true, if_false, ite_true, ite_false, Bool.and_true, Bool.and_false, Bool.true_and, Bool.false_and, Bool.or_true, Bool.true_or, Bool.or_false, Bool.false_or, or_true, true_or, or_false, false_or, or_self, AV.asInt, AV.asBool, AV.asSl, AV.asPtr, AV.asFn, AV.asStr, AV.asMap, AV.asIfc, AV.item, List.length_cons, List.length_nil, List.getElem?_cons_zero, List.getElem?_cons_succ, Nat.zero_add, ← h1, e1, c1, c2, ll] at c3 ⊢
    simp only [Option.bind_some, decide_eq_true_eq, decide_eq_false_iff_not, Bool.not_eq_true', Bool.not_true, Bool.not_false, Bool.false_eq_true, Bool.true_eq_false, Bool.not_eq_eq_eq_not, beq_self_eq_true, beqFT, beqTF, decide_true, decide_false, not_false_eq_true, not_true_eq_false, ne_eq, true_and, and_true, false_and, and_false, and_self, if_true, if_false, ite_true, ite_false, Bool.and_true, Bool.and_false, Bool.true_and, Bool.false_and, Bool.or_true, Bool.true_or, Bool.or_false, Bool.false_or, or_true, true_or, or_false, false_or, or_self, AV.asInt, AV.asBool, AV.asSl, AV.asPtr, AV.asFn, AV.asStr, AV.asMap, AV.asIfc, AV.item, List.length_cons, List.length_nil, List.getElem?_cons_zero, List.getElem?_cons_succ, Nat.zero_add, c3]
    rw [ll] at *
    simp only [Option.bind_some, decide_eq_true_eq, decide_eq_false_iff_not, Bool.not_eq_true', Bool.not_true, Bool.not_false, Bool.false_eq_true, Bool.true_eq_false, Bool.not_eq_eq_eq_not, beq_self_eq_true, beqFT, beqTF, decide_true, decide_false, not_false_eq_true, not_true_eq_false, ne_eq, true_and, and_true, false_and, and_false, and_self, if_true, if_false, ite_true, ite_false, Bool.and_true, Bool.and_false, Bool.true_and, Bool.false_and, Bool.or_true, Bool.true_or, Bool.or_false, Bool.false_or, or_true, true_or, or_false, false_or, or_self, AV.asInt, AV.asBool, AV.asSl, AV.asPtr, AV.asFn, AV.asStr, AV.asMap, AV.asIfc, AV.item, List.length_cons, List.length_nil, List.getElem?_cons_zero, List.getElem?_cons_succ, Nat.zero_add, r2, e1, u1, r3, ← h2, r4, ← hb, e3, w1, e]
    rw [f55_X1111010_1]
  · exact k1.all (hb ▸ (k2'.trans (K3.mono (by omega))).trans I4.kk)
  · obtain ⟨p, lo, hi, h1, h2, _⟩ := V j (by omega)
    exact ⟨p, h1, h2.vec⟩
  · obtain ⟨p, lo, hi, h1, h2, h3, _⟩ := V j (by omega)
    exact ⟨p, h1, (h2.keep fun x hx => fr x (by omega)).vec⟩
end Go.Ab

/- Going down the levels by a prefix of bits. Plain Lean, no program. -/
namespace Go.Ab.Bs
open Go.Ab.Wd
set_option linter.unusedVariables false
set_option linter.unusedSimpArgs false
/-- The upper bits of a number are c. -/
def pre (k c : Nat) (x : Int) : Bool := decide (x.toNat / 2 ^ k = c)
def bn (b : Bool) : Nat := if b = true then 1 else 0
theorem div_succ (x k : Nat) : x / 2 ^ (k + 1) = x / 2 ^ k / 2 := by rw [Nat.pow_succ, Nat.div_div_eq_div_mul]
theorem pre_step (k c : Nat) (one : Bool) (x : Int) : pre k (2 * c + bn one) x = (pre (k + 1) c x && (bitb k x == one)) := by
  unfold pre bitb bn
  rw [div_succ]
  generalize x.toNat / 2 ^ k = u
  rw [Bool.eq_iff_iff]
  cases one <;> simp <;> omega
theorem Part.step {w : Nat} {l s : List Int} {a k c : Nat} (hk : k < w) (h : Part (rowAt w l (k + 1)) a (s.filter (pre (k + 1) c))) (one : Bool) :
    Part (rowAt w l k) (goto ((rowAt w l (k + 1)).map (bitb k)) a one) (s.filter (pre k (2 * c + bn one))) ∧
      goto ((rowAt w l (k + 1)).map (bitb k)) (a + (s.filter (pre (k + 1) c)).length) one = goto ((rowAt w l (k + 1)).map (bitb k)) a one + (s.filter (pre k (2 * c + bn one))).length := by
  have h1 := h.down k one
  rw [List.filter_filter] at h1
  have e : (fun a => (bitb k a == one) && pre (k + 1) c a) = pre k (2 * c + bn one) := by funext x; rw [pre_step k c one x, Bool.and_comm]
  rw [e] at h1
  rw [rowAt_step w l k hk]
  exact h1
theorem pre_top {w : Nat} {x : Int} (hx : x.toNat < 2 ^ w) : pre w 0 x = true := by
  unfold pre; rw [Nat.div_eq_of_lt hx]; simp
theorem Part.top {w : Nat} {l : List Int} (hl : ∀ x ∈ l, x.toNat < 2 ^ w) {a b : Nat} (hab : a ≤ b) (hb : b ≤ l.length) : Part (rowAt w l w) a (((l.take b).drop a).filter (pre w 0)) := by
  rw [rowAt_top, List.filter_eq_self.2]
  · exact Part.of_take hab hb
  · exact fun x hx => pre_top (hl x (List.mem_of_mem_take (List.mem_of_mem_drop hx)))
theorem pre_zero {c : Nat} {x : Int} (hx : 0 ≤ x) : pre 0 c x = decide (x = c) := by
  unfold pre; simp only [Nat.pow_zero, Nat.div_one]; congr 1; exact propext (by omega)
/-- The zeros between two places. -/
theorem zeros_goto (B : List Bool) (i : Nat) : zerosTo B i = goto B i false := by simp [goto]
theorem goto_mono (B : List Bool) (one : Bool) {i j : Nat} (h : i ≤ j) (hj : j ≤ B.length) : goto B i one ≤ goto B j one := by
  have e : j = i + (j - i) := by omega
  unfold goto
  split
  · have := onesTo_mono B h; omega
  · unfold zerosTo
    have h1 := onesTo_le B i
    have h2 := onesTo_mono B h
    have : onesTo B j ≤ onesTo B i + (j - i) := by
      clear h1 h2 hj
      obtain ⟨d, rfl⟩ : ∃ d, j = i + d := ⟨j - i, e⟩
      rw [Nat.add_sub_cancel_left]
      induction d with
      | zero => simp
      | succ d ih => have := ih (by omega) (by omega); rw [← Nat.add_assoc, onesTo_succ]; split <;> omega
    omega
theorem goto_le (B : List Bool) (i : Nat) (one : Bool) : goto B i one ≤ B.length := by
  unfold goto
  split
  · unfold zerosTo
    have h1 := onesTo_len B B.length
    have h2 : onesTo B i ≤ onesTo B B.length := by
      by_cases c : i ≤ B.length
      · exact onesTo_mono B c
      · rw [onesTo_ge B (by omega)]; exact Nat.le_refl _
    omega
  · unfold zerosTo; omega
/-- Counting below a number, one bit on. -/
theorem below_zero_bit (k c : Nat) (s : List Int) : cnt (fun x => decide (x.toNat / 2 ^ k < 2 * c)) s = cnt (fun x => decide (x.toNat / 2 ^ (k + 1) < c)) s := by
  apply cnt_congr; intro x _
  rw [div_succ]; congr 1; exact propext (by omega)
theorem below_one_bit (k c : Nat) (s : List Int) : cnt (fun x => decide (x.toNat / 2 ^ k < 2 * c + 1)) s = cnt (fun x => decide (x.toNat / 2 ^ (k + 1) < c)) s + (s.filter (pre k (2 * c))).length := by
  rw [← below_zero_bit]
  have := cnt_or (p := fun x => decide (x.toNat / 2 ^ k < 2 * c)) (q := pre k (2 * c)) s (fun x _ => by unfold pre; simp; omega)
  unfold cnt at this ⊢
  rw [← this]
  congr 2; funext x; unfold pre
  rw [Bool.eq_iff_iff]; simp; omega
theorem below_all {k c : Nat} {s : List Int} (h : ∀ x ∈ s, x.toNat < 2 ^ k) : cnt (fun x => decide (x.toNat / 2 ^ k < c)) s = if 0 < c then s.length else 0 := by
  split
  · unfold cnt; rw [List.filter_eq_self.2]; intro x hx; rw [Nat.div_eq_of_lt (h x hx)]; simpa
  · unfold cnt; rw [List.filter_eq_nil_iff.2]; · rfl
    intro x hx; rw [Nat.div_eq_of_lt (h x hx)]; simp; omega
end Go.Ab.Bs

/- What a wavelet matrix answers: at, span, rank, quantile, below. -/
namespace Go.Ab
open Go Go.Proofs Go.Ab.Wd Go.Ab.Bs Go.Ab.Sai
set_option linter.unusedVariables false
set_option linter.unusedSimpArgs false
theorem ptrs_rd {σ : Store} {h : Hdl} {ps : List Ptr} (s : σ.Sl h 1 (ptrsL ps)) {j : Nat} {q : Ptr} (hj : ps[j]? = some q) : σ.ldPtr (h.idx (j : Int) 1) = some q := by
  have : σ.cell (h.idx (j : Int) 1) = some (.ptr q) := Store.Sl.at s (by omega) (by simp [ptrsL, hj])
  simp [Store.ldPtr, this]
section
variable {σ : Store} {p : Ptr} {l : List Int} {w : Nat}
theorem Mat.facts (m : Mat σ p l w) : ∃ b hl, p = some (b, 0) ∧ σ.ldInt .i64 (Ptr.add (some (b, 0)) 0) = some (l.length : Int) ∧ σ.ldInt .i64 (Ptr.add (some (b, 0)) 1) = some (w : Int) ∧ σ.ldSl (Ptr.add (some (b, 0)) 2) = some hl ∧ hl.len = w ∧
    ∀ j, j < w → ∃ q, σ.ldPtr (hl.idx (j : Int) 1) = some q ∧ Vec σ q (lev w l j) := by
  obtain ⟨b, hl, ps, rfl, R, S, lp, V⟩ := m.ex
  refine ⟨b, hl, rfl, row_int R (o := 0) rfl, row_int R (o := 1) rfl, row_sl R (o := 2) rfl, ?_, fun j hj => ?_⟩
  · have := S.len; simp at this; omega
  · obtain ⟨q, e, v⟩ := V j hj
    exact ⟨q, ptrs_rd S e, v⟩
theorem Mat.nat (m : Mat σ p l w) : ∀ x ∈ l, x.toNat < 2 ^ w := fun x hx => by
  have := m.rng x hx
  have e : ((2 : Int) ^ w) = ((2 ^ w : Nat) : Int) := by simp
  omega
theorem lev_length (w : Nat) (l : List Int) (j : Nat) : (lev w l j).length = l.length := by simp [lev, rowAt_length]
theorem lev_eq {w j k : Nat} (l : List Int) (h : w = j + (k + 1)) : lev w l j = (Bs.rowAt w l (k + 1)).map (bitb k) := by
  unfold lev; rw [show w - j = k + 1 by omega]; rfl
theorem matLen_run (m : Mat σ p l w) : Runs Try.prog 31 [.ptr p] σ (.int .i64 l.length) σ := by
  obtain ⟨b, hl, rfl, e0, e1, e2, _, _⟩ := m.facts
  exact Runs.intro (fn := Try.f31) (by kernel_rfl) (by kernel_rfl) (Ev.of fun k => by rw [f31_eq]; simp only [Option.bind_some, decide_eq_true_eq, decide_eq_false_iff_not, Bool.not_eq_true', Bool.not_true, Bool.not_false, Bool.false_eq_true, Bool.true_eq_false, Bool.not_eq_eq_eq_not, beq_self_eq_true, beqFT, beqTF, decide_true, decide_false, not_false_eq_true, not_true_eq_false, ne_eq, true_and, and_true, false_and, and_false, and_self, if_true, if_false, ite_true, ite_false, Bool.and_true, Bool.and_false, Bool.true_and, Bool.false_and, Bool.or_true, Bool.true_or, Bool.or_false, Bool.false_or, or_true, true_or, or_false, false_or, or_self, AV.asInt, AV.asBool, AV.asSl, AV.asPtr, AV.asFn, AV.asStr, AV.asMap, AV.asIfc, AV.item, List.length_cons, List.length_nil, List.getElem?_cons_zero, List.getElem?_cons_succ, Nat.zero_add, Option.isNone_some, e0])
theorem bitAt_lev {w j k a : Nat} {l : List Int} {x : Int} (h : w = j + (k + 1)) (P : Part (Bs.rowAt w l (k + 1)) a [x]) : bitAt (lev w l j) a = bitb k x := by
  have := P.get (i := 0) (by simp)
  unfold bitAt
  rw [lev_eq l h, List.getElem?_map, show a = a + 0 by omega, this]
  simp
theorem matAt_run (m : Mat σ p l w) (i : Int) : Runs Try.prog 34 [.ptr p, .int .i64 i] σ (.int .i64 (if 0 ≤ i ∧ i < l.length then rd l i else -1)) σ := by
  by_cases c0 : i < 0
  · rw [if_neg (by omega)]
    exact Runs.intro (fn := Try.f34) (by kernel_rfl) (by kernel_rfl) (Ev.of fun k => by rw [f34_eq]; simp only [Option.bind_some, decide_eq_true_eq, decide_eq_false_iff_not, Bool.not_eq_true', Bool.not_true, Bool.not_false, Bool.false_eq_true, Bool.true_eq_false, Bool.not_eq_eq_eq_not, beq_self_eq_true, beqFT, beqTF, decide_true, decide_false, not_false_eq_true, not_true_eq_false, ne_eq, true_and, and_true, false_and, and_false, and_self, if_true, if_false, ite_true, ite_false, Bool.and_true, Bool.and_false, Bool.true_and, Bool.false_and, Bool.or_true, Bool.true_or, Bool.or_false, Bool.false_or, or_true, true_or, or_false, false_or, or_self, AV.asInt, AV.asBool, AV.asSl, AV.asPtr, AV.asFn, AV.asStr, AV.asMap, AV.asIfc, AV.item, List.length_cons, List.length_nil, List.getElem?_cons_zero, List.getElem?_cons_succ, Nat.zero_add, c0])
  obtain ⟨k1, r1⟩ := matLen_run m
  by_cases c1 : (l.length : Int) ≤ i
  · rw [if_neg (by omega)]
    exact Runs.intro (fn := Try.f34) (by kernel_rfl) (by kernel_rfl) ⟨k1, fun k hk => by
      have r1 := r1 k hk
      simp only at r1
      simp only [f34_eq]; simp only [Option.bind_some, decide_eq_true_eq, decide_eq_false_iff_not, Bool.not_eq_true', Bool.not_true, Bool.not_false, Bool.false_eq_true, Bool.true_eq_false, Bool.not_eq_eq_eq_not, beq_self_eq_true, beqFT, beqTF, decide_true, decide_false, not_false_eq_true, not_true_eq_false, ne_eq, true_and, and_true, false_and, and_false, and_self, if_true, if_false, ite_true, ite_false, Bool.and_true, Bool.and_false, Bool.true_and, Bool.false_and, Bool.or_true, Bool.true_or, Bool.or_false, Bool.false_or, or_true, true_or, or_false, false_or, or_self, AV.asInt, AV.asBool, AV.asSl, AV.asPtr, AV.asFn, AV.asStr, AV.asMap, AV.asIfc, AV.item, List.length_cons, List.length_nil, List.getElem?_cons_zero, List.getElem?_cons_succ, Nat.zero_add, c0, r1, c1]⟩
  obtain ⟨b, hl, rfl, e0, e1, e2, ln, V⟩ := m.facts
  have sm := m.small
  have hw := m.wid
  obtain ⟨x, hx⟩ : ∃ x, x = rd l i := ⟨_, rfl⟩
  have hxl : x ∈ l := by rw [hx]; exact rd_mem (by omega) (by omega)
  have hxw := m.nat x hxl
  have hx0 := (m.rng x hxl).1
  rw [if_pos (by omega), ← hx]
  have p24 : 2 ^ w ≤ 2 ^ 24 := Nat.pow_le_pow_right (by omega) hw.2
  obtain ⟨r, e, rfl⟩ := EvI.up (f := fun k s => stepF Try.prog (gm Try.prog k) drawn k Try.f34 [1, 1, 1, 0, 1, 0] [22, 21, 20, 5, 1] s) w
    (fun j s => ∃ a : Nat, s = ([.int .i64 j, .int .i64 w, .slice hl, .int .i64 (x.toNat / 2 ^ (w - j) : Nat), .int .i64 a], σ) ∧ j ≤ w ∧ Part (Bs.rowAt w l (w - j)) a [x])
    (fun r => r = (AX.exit 0, [(5, .int .i64 x)], σ))
    (by
      rintro j s hj ⟨a, rfl, _, P⟩
      obtain ⟨k, hk⟩ : ∃ k, w = j + (k + 1) := ⟨w - j - 1, by omega⟩
      rw [show w - j = k + 1 by omega] at P
      rw [show w - j = k + 1 by omega, show w - (j + 1) = k by omega]
      obtain ⟨q, lq, vq⟩ := V j hj
      obtain ⟨n1, r1⟩ := vec_at vq a
      have j0 : (0 : Int) ≤ j := by omega
      have j1 : (j : Int) < w := by omega
      have j2 : (j : Int) < hl.len := by omega
      have w1 := wsucc hj (by omega)
      rw [Int.toNat_natCast, bitAt_lev hk P] at r1
      obtain ⟨n2, r2⟩ := down_run vq a (bitb k x)
      rw [Int.toNat_natCast] at r2
      have st := P.down k (bitb k x)
      have e1 : ([x].filter fun y => bitb k y == bitb k x) = [x] := by simp
      rw [e1, ← rowAt_step w l k (by omega), ← lev_eq l hk] at st
      have dv := div_succ x.toNat k
      have d1 : x.toNat / 2 ^ k ≤ x.toNat := Nat.div_le_self _ _
      have hbk : bitb k x = decide (x.toNat / 2 ^ k % 2 = 1) := rfl
      obtain ⟨v, hv⟩ : ∃ v, v = x.toNat / 2 ^ k := ⟨_, rfl⟩
      obtain ⟨u, hu⟩ : ∃ u, u = x.toNat / 2 ^ (k + 1) := ⟨_, rfl⟩
      rw [← hu, ← hv] at dv
      rw [← hv] at d1 hbk
      rw [← hu, ← hv]
      have w2 : IntKind.wrap .i64 (2 * (u : Int)) = ((2 * u : Nat) : Int) := by rw [wrap64 (by omega) (by omega)]; omega
      have w3 : IntKind.wrap .i64 (((2 * u : Nat) : Int) + 1) = ((2 * u + 1 : Nat) : Int) := by rw [wrap64 (by omega) (by omega)]; omega
      refine ⟨([.int .i64 (j + 1 : Nat), .int .i64 w, .slice hl, .int .i64 (v : Nat), .int .i64 (goto (lev w l j) a (bitb k x) : Nat)], σ), ⟨n1 + n2, fun m' hm => ?_⟩, _, rfl, by omega, st.1⟩
      have r1 := r1 m' (by omega)
      have r2 := r2 m' (by omega)
      have a0 : decide ((0 : Int) ≤ (a : Int)) = true := by simp
      rw [a0, Bool.true_and] at r1
      simp only at r1 r2
      simp only [f34_L111010]
      cases hb : bitb k x with
      | true =>
        rw [hb] at r1 r2
        have : v = 2 * u + 1 := by rw [hbk, decide_eq_true_eq] at hb; omega
        simp only [Option.bind_some, decide_eq_true_eq, decide_eq_false_iff_not, Bool.not_eq_true', Bool.not_true, Bool.not_false, Bool.false_eq_true, Bool.true_eq_false, Bool.not_eq_eq_eq_not, beq_self_eq_true, beqFT, beqTF, decide_true, decide_false, not_false_eq_true, not_true_eq_false, ne_eq, true_and, and_true, false_and, and_false, and_self, if_true, if_false, ite_true, ite_false, Bool.and_true, Bool.and_false, Bool.true_and, Bool.false_and, Bool.or_true, Bool.true_or, Bool.or_false, Bool.false_or, or_true, true_or, or_false, false_or, or_self, AV.asInt, AV.asBool, AV.asSl, AV.asPtr, AV.asFn, AV.asStr, AV.asMap, AV.asIfc, AV.item, List.length_cons, List.length_nil, List.getElem?_cons_zero, List.getElem?_cons_succ, Nat.zero_add, j0, j1, j2, lq, r1, r2, w1, w2, w3, this]
      | false =>
        rw [hb] at r1 r2
        have : v = 2 * u := by rw [hbk, decide_eq_false_iff_not] at hb; omega
        simp only [Option.bind_some, decide_eq_true_eq, decide_eq_false_iff_not, Bool.not_eq_true', Bool.not_true, Bool.not_false, Bool.false_eq_true, Bool.true_eq_false, Bool.not_eq_eq_eq_not, beq_self_eq_true, beqFT, beqTF, decide_true, decide_false, not_false_eq_true, not_true_eq_false, ne_eq, true_and, and_true, false_and, and_false, and_self, if_true, if_false, ite_true, ite_false, Bool.and_true, Bool.and_false, Bool.true_and, Bool.false_and, Bool.or_true, Bool.true_or, Bool.or_false, Bool.false_or, or_true, true_or, or_false, false_or, or_self, AV.asInt, AV.asBool, AV.asSl, AV.asPtr, AV.asFn, AV.asStr, AV.asMap, AV.asIfc, AV.item, List.length_cons, List.length_nil, List.getElem?_cons_zero, List.getElem?_cons_succ, Nat.zero_add, j0, j1, j2, lq, r1, r2, w1, w2, this])
    (by
      rintro s ⟨a, rfl, _, P⟩
      rw [Nat.sub_self, Nat.pow_zero, Nat.div_one, show ((x.toNat : Nat) : Int) = x by omega]
      exact ⟨_, Ev.of fun k => by simp only [f34_L111010]; simp only [Option.bind_some, decide_eq_true_eq, decide_eq_false_iff_not, Bool.not_eq_true', Bool.not_true, Bool.not_false, Bool.false_eq_true, Bool.true_eq_false, Bool.not_eq_eq_eq_not, beq_self_eq_true, beqFT, beqTF, decide_true, decide_false, not_false_eq_true, not_true_eq_false, ne_eq, true_and, and_true, false_and, and_false, and_self, if_true, if_false, ite_true, ite_false, Bool.and_true, Bool.and_false, Bool.true_and, Bool.false_and, Bool.or_true, Bool.true_or, Bool.or_false, Bool.false_or, or_true, true_or, or_false, false_or, or_self, AV.asInt, AV.asBool, AV.asSl, AV.asPtr, AV.asFn, AV.asStr, AV.asMap, AV.asIfc, AV.item, List.length_cons, List.length_nil, List.getElem?_cons_zero, List.getElem?_cons_succ, Nat.zero_add, Int.lt_irrefl], rfl⟩)
    (s := ([.int .i64 0, .int .i64 w, .slice hl, .int .i64 0, .int .i64 i], σ))
    ⟨i.toNat, by rw [show ((i.toNat : Nat) : Int) = i by omega, Nat.sub_zero, Nat.div_eq_of_lt hxw]; rfl, by omega, by
      rw [Nat.sub_zero, rowAt_top]
      have h1 := Part.of_take (r := l) (a := i.toNat) (b := i.toNat + 1) (by omega) (by omega)
      have h2 : (l.take (i.toNat + 1)).drop i.toNat = [x] := by
        rw [List.drop_take, show i.toNat + 1 - i.toNat = 1 by omega, drop_rd (by omega : i.toNat < l.length)]
        simp [hx, show max i 0 = i by omega]
      rw [h2] at h1; exact h1⟩
  obtain ⟨n2, e⟩ := loopF_ev e
  refine Runs.intro (fn := Try.f34) (by kernel_rfl) (by kernel_rfl) ⟨k1 + n2, fun k hk => ?_⟩
  have r1 := r1 k (by omega)
  have e := e k (by omega)
  simp only at r1 e
  simp only [f34_eq]
  simp only [Option.bind_some, decide_eq_true_eq, decide_eq_false_iff_not, Bool.not_eq_true', Bool.not_true, Bool.not_false, Bool.false_eq_true, Bool.true_eq_false, Bool.not_eq_eq_eq_not, beq_self_eq_true, beqFT, beqTF, decide_true, decide_false, not_false_eq_true, not_true_eq_false, ne_eq, true_and, and_true, false_and, and_false, and_self, if_true, if_false, ite_true, ite_false, Bool.and_true, Bool.and_false, Bool.true_and, Bool.false_and, Bool.or_true, Bool.true_or, Bool.or_false, Bool.false_or, or_true, true_or, or_false, false_or, or_self, AV.asInt, AV.asBool, AV.asSl, AV.asPtr, AV.asFn, AV.asStr, AV.asMap, AV.asIfc, AV.item, List.length_cons, List.length_nil, List.getElem?_cons_zero, List.getElem?_cons_succ, Nat.zero_add, c0, r1, c1, e2, ln, e]
  rw [f34_X111010_1]
end
end Go.Ab
