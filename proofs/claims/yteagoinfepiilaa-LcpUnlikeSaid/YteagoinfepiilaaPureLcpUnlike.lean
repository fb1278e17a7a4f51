/- LcpUnlike: a list has as many unlike parts as its suffixes have beginnings, less what each has in common with the one ahead, for every list of bytes (its first 24). No conditions. -/
import Derived.Test.YteagoinfepiilaaLaw10
import Derived.Test.YteagoinfepiilaaUnl
import Derived.Test.YteagoinfepiilaaPrint9
namespace Go.Proofs.Yteagoinfepiilaa.Pure
open Go.RowKit Go.Proofs.Yteagoinfepiilaa.Print Go.Proofs.YteagoinfepiilaaW.PrintWords Go.Proofs.YteagoinfepiilaaW.PrintMore Go.Proofs.Yteagoinfepiilaa.Bs Go.Proofs.Yteagoinfepiilaa.Ls
set_option linter.unusedVariables false
set_option linter.unusedSimpArgs false
theorem mxb_lt (t : List Int) (a : Int) (x : Nat) : ∀ n : Nat, x ≤ mxb t a n ↔ x = 0 ∨ ∃ c : Nat, c < n ∧ x ≤ lcp (sfx t a) (sfx t c)
  | 0 => by simp [mxb]
  | n + 1 => by
    have ih := mxb_lt t a x n
    simp only [mxb]
    constructor
    · intro h
      by_cases h1 : x ≤ mxb t a n
      · rcases ih.1 h1 with h2 | ⟨c, hc, h2⟩
        · exact .inl h2
        · exact .inr ⟨c, by omega, h2⟩
      · exact .inr ⟨n, by omega, by omega⟩
    · rintro (h | ⟨c, hc, h⟩)
      · omega
      · by_cases e : c = n
        · subst e; omega
        · have := ih.2 (.inr ⟨c, by omega, h⟩)
          omega
theorem com_nat {t : List Int} {a c : Nat} (ha : a < t.length) (hc : c < t.length) : com t a c = (lcp (sfx t a) (sfx t c) : Int) := by
  unfold com sfx
  rw [if_pos ⟨by omega, by omega, by omega, by omega⟩]
/-- Is this part there ahead? -/
theorem unl_l4 (t : List Int) (hn : t.length ≤ 1000) (x7 x8 u : Int) (a b : Nat) (ha : a < b) (hb : b ≤ t.length) (d : Nat) : ∀ c : Nat, c ≤ a → a - c = d → (∀ c' : Nat, c' < c → lcp (sfx t a) (sfx t c') < b - a) →
    Ev (fun k => colophonlaw10_LcpUnlike.l3 k t x7 x8 (if b - a ≤ mxb t a a then u else wrap64 (u + 1)) a (b + 1 : Nat) (t.length : Int) a) true →
    Ev (fun k => colophonlaw10_LcpUnlike.l4 k t x7 x8 u a b false c (t.length : Int) a) true := by
  induction d with
  | zero =>
    intro c hc hd hall hr
    have e : ¬ b - a ≤ mxb t a a := by
      rw [mxb_lt]
      rintro (h | ⟨c', hc', h⟩)
      · omega
      · have := hall c' (by omega); omega
    rw [if_neg e] at hr
    refine Ev.step (fun k => ?_) hr
    simp only [colophonlaw10_LcpUnlike.l4]
    rw [if_neg (by omega), if_neg (by simp), wrap_id (x := (b : Int) + 1) (by omega) (by omega)]
    rfl
  | succ d ih =>
    intro c hc hd hall hr
    have h1 := common_ev t a c (by omega)
    have hcn := com_nat (t := t) (a := a) (c := c) (by omega) (by omega)
    by_cases hs : b - a ≤ lcp (sfx t a) (sfx t c)
    · have e : b - a ≤ mxb t a a := by rw [mxb_lt]; exact .inr ⟨c, by omega, hs⟩
      rw [if_pos e] at hr
      have h2 : Ev (fun k => colophonlaw10_LcpUnlike.l4 k t x7 x8 u a b true (c + 1 : Nat) (t.length : Int) a) true := by
        refine Ev.step (fun k => ?_) hr
        simp only [colophonlaw10_LcpUnlike.l4]
        by_cases hl : ((c + 1 : Nat) : Int) < a
        · rw [if_pos hl, if_pos (by simp), wrap_id (x := (b : Int) + 1) (by omega) (by omega)]
          rfl
        · rw [if_neg hl, if_pos (by simp), wrap_id (x := (b : Int) + 1) (by omega) (by omega)]
          rfl
      refine Ev.step (fun k => ?_) (Ev.bind h1 (Ev.congr (fun k => ?_) h2) (f := fun k v => colophonlaw10_LcpUnlike.l4 k t x7 x8 u a b (decide (v ≥ wrap64 ((b : Int) - a))) (wrap64 ((c : Int) + 1)) (t.length : Int) a))
      · simp only [colophonlaw10_LcpUnlike.l4]
        rw [if_pos (by omega), if_neg (by simp)]
      · rw [wrap_id (x := (b : Int) - a) (by omega) (by omega), wrap_id (x := (c : Int) + 1) (by omega) (by omega), decide_eq_true (by omega)]
        rfl
    · have h2 := ih (c + 1) (by omega) (by omega) (fun c' hc' => by
        by_cases e : c' = c
        · subst e; omega
        · exact hall c' (by omega)) hr
      refine Ev.step (fun k => ?_) (Ev.bind h1 (Ev.congr (fun k => ?_) h2) (f := fun k v => colophonlaw10_LcpUnlike.l4 k t x7 x8 u a b (decide (v ≥ wrap64 ((b : Int) - a))) (wrap64 ((c : Int) + 1)) (t.length : Int) a))
      · simp only [colophonlaw10_LcpUnlike.l4]
        rw [if_pos (by omega), if_neg (by simp)]
      · rw [wrap_id (x := (b : Int) - a) (by omega) (by omega), wrap_id (x := (c : Int) + 1) (by omega) (by omega), decide_eq_false (by omega)]
        rfl
theorem mxb_le (t : List Int) (a : Nat) (ha : a ≤ t.length) : ∀ n, mxb t a n ≤ t.length - a
  | 0 => Nat.zero_le _
  | n + 1 => by
    have h1 := mxb_le t a ha n
    have h2 := lcp_le_left (sfx t a) (sfx t n)
    simp only [sfx, List.length_drop] at h2
    simp only [mxb, sfx]
    omega
theorem unl_l3 (t : List Int) (hn : t.length ≤ 1000) (x7 x8 : Int) (a : Nat) (ha : a < t.length) (d : Nat) : ∀ (b u : Nat), a < b → b ≤ t.length + 1 → t.length + 1 - b = d → u + d ≤ 1000000 →
    Ev (fun k => colophonlaw10_LcpUnlike.l2 k t x7 x8 (u + (t.length - max (b - 1) (a + mxb t a a)) : Nat) (t.length : Int) (a + 1 : Nat)) true →
    Ev (fun k => colophonlaw10_LcpUnlike.l3 k t x7 x8 u a b (t.length : Int) a) true := by
  have hm := mxb_le t a (by omega) a
  induction d with
  | zero =>
    intro b u hb hb1 hd hu hr
    refine Ev.step (fun k => ?_) hr
    simp only [colophonlaw10_LcpUnlike.l3]
    rw [if_neg (by omega), wrap_id (x := (a : Int) + 1) (by omega) (by omega), show u + (t.length - max (b - 1) (a + mxb t a a)) = u by omega]
    rfl
  | succ d ih =>
    intro b u hb hb1 hd hu hr
    refine Ev.step (fun k => ?_) (unl_l4 t hn x7 x8 u a b hb (by omega) a 0 (by omega) (by omega) (fun c' hc' => by omega) ?_)
    · simp only [colophonlaw10_LcpUnlike.l3]
      rw [if_pos (by omega)]
      rfl
    · by_cases e : b - a ≤ mxb t a a
      · rw [if_pos e]
        refine ih (b + 1) u (by omega) (by omega) (by omega) (by omega) ?_
        rw [show max (b + 1 - 1) (a + mxb t a a) = max (b - 1) (a + mxb t a a) by omega]
        exact hr
      · rw [if_neg e]
        have h3 := ih (b + 1) (u + 1) (by omega) (by omega) (by omega) (by omega) (by
          rw [show u + 1 + (t.length - max (b + 1 - 1) (a + mxb t a a)) = u + (t.length - max (b - 1) (a + mxb t a a)) by omega]
          exact hr)
        rw [wrap_id (x := (u : Int) + 1) (by omega) (by omega)]
        exact h3
theorem upto_le (t : List Int) : ∀ n, upto t n ≤ n * t.length
  | 0 => by simp [upto]
  | n + 1 => by
    have := upto_le t n
    rw [upto, Nat.add_mul]
    omega
theorem unl_l2 (t : List Int) (hn : t.length ≤ 30) (d : Nat) : ∀ a : Nat, a ≤ t.length → t.length - a = d → Ev (fun k => colophonlaw10_LcpUnlike.l2 k t 0 (upto t t.length : Nat) (upto t a : Nat) (t.length : Int) a) true := by
  induction d with
  | zero =>
    intro a ha hd
    have e : a = t.length := by omega
    subst e
    refine Ev.step (f := fun _ => some true) (fun k => ?_) (Ev.const _)
    simp only [colophonlaw10_LcpUnlike.l2]
    rw [if_neg (by omega), if_pos trivial]
    simp
  | succ d ih =>
    intro a ha hd
    have hb := upto_le t a
    have hb2 : a * t.length ≤ 30 * 30 := Nat.mul_le_mul (by omega) hn
    have hm := mxb_le t a (by omega) a
    refine Ev.step (fun k => ?_) (unl_l3 t (by omega) 0 (upto t t.length : Nat) a (by omega) (t.length - a) (a + 1) (upto t a) (by omega) (by omega) (by omega) (by omega) ?_)
    · simp only [colophonlaw10_LcpUnlike.l2]
      rw [if_pos (by omega), wrap_id (x := (a : Int) + 1) (by omega) (by omega)]
      rfl
    · have := ih (a + 1) (by omega) (by omega)
      rw [upto] at this
      rw [show t.length - max (a + 1 - 1) (a + mxb t a a) = t.length - a - mxb t a a by omega]
      exact this
theorem sum_take (l : List Int) (n : Nat) (h : n < l.length) : (l.take (n + 1)).sum = (l.take n).sum + rd l n := by
  rw [List.take_succ_eq_append_getElem h, List.sum_append, rd_getElem h]
  simp
theorem unl_l1 (t m : List Int) (hn : t.length ≤ 30) (n0 : Int) (h0 : n0 - m.sum = upto t t.length) (hb : ∀ i, i ≤ m.length → -1000000 ≤ n0 - (m.take i).sum ∧ n0 - (m.take i).sum ≤ 1000000) (hm : m.length ≤ 1000) (d : Nat) : ∀ i : Nat, i ≤ m.length → m.length - i = d →
    Ev (fun k => colophonlaw10_LcpUnlike.l1 k t 0 (n0 - (m.take i).sum) m (m.length : Int) i) true := by
  induction d with
  | zero =>
    intro i hi hd
    have e : i = m.length := by omega
    subst e
    refine Ev.step (fun k => ?_) (unl_l2 t hn t.length 0 (by omega) (by omega))
    simp only [colophonlaw10_LcpUnlike.l1]
    rw [if_neg (by omega), List.take_length, h0]
    rfl
  | succ d ih =>
    intro i hi hd
    have h1 := hb (i + 1) (by omega)
    have h2 := ih (i + 1) (by omega) (by omega)
    rw [sum_take m i (by omega)] at h1 h2
    refine Ev.step (fun k => ?_) h2
    simp only [colophonlaw10_LcpUnlike.l1]
    rw [if_pos (by omega), if_pos (by omega), if_pos (by omega), wrap_id (x := (i : Int) + 1) (by omega) (by omega), wrap_id (by omega) (by omega), show n0 - (m.take i).sum - rd m i = n0 - ((m.take i).sum + rd m i) by omega]
    rfl
theorem unl_l0 (l : List Int) (hl : l.length ≤ 1000000000000000) (hw : ∀ x ∈ l, (Lit.int .u8 x).wf = true) (hr : ∀ t : List Int, t = l.take 24 → Ev (fun k => (colophonref09_Array.f k t).bind fun t254 => ((lcp_Array.f k t t254).bind fun bt257 => (colophonlaw10_LcpUnlike.l1 k t bt257.2 (wrap64 (Int.tdiv (wrap64 ((t.length : Int) * (wrap64 ((t.length : Int) + 1)))) 2)) bt257.1 (bt257.1.length : Int) 0))) true) (d : Nat) : ∀ i : Nat, i ≤ l.length → l.length - i = d →
    Ev (fun k => colophonlaw10_LcpUnlike.l0 k ((l.take 24).take i) l (l.length : Int) i) true := by
  induction d with
  | zero =>
    intro i hi hd
    have e : i = l.length := by omega
    subst e
    refine Ev.step (fun k => ?_) (hr ((l.take 24).take l.length) (List.take_of_length_le (by simp; omega)))
    simp only [colophonlaw10_LcpUnlike.l0]
    rw [if_neg (by omega)]
  | succ d ih =>
    intro i hi hd
    have h2 := ih (i + 1) (by omega) (by omega)
    have hx : wrap64 (rd l i) = rd l i := by
      have := hw _ (rd_mem (l := l) (i := (i : Int)) (by omega) (by omega))
      simp [Lit.wf, IntKind.min, IntKind.max, IntKind.bits, IntKind.signed] at this
      exact wrap_id (by omega) (by omega)
    by_cases c : i < 24
    · rw [List.take_succ_eq_append_getElem (by simp; omega), List.getElem_take] at h2
      refine Ev.step (fun k => ?_) h2
      simp only [colophonlaw10_LcpUnlike.l0]
      rw [if_pos (by omega), if_pos (by omega), if_pos (by omega), if_pos (by omega), if_pos (by simp; omega), hx, rd_getElem (by omega), wrap_id (by omega) (by omega)]
      rfl
    · have e : (l.take 24).take (i + 1) = (l.take 24).take i := by
        have hle : (l.take 24).length ≤ 24 := by simp; omega
        have e1 : (l.take 24).take (i + 1) = l.take 24 := List.take_of_length_le (by omega)
        have e2 : (l.take 24).take i = l.take 24 := List.take_of_length_le (by omega)
        rw [e1, e2]
      rw [e] at h2
      refine Ev.step (fun k => ?_) h2
      simp only [colophonlaw10_LcpUnlike.l0]
      rw [if_pos (by omega), if_pos (by omega), if_pos (by omega), if_neg (by omega), wrap_id (by omega) (by omega)]
      rfl
theorem sum_bound {m : List Int} {b : Int} (h : ∀ x ∈ m, 0 ≤ x ∧ x ≤ b) : 0 ≤ m.sum ∧ m.sum ≤ m.length * b := by
  induction m with
  | nil => simp
  | cons x m ih =>
    have h1 := ih fun y hy => h y (List.mem_cons_of_mem _ hy)
    have h2 := h x (List.mem_cons_self ..)
    simp only [List.sum_cons, List.length_cons]
    rw [show ((m.length + 1 : Nat) : Int) = m.length + 1 by omega, Int.add_mul]
    omega
theorem LcpUnlike : colophonlaw10_LcpUnlike.Pure := by
  intro l _ hl hw
  refine Ev.rounds (g := fun k => colophonlaw10_LcpUnlike.f k l) ?_
  unfold colophonlaw10_LcpUnlike.f
  refine Ev.bind first10 ?_
  simp only [if_true]
  have h := unl_l0 l (by omega) hw (fun t ht => ?_) l.length 0 (by omega) (by omega)
  · simpa using h
  have hn : t.length ≤ 24 := by rw [ht]; simp; omega
  clear ht
  have hsa := saOf_spec t
  obtain ⟨sa, hs⟩ : ∃ sa, saOf t = sa := ⟨_, rfl⟩
  have h1 := array_ev t (by omega)
  rw [hs] at h1 hsa
  have hlen := hsa.perm.len
  refine Ev.bind h1 (Ev.bind (larray_yes t sa hsa.perm (by omega)) ?_)
  have hu := unlike_eq hsa
  have hN : (t.length : Int) * (t.length + 1) ≤ 24 * 25 := Int.mul_le_mul (by omega) (by omega) (by omega) (by omega)
  have hN0 : 0 ≤ (t.length : Int) * (t.length + 1) := Int.mul_nonneg (by omega) (by omega)
  obtain ⟨n0, hn0⟩ : ∃ n0, (t.length : Int) * (t.length + 1) = n0 := ⟨_, rfl⟩
  rw [hn0] at hu hN hN0
  rw [wrap_id (x := (t.length : Int) + 1) (by omega) (by omega), hn0, wrap_id (x := n0) (by omega) (by omega), Int.tdiv_eq_ediv_of_nonneg hN0, wrap_id (by omega) (by omega)]
  have hmem : ∀ x ∈ lcpArr t sa, 0 ≤ x ∧ x ≤ 24 := by
    intro x hx
    obtain ⟨i, i0, i1, rfl⟩ := mem_rd hx
    rw [lcpArr_length] at i1
    rw [rd_lcpArr i0 i1]
    split
    · omega
    · unfold com
      split
      · have := lcp_drop_le t (rd sa (i - 1)) (rd sa i); omega
      · omega
  have hs1 := sum_bound hmem
  rw [lcpArr_length] at hs1
  have h3 := unl_l1 t (lcpArr t sa) (by omega) (n0 / 2) (by omega) (fun i hi => ?_) (by rw [lcpArr_length]; omega) (lcpArr t sa).length 0 (by omega) (by omega)
  · simpa using h3
  · have := sum_bound (m := (lcpArr t sa).take i) (b := 24) fun x hx => hmem x (List.mem_of_mem_take hx)
    have hlt : ((lcpArr t sa).take i).length ≤ 24 := by simp [lcpArr_length]; omega
    omega
end Go.Proofs.Yteagoinfepiilaa.Pure
