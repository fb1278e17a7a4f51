/- The program's array of what suffixes side by side have in common: in order (from suffix to suffix one less at most) and in any order. -/
import Derived.Test.YteagoinfepiilaaLcp
import Derived.Test.YteagoinfepiilaaPrint1
import Derived.Test.YteagoinfepiilaaPrint2
import Derived.Test.YteagoinfepiilaaPrint3
namespace Go.Proofs.Yteagoinfepiilaa.Ls
open Go.RowKit Go.Proofs.YteagoinfepiilaaW.PrintWords Go.Proofs.YteagoinfepiilaaW.PrintMore Go.Proofs.Yteagoinfepiilaa.Bs Go.Proofs.Yteagoinfepiilaa.Print
set_option linter.unusedVariables false
set_option linter.unusedSimpArgs false

/-! ### are they in order? -/
def rk (t sa : List Int) (p : Int) : Int := if p = t.length then -1 else rd (inv sa) p
theorem rankO_eq {t sa : List Int} (hp : IsPerm t.length sa) {p : Int} (p0 : 0 ≤ p) (p1 : p ≤ t.length) : lcp_rising.rankO t (inv sa) p = some (rk t sa p) := by
  unfold lcp_rising.rankO rk
  have hl := hp.len
  by_cases e : p = t.length
  · rw [if_pos e, if_pos e]
  · rw [if_neg e, if_neg e, if_pos p0, if_pos (by rw [inv_length]; omega)]
def stepOk (t sa : List Int) (i : Int) : Prop :=
  rd t (rd sa (i - 1)) < rd t (rd sa i) ∨ (rd t (rd sa (i - 1)) = rd t (rd sa i) ∧ rk t sa (rd sa (i - 1) + 1) ≤ rk t sa (rd sa i + 1))
theorem rising_l (t sa : List Int) (hp : IsPerm t.length sa) (m : Nat) : ∀ i : Int, 1 ≤ i → (m : Int) + i = t.length ∨ m = 0 →
    ∃ b, lcp_rising.l t sa (inv sa) m i = some b ∧ (b = true → ∀ j : Int, i ≤ j → j < i + m → stepOk t sa j) := by
  induction m with
  | zero => intro i h1 h2; exact ⟨true, rfl, fun _ j j0 j1 => by omega⟩
  | succ m ih =>
    intro i h1 h2
    have hl := hp.len
    have ha := hp.rng _ (rd_mem (l := sa) (i := i - 1) (by omega) (by omega))
    have hb := hp.rng _ (rd_mem (l := sa) (i := i) (by omega) (by omega))
    simp only [lcp_rising.l]
    rw [if_pos ha.1, if_pos ha.2, if_pos hb.1, if_pos hb.2, rankO_eq hp (by omega) (by omega), rankO_eq hp (by omega) (by omega)]
    simp only [Option.bind_some]
    obtain ⟨b, hb', hall⟩ := ih (i + 1) (by omega) (by omega)
    by_cases c1 : rd t (rd sa i) < rd t (rd sa (i - 1))
    · exact ⟨false, by rw [if_pos c1], by simp⟩
    rw [if_neg c1]
    by_cases c2 : rd t (rd sa (i - 1)) = rd t (rd sa i)
    · rw [if_pos c2]
      by_cases c3 : rk t sa (rd sa i + 1) < rk t sa (rd sa (i - 1) + 1)
      · exact ⟨false, by rw [if_pos c3], by simp⟩
      · rw [if_neg c3]
        refine ⟨b, hb', fun hbt j j0 j1 => ?_⟩
        by_cases e : j = i
        · rw [e]; exact .inr ⟨c2, by omega⟩
        · exact hall hbt j (by omega) (by omega)
    · rw [if_neg c2]
      refine ⟨b, hb', fun hbt j j0 j1 => ?_⟩
      by_cases e : j = i
      · rw [e]; exact .inl (by omega)
      · exact hall hbt j (by omega) (by omega)
theorem step_chain (t sa : List Int) (hall : ∀ j : Int, 1 ≤ j → j < t.length → stepOk t sa j) (d : Nat) : ∀ i : Int, 0 ≤ i → i + 1 + d < t.length →
    rd t (rd sa i) < rd t (rd sa (i + 1 + d)) ∨ (rd t (rd sa i) = rd t (rd sa (i + 1 + d)) ∧ rk t sa (rd sa i + 1) ≤ rk t sa (rd sa (i + 1 + d) + 1)) := by
  induction d with
  | zero =>
    intro i h0 h1
    have := hall (i + 1) (by omega) (by omega)
    unfold stepOk at this
    rw [show i + 1 - 1 = i by omega] at this
    rw [show i + 1 + ((0 : Nat) : Int) = i + 1 by omega]
    exact this
  | succ d ih =>
    intro i h0 h1
    have h := ih i h0 (by omega)
    have k := hall (i + 1 + (d + 1 : Nat)) (by omega) (by omega)
    unfold stepOk at k
    rw [show i + 1 + ((d + 1 : Nat) : Int) - 1 = i + 1 + (d : Int) by omega] at k
    omega
theorem rk_inj {t sa : List Int} (hp : IsPerm t.length sa) {p q : Int} (p0 : 0 ≤ p) (p1 : p < t.length) (q0 : 0 ≤ q) (q1 : q < t.length) (h : rk t sa (p + 1) = rk t sa (q + 1)) : p = q := by
  unfold rk at h
  by_cases e : p + 1 = t.length
  · rw [if_pos e] at h
    by_cases e' : q + 1 = t.length
    · omega
    · rw [if_neg e'] at h
      have := inv_at hp (p := q + 1) (by omega) (by omega)
      omega
  · rw [if_neg e] at h
    have h1 := inv_at hp (p := p + 1) (by omega) (by omega)
    by_cases e' : q + 1 = t.length
    · rw [if_pos e'] at h; omega
    · rw [if_neg e'] at h
      have h2 := inv_at hp (p := q + 1) (by omega) (by omega)
      have : p + 1 = q + 1 := by rw [← h1.2.2, ← h2.2.2, h]
      omega
theorem sl_of_rk (t sa : List Int) (hp : IsPerm t.length sa) (hall : ∀ j : Int, 1 ≤ j → j < t.length → stepOk t sa j) (d : Nat) : ∀ p q : Int, 0 ≤ p → p < t.length → 0 ≤ q → q < t.length → ((t.length : Int) - p) = d →
    rd (inv sa) p < rd (inv sa) q → sl t p q := by
  induction d with
  | zero => intro p q p0 p1 q0 q1 hd h; omega
  | succ d ih =>
    intro p q p0 p1 q0 q1 hd h
    have hi := inv_at hp p0 p1
    have hj := inv_at hp q0 q1
    have hne : p ≠ q := fun e => by rw [e] at h; omega
    have hc := step_chain t sa hall (rd (inv sa) q - rd (inv sa) p - 1).toNat (rd (inv sa) p) (by omega) (by omega)
    rw [show rd (inv sa) p + 1 + ((rd (inv sa) q - rd (inv sa) p - 1).toNat : Int) = rd (inv sa) q by omega, hi.2.2, hj.2.2] at hc
    rw [sl_step p0 p1 q0 q1]
    rcases hc with hc | ⟨he, hc⟩
    · exact .inl hc
    · refine .inr ⟨he, ?_⟩
      have hlt : rk t sa (p + 1) < rk t sa (q + 1) := by
        have : rk t sa (p + 1) ≠ rk t sa (q + 1) := fun e => hne (rk_inj hp p0 p1 q0 q1 e)
        omega
      have hq : q + 1 ≠ t.length := by
        intro e
        unfold rk at hlt
        rw [if_pos e] at hlt
        by_cases e' : p + 1 = t.length
        · omega
        · rw [if_neg e'] at hlt
          have := inv_at hp (p := p + 1) (by omega) (by omega)
          omega
      by_cases e : p + 1 = t.length
      · exact sl_end (by omega) (by omega) (by omega)
      · refine ih (p + 1) (q + 1) (by omega) (by omega) (by omega) (by omega) (by omega) ?_
        unfold rk at hlt
        rw [if_neg e, if_neg hq] at hlt
        exact hlt
theorem rising_spec (t sa : List Int) (hp : IsPerm t.length sa) : ∃ b, lcp_rising.f t sa (inv sa) = some b ∧ (b = true → IsSA t sa) := by
  have hl := hp.len
  obtain ⟨b, hb, hall⟩ := rising_l t sa hp (sa.length - 1) 1 (by omega) (by omega)
  refine ⟨b, hb, fun hbt => IsSA.mk' hp fun i i1 i2 => ?_⟩
  have ha := hp.rng _ (rd_mem (l := sa) (i := i - 1) (by omega) (by omega))
  have hb := hp.rng _ (rd_mem (l := sa) (i := i) (by omega) (by omega))
  refine sl_of_rk t sa hp (fun j j0 j1 => hall hbt j j0 (by omega)) ((t.length : Int) - rd sa (i - 1)).toNat _ _ ha.1 ha.2 hb.1 hb.2 (by omega) ?_
  rw [inv_of hp (by omega) (by omega), inv_of hp (by omega) (by omega)]
  omega

/-! ### any order -/
theorem larray_l0 (t sa : List Int) (hn : t.length ≤ 1000000000000) (hl : sa.length = t.length) (d : Nat) : ∀ (o : List Int) (i : Int), o.length = t.length → 0 ≤ i → i ≤ sa.length ∨ i = 1 → 1 ≤ i → ((t.length : Int) - i = d ∨ d = 0) → (t.length : Int) ≤ i + d →
    (∀ j : Int, 0 ≤ j → j < t.length → rd o j = if j < i then rd (lcpArr t sa) j else 0) → Ev (fun k => lcp_Array.l0 k t sa o i) (lcpArr t sa, 0) := by
  induction d with
  | zero =>
    intro o i ho h0 h1 h2 hd hd' hall
    refine Ev.step (f := fun _ => some (lcpArr t sa, 0)) (fun k => ?_) (Ev.const _)
    have : o = lcpArr t sa := ext_rd (by rw [lcpArr_length]; omega) fun j j0 j1 => by rw [hall j j0 (by omega), if_pos (by omega)]
    simp only [lcp_Array.l0]
    rw [if_neg (by omega), this]
  | succ d ih =>
    intro o i ho h0 h1 h2 hd hd' hall
    have hc := common_ev t (rd sa (i - 1)) (rd sa i) (by omega)
    refine Ev.step (fun k => ?_) (Ev.bind hc (ih (o.set i.toNat (com t (rd sa (i - 1)) (rd sa i))) (i + 1) (by simpa using ho) (by omega) (by omega) (by omega) (by omega) (by omega) (fun j j0 j1 => ?_)) (f := fun k v => lcp_Array.l0 k t sa (o.set i.toNat v) (i + 1)))
    · simp only [lcp_Array.l0]
      rw [if_pos (by omega), wrap_id (x := i - 1) (by omega) (by omega), if_pos (by omega), if_pos (by omega), if_pos (by omega), wrap_id (x := i + 1) (by omega) (by omega)]
      simp only [if_pos (show i < (o.length : Int) by omega)]
    · rw [rd_set h0 (by omega) j0]
      by_cases e : i = j
      · rw [if_pos e, if_pos (by omega), ← e, rd_lcpArr h0 (by omega), if_neg (by omega)]
      · rw [if_neg e, hall j j0 j1]
        by_cases c : j < i
        · rw [if_pos c, if_pos (by omega)]
        · rw [if_neg c, if_neg (by omega)]

/-! ### in order -/
/-- What suffix p has in common with the one ahead of it in the order. -/
def hgt (t sa : List Int) (p : Int) : Nat := lcp (t.drop p.toNat) (t.drop (rd sa (rd (inv sa) p - 1)).toNat)
theorem inv_lt {t sa : List Int} (h : IsSA t sa) {p q : Int} (p0 : 0 ≤ p) (p1 : p < t.length) (q0 : 0 ≤ q) (q1 : q < t.length) (hs : sl t p q) : rd (inv sa) p < rd (inv sa) q := by
  have hp := inv_at h.perm p0 p1
  have hq := inv_at h.perm q0 q1
  apply Classical.byContradiction
  intro hn
  by_cases e : rd (inv sa) p = rd (inv sa) q
  · have : p = q := by rw [← hp.2.2, ← hq.2.2, e]
    rw [this] at hs
    exact sl_irrefl t q hs
  · have := h.lt (i := rd (inv sa) q) (j := rd (inv sa) p) hq.1 (by omega) (by omega)
    rw [hp.2.2, hq.2.2] at this
    exact llt_asymm hs this
theorem kasai {t sa : List Int} (h : IsSA t sa) {p : Int} (p0 : 0 ≤ p) (p1 : p + 1 < t.length) (hi : rd (inv sa) p ≠ 0) (hj : rd (inv sa) (p + 1) ≠ 0) : hgt t sa p ≤ hgt t sa (p + 1) + 1 := by
  have hP := inv_at h.perm p0 (by omega)
  have hQ := inv_at h.perm (p := p + 1) (by omega) (by omega)
  obtain ⟨q, hq⟩ : ∃ q, rd sa (rd (inv sa) p - 1) = q := ⟨_, rfl⟩
  obtain ⟨r, hr⟩ : ∃ r, rd sa (rd (inv sa) (p + 1) - 1) = r := ⟨_, rfl⟩
  have hl := h.perm.len
  have q01 := h.perm.rng _ (rd_mem (l := sa) (i := rd (inv sa) p - 1) (by omega) (by omega))
  have r01 := h.perm.rng _ (rd_mem (l := sa) (i := rd (inv sa) (p + 1) - 1) (by omega) (by omega))
  have hqi := inv_of h.perm (i := rd (inv sa) p - 1) (by omega) (by omega)
  have hri := inv_of h.perm (i := rd (inv sa) (p + 1) - 1) (by omega) (by omega)
  have hqp := h.lt (i := rd (inv sa) p - 1) (j := rd (inv sa) p) (by omega) (by omega) (by omega)
  have hrp := h.lt (i := rd (inv sa) (p + 1) - 1) (j := rd (inv sa) (p + 1)) (by omega) (by omega) (by omega)
  rw [hP.2.2] at hqp
  rw [hQ.2.2] at hrp
  unfold hgt
  rw [hq] at hqp q01 hqi ⊢
  rw [hr] at hrp r01 hri ⊢
  by_cases c : lcp (t.drop p.toNat) (t.drop q.toNat) ≤ 1
  · omega
  have e : rd t p = rd t q := by
    apply Classical.byContradiction
    intro e
    rw [drop_cons p0 (by omega), drop_cons q01.1 q01.2] at c
    simp only [lcp] at c
    rw [if_neg e] at c
    omega
  have e1 : lcp (t.drop p.toNat) (t.drop q.toNat) = lcp (t.drop (p + 1).toNat) (t.drop (q + 1).toNat) + 1 := by
    rw [drop_cons p0 (by omega), drop_cons q01.1 q01.2]
    simp only [lcp]
    rw [if_pos e]
  have hle := lcp_drop_le t (p + 1) (q + 1)
  have q2 : q + 1 < t.length := by omega
  have hs : sl t (q + 1) (p + 1) := by
    rw [sl_step q01.1 q01.2 p0 (by omega)] at hqp
    rcases hqp with hlt | ⟨_, hs⟩
    · omega
    · exact hs
  have hlt := inv_lt h (by omega) q2 (by omega) p1 hs
  by_cases er : q + 1 = r
  · rw [← er, e1, lcp_comm (t.drop (p + 1).toNat)]
    rw [lcp_comm (t.drop (q + 1).toNat)]
    omega
  · have hqr : sl t (q + 1) r := by
      rcases sl_tri (t := t) (p := q + 1) (q := r) (by omega) q2 r01.1 r01.2 er with hs' | hs'
      · exact hs'
      · have := inv_lt h r01.1 r01.2 (by omega) q2 hs'
        omega
    have := lcp_chain hqr hrp
    rw [lcp_comm (t.drop (q + 1).toNat) (t.drop (p + 1).toNat), lcp_comm (t.drop r.toNat) (t.drop (p + 1).toNat)] at this
    omega
theorem larray_l2 (t sa o : List Int) (hn : t.length ≤ 1000000000000) (ho : o.length = t.length) (p i q : Int) (r : List Int × Int) (p0 : 0 ≤ p) (p1 : p < t.length) (q0 : 0 ≤ q) (q1 : q < t.length) (i0 : 0 ≤ i) (i1 : i < t.length) (d : Nat) : ∀ m : Nat, lcp (t.drop p.toNat) (t.drop q.toNat) = m + d →
    Ev (fun k => lcp_Array.l1 k t sa (o.set i.toNat (lcp (t.drop p.toNat) (t.drop q.toNat) : Int)) (mx ((lcp (t.drop p.toNat) (t.drop q.toNat) : Int) - 1) 0) (inv sa) ((inv sa).length : Int) (p + 1)) r →
    Ev (fun k => lcp_Array.l2 k t sa o m p i q (inv sa) ((inv sa).length : Int) p) r := by
  have hl := lcp_drop_le t p q
  induction d with
  | zero =>
    intro m hm hr
    have hs := com_stop t p q p0 q0
    rw [Nat.add_zero] at hm
    rw [hm] at hs hl hr
    refine Ev.step (fun k => ?_) hr
    simp only [lcp_Array.l2]
    rw [mx_eq p q]
    by_cases c : max p q + m < t.length
    · rw [wrap_id (x := max p q + m) (by omega) (by omega), if_pos c, wrap_id (x := p + m) (by omega) (by omega), if_pos (by omega), if_pos (by omega), wrap_id (x := q + m) (by omega) (by omega), if_pos (by omega), if_pos (by omega), if_neg (hs (by omega) (by omega)), if_pos i0, if_pos (by omega), wrap_id (x := (m : Int) - 1) (by omega) (by omega), wrap_id (x := p + 1) (by omega) (by omega)]
    · rw [wrap_id (x := max p q + m) (by omega) (by omega), if_neg c, if_pos i0, if_pos (by omega), wrap_id (x := (m : Int) - 1) (by omega) (by omega), wrap_id (x := p + 1) (by omega) (by omega)]
  | succ d ih =>
    intro m hm hr
    obtain ⟨g1, g2, g3⟩ := com_go t p q p0 q0 m (by omega)
    refine Ev.step (fun k => ?_) (ih (m + 1) (by omega) hr)
    simp only [lcp_Array.l2]
    rw [mx_eq, wrap_id (x := max p q + m) (by omega) (by omega), if_pos (by omega), wrap_id (x := p + m) (by omega) (by omega), if_pos (by omega), if_pos g1, wrap_id (x := q + m) (by omega) (by omega), if_pos (by omega), if_pos g2, if_pos g3, wrap_id (x := (m : Int) + 1) (by omega) (by omega)]
    rfl
theorem larray_l1 (t sa : List Int) (h : IsSA t sa) (hn : t.length ≤ 1000000000000) (d : Nat) : ∀ (o : List Int) (m : Nat) (p : Int), o.length = t.length → 0 ≤ p → p ≤ t.length → (t.length : Int) - p = d →
    (∀ j : Int, 0 ≤ j → j < t.length → rd o j = if rd sa j < p then rd (lcpArr t sa) j else 0) → (p < t.length → rd (inv sa) p ≠ 0 → m ≤ hgt t sa p) →
    Ev (fun k => lcp_Array.l1 k t sa o m (inv sa) ((inv sa).length : Int) p) (lcpArr t sa, 0) := by
  have hl := h.perm.len
  have hil := inv_length sa
  induction d with
  | zero =>
    intro o m p ho h0 h1 hd hall hm
    refine Ev.step (f := fun _ => some (lcpArr t sa, 0)) (fun k => ?_) (Ev.const _)
    have : o = lcpArr t sa := ext_rd (by rw [lcpArr_length]; omega) fun j j0 j1 => by
      have := h.perm.rng _ (rd_mem (l := sa) j0 (by omega))
      rw [hall j j0 (by omega), if_pos (by omega)]
    simp only [lcp_Array.l1]
    rw [if_neg (by omega), this]
  | succ d ih =>
    intro o m p ho h0 h1 hd hall hm
    have hP := inv_at h.perm h0 (by omega)
    obtain ⟨i, hi⟩ : ∃ i, rd (inv sa) p = i := ⟨_, rfl⟩
    have hne : ∀ j : Int, 0 ≤ j → j < t.length → j ≠ i → rd sa j ≠ p := fun j j0 j1 hj e => hj (by rw [← hi, ← e, inv_of h.perm j0 j1])
    by_cases c : i = 0
    · refine Ev.step (fun k => ?_) (ih o 0 (p + 1) ho (by omega) (by omega) (by omega) (fun j j0 j1 => ?_) (fun _ _ => Nat.zero_le _))
      · simp only [lcp_Array.l1]
        rw [hi, if_pos (by omega), if_pos h0, if_pos (by omega), if_pos c, wrap_id (by omega) (by omega)]
        rfl
      · rw [hall j j0 j1]
        by_cases e : j = i
        · have : rd sa j = p := by rw [e, ← hi, hP.2.2]
          rw [if_neg (by omega), if_pos (by omega), rd_lcpArr j0 (by omega), if_pos (by omega)]
        · have := hne j j0 j1 e
          by_cases e' : rd sa j < p
          · rw [if_pos e', if_pos (by omega)]
          · rw [if_neg e', if_neg (by omega)]
    · obtain ⟨q, hq⟩ : ∃ q, rd sa (i - 1) = q := ⟨_, rfl⟩
      have q01 := h.perm.rng _ (rd_mem (l := sa) (i := i - 1) (by omega) (by omega))
      rw [hq] at q01
      have hgt_eq : hgt t sa p = lcp (t.drop p.toNat) (t.drop q.toNat) := by unfold hgt; rw [hi, hq]
      have hm' := hm (by omega) (by omega)
      rw [hgt_eq] at hm'
      obtain ⟨H, hH⟩ : ∃ H, lcp (t.drop p.toNat) (t.drop q.toNat) = H := ⟨_, rfl⟩
      have hmx : mx ((H : Int) - 1) 0 = ((H - 1 : Nat) : Int) := by rw [mx_eq]; omega
      refine Ev.step (fun k => ?_) (larray_l2 t sa o hn ho p i q _ h0 (by omega) q01.1 q01.2 (by omega) (by omega) (H - m) m (by omega) (Ev.congr (fun k => ?_) (ih (o.set i.toNat (H : Int)) (H - 1) (p + 1) (by simpa using ho) (by omega) (by omega) (by omega) (fun j j0 j1 => ?_) (fun hp1 hp2 => ?_))))
      · simp only [lcp_Array.l1]
        rw [hi, if_pos (by omega), if_pos h0, if_pos (by omega), if_neg c, wrap_id (x := i - 1) (by omega) (by omega), if_pos (by omega), if_pos (by omega), hq]
      · simp only [hH, hmx]
      · rw [rd_set (by omega) (by omega) j0]
        by_cases e : i = j
        · have : rd sa j = p := by rw [← e, ← hi, hP.2.2]
          rw [if_pos e, if_pos (by omega), rd_lcpArr j0 (by omega), if_neg (by omega), this, ← e, hq]
          unfold com
          rw [if_pos ⟨q01.1, q01.2, h0, by omega⟩, lcp_comm, hH]
        · have := hne j j0 j1 (Ne.symm e)
          rw [if_neg e, hall j j0 j1]
          by_cases e' : rd sa j < p
          · rw [if_pos e', if_pos (by omega)]
          · rw [if_neg e', if_neg (by omega)]
      · have := kasai h h0 hp1 (by omega) hp2
        omega

theorem larray_yes (t sa : List Int) (hp : IsPerm t.length sa) (hn : t.length ≤ 1000000000000) : Ev (fun k => lcp_Array.f k t sa) (lcpArr t sa, 0) := by
  have hl := hp.len
  have hpa : IsPerm sa.length sa := by rw [hl]; exact hp
  obtain ⟨b, hb, hall⟩ := rising_spec t sa hp
  have hj : Ev (fun k => lcp_Array.j0 k t sa (inv sa) ((sa.length : Int) != (t.length : Int))) (lcpArr t sa, 0) := by
    have hz : ∀ j : Int, 0 ≤ j → j < t.length → rd (List.replicate t.length 0) j = 0 := fun j j0 j1 => rd_replicate j0 j1
    have e0 : ((sa.length : Int) != (t.length : Int)) = false := bne_eq_false_iff_eq.2 (by omega)
    cases b with
    | true =>
      refine Ev.step (fun k => ?_) (larray_l1 t sa (hall rfl) hn t.length (List.replicate t.length 0) 0 0 (by simp) (by omega) (by omega) (by omega) (fun j j0 j1 => ?_) (fun _ _ => Nat.zero_le _))
      · simp only [lcp_Array.j0]
        rw [e0, if_neg (by simp), if_pos (by omega), if_pos (by omega), hb]
        simp
      · have := hp.rng _ (rd_mem (l := sa) j0 (by omega))
        rw [if_neg (by omega)]
        exact hz j j0 j1
    | false =>
      refine Ev.step (fun k => ?_) (larray_l0 t sa hn hl (t.length - 1) (List.replicate t.length 0) 1 (by simp) (by omega) (by omega) (by omega) (by omega) (by omega) (fun j j0 j1 => ?_))
      · simp only [lcp_Array.j0]
        rw [e0, if_neg (by simp), if_pos (by omega), if_pos (by omega), hb]
        simp
      · rw [hz j j0 j1]
        by_cases c : j < 1
        · rw [if_pos c, rd_lcpArr j0 (by omega), if_pos (by omega)]
        · rw [if_neg c]
  refine Ev.congr (f := fun k => (suffix_Turn.f k sa).bind fun bt => if bt.2 = 0 then (lcp_Array.j0 k t sa bt.1 ((sa.length : Int) != (t.length : Int))) else (lcp_Array.j0 k t sa bt.1 true)) (fun k => rfl) ?_
  exact Ev.bind (turn_yes sa hpa (by omega)) (Ev.congr (fun k => by simp) hj) (f := fun k bt => if bt.2 = 0 then (lcp_Array.j0 k t sa bt.1 ((sa.length : Int) != (t.length : Int))) else (lcp_Array.j0 k t sa bt.1 true))
theorem larray_no (t sa : List Int) (hp : ¬ IsPerm t.length sa) (hn : t.length ≤ 1000000000000) (hm : sa.length ≤ 1000000000000) : Ev (fun k => lcp_Array.f k t sa) (([] : List Int), 2) := by
  have hz : ∀ (a : List Int) (x : Bool), x = true → Ev (fun k => lcp_Array.j0 k t sa a x) (([] : List Int), 2) := fun a x hx => Ev.step (f := fun _ => some (([] : List Int), 2)) (fun k => by simp only [lcp_Array.j0]; rw [if_pos hx]) (Ev.const _)
  refine Ev.congr (f := fun k => (suffix_Turn.f k sa).bind fun bt => if bt.2 = 0 then (lcp_Array.j0 k t sa bt.1 ((sa.length : Int) != (t.length : Int))) else (lcp_Array.j0 k t sa bt.1 true)) (fun k => rfl) ?_
  by_cases hpa : IsPerm sa.length sa
  · have hne : sa.length ≠ t.length := fun e => hp (e ▸ hpa)
    exact Ev.bind (turn_yes sa hpa (by omega)) (Ev.congr (fun k => by simp) (hz (inv sa) ((sa.length : Int) != (t.length : Int)) (by rw [bne_iff_ne]; omega))) (f := fun k bt => if bt.2 = 0 then (lcp_Array.j0 k t sa bt.1 ((sa.length : Int) != (t.length : Int))) else (lcp_Array.j0 k t sa bt.1 true))
  · exact Ev.bind (turn_no sa hpa (by omega)) (Ev.congr (fun k => by simp) (hz [] true rfl)) (f := fun k bt => if bt.2 = 0 then (lcp_Array.j0 k t sa bt.1 ((sa.length : Int) != (t.length : Int))) else (lcp_Array.j0 k t sa bt.1 true))

/-! ### the least of a range -/
def leastFrom (l : List Int) : Nat → Int → Int → Int
  | 0, _, m => m
  | k + 1, i, m => leastFrom l k (i + 1) (min m (rd l i))
/-- The least of l from a to b, both counted. -/
def least (l : List Int) (a b : Int) : Int := leastFrom l (b - a).toNat (a + 1) (rd l a)
theorem leastFrom_min (l : List Int) (k : Nat) : ∀ (i m : Int), (leastFrom l k i m = m ∨ ∃ j : Int, i ≤ j ∧ j < i + k ∧ leastFrom l k i m = rd l j) ∧ leastFrom l k i m ≤ m ∧ ∀ j : Int, i ≤ j → j < i + k → leastFrom l k i m ≤ rd l j := by
  induction k with
  | zero => intro i m; exact ⟨.inl rfl, Int.le_refl _, fun j _ _ => by omega⟩
  | succ k ih =>
    intro i m
    obtain ⟨h1, h2, h3⟩ := ih (i + 1) (min m (rd l i))
    simp only [leastFrom]
    refine ⟨?_, by omega, fun j j0 j1 => ?_⟩
    · rcases h1 with h1 | ⟨j, j0, j1, h1⟩
      · by_cases c : m ≤ rd l i
        · exact .inl (by omega)
        · exact .inr ⟨i, by omega, by omega, by omega⟩
      · exact .inr ⟨j, by omega, by omega, h1⟩
    · by_cases e : j = i
      · rw [e]; omega
      · exact h3 j (by omega) (by omega)
/-- The least is in the range, and none is less. -/
theorem least_spec (l : List Int) {a b : Int} (h : a ≤ b) : (∃ j : Int, a ≤ j ∧ j ≤ b ∧ least l a b = rd l j) ∧ ∀ j : Int, a ≤ j → j ≤ b → least l a b ≤ rd l j := by
  obtain ⟨h1, h2, h3⟩ := leastFrom_min l (b - a).toNat (a + 1) (rd l a)
  refine ⟨?_, fun j j0 j1 => ?_⟩
  · rcases h1 with h1 | ⟨j, j0, j1, h1⟩
    · exact ⟨a, by omega, h, h1⟩
    · exact ⟨j, by omega, by omega, h1⟩
  · by_cases e : j = a
    · rw [e]; exact h2
    · exact h3 j (by omega) (by omega)
theorem least_uniq (l : List Int) {a b x : Int} (h : a ≤ b) (h1 : ∃ j : Int, a ≤ j ∧ j ≤ b ∧ x = rd l j) (h2 : ∀ j : Int, a ≤ j → j ≤ b → x ≤ rd l j) : least l a b = x := by
  obtain ⟨⟨j, j0, j1, e⟩, k2⟩ := least_spec l h
  obtain ⟨i, i0, i1, e'⟩ := h1
  have := h2 j j0 j1
  have := k2 i i0 i1
  omega
theorem least_split (l : List Int) {a b c : Int} (h : a ≤ b) (k : b < c) : least l a c = min (least l a b) (least l (b + 1) c) := by
  obtain ⟨⟨j, j0, j1, e⟩, hm⟩ := least_spec l h
  obtain ⟨⟨i, i0, i1, e'⟩, hm'⟩ := least_spec l (show b + 1 ≤ c by omega)
  refine least_uniq l (by omega) ?_ fun x x0 x1 => ?_
  · by_cases c' : least l a b ≤ least l (b + 1) c
    · exact ⟨j, j0, by omega, by omega⟩
    · exact ⟨i, by omega, i1, by omega⟩
  · by_cases c' : x ≤ b
    · have := hm x x0 c'; omega
    · have := hm' x (by omega) x1; omega
theorem min_l (l : List Int) (m : List Int) (o : Int) (ho : 0 ≤ o) (hm : ∀ j : Int, 0 ≤ j → j < m.length → rd m j = rd l (o + j)) (k : Nat) : ∀ (i x : Int), 0 ≤ i → i + k ≤ m.length → slices_Min_int_int.l m k i x = leastFrom l k (o + i) x := by
  induction k with
  | zero => intro i x _ _; rfl
  | succ k ih =>
    intro i x i0 i1
    simp only [slices_Min_int_int.l, leastFrom]
    rw [ih (i + 1) _ (by omega) (by omega), mn_eq, hm i i0 (by omega), show o + (i + 1) = o + i + 1 by omega]
/-- What Range answers. -/
def rng (l : List Int) (a b : Int) : Int := if 0 ≤ min a b ∧ max a b < l.length ∧ min a b ≠ max a b then least l (min a b + 1) (max a b) else -1
theorem range_eq (l : List Int) (a b : Int) (hn : l.length ≤ 1000000000000000) : lcp_Range.f l a b = some (rng l a b) := by
  unfold lcp_Range.f rng
  rw [mn_eq, mx_eq]
  obtain ⟨x, hx⟩ : ∃ x, min a b = x := ⟨_, rfl⟩
  obtain ⟨y, hy⟩ : ∃ y, max a b = y := ⟨_, rfl⟩
  have hxy : x ≤ y := by omega
  rw [hx, hy]
  by_cases c1 : x < 0
  · rw [if_pos c1, if_neg (by omega)]
  by_cases c2 : y ≥ l.length
  · rw [if_neg c1, if_pos c2, if_neg (by omega)]
  by_cases c3 : x = y
  · rw [if_neg c1, if_neg c2, if_pos c3, if_neg (by omega)]
  rw [if_neg c1, if_neg c2, if_neg c3, wrap_id (x := x + 1) (by omega) (by omega), wrap_id (x := y + 1) (by omega) (by omega), if_pos (by omega), if_pos (by omega), if_pos (by omega)]
  have hlen : ((l.take (y + 1).toNat).drop (x + 1).toNat).length = (y - x).toNat := by simp; omega
  have hrd : ∀ j : Int, 0 ≤ j → j < ((l.take (y + 1).toNat).drop (x + 1).toNat).length → rd ((l.take (y + 1).toNat).drop (x + 1).toNat) j = rd l (x + 1 + j) := by
    intro j j0 j1
    rw [hlen] at j1
    unfold rd
    simp only [List.getD_eq_getElem?_getD, List.getElem?_drop]
    rw [List.getElem?_take_of_lt (by omega), show (x + 1).toNat + j.toNat = (x + 1 + j).toNat by omega]
  unfold slices_Min_int_int.f
  rw [if_pos (by omega)]
  simp only [Option.bind_some]
  rw [min_l l _ (x + 1) (by omega) hrd _ 1 _ (by omega) (by omega), hrd 0 (by omega) (by omega), hlen]
  unfold least
  rw [show (y - x).toNat - 1 = (y - (x + 1)).toNat by omega, show x + 1 + 0 = x + 1 by omega, if_pos (show 0 ≤ x ∧ y < (l.length : Int) ∧ x ≠ y from ⟨by omega, by omega, c3⟩)]
end Go.Proofs.Yteagoinfepiilaa.Ls
