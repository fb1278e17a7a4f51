/- What Same, Turn, Turned, Less and the document's Array come to: plain lists. -/
import Derived.Test.YteagoinfepiilaaBs
import Derived.Test.YteagoinfepiilaaPrint1
import Derived.Test.YteagoinfepiilaaPrint3
namespace Go.Proofs.Yteagoinfepiilaa.Ls
open Go.RowKit Go.Proofs.YteagoinfepiilaaW.PrintWords Go.Proofs.YteagoinfepiilaaW.PrintMore Go.Proofs.Yteagoinfepiilaa.Bs Go.Proofs.Yteagoinfepiilaa.Print
set_option linter.unusedVariables false
set_option linter.unusedSimpArgs false

theorem Ev.none_step {α : Type} {g f : Nat → Option α} {r : α} (h : ∀ k, g (k + 1) = f k) (k : Ev f r) : Ev g r := Ev.step h k
theorem Ev.const {α : Type} (r : α) : Ev (fun _ => some r) r := ⟨0, fun _ _ => rfl⟩

/-! ### Same -/
theorem same_l0 (a b : List Int) (hn : a.length ≤ 1000000000000000) (hl : a.length = b.length) (d : Nat) : ∀ i : Int, 0 ≤ i → i ≤ a.length → (a.length : Int) - i = d →
    (∀ j : Int, 0 ≤ j → j < i → rd a j = rd b j) → Ev (fun k => colophonref08_Same.l0 k a b (a.length : Int) i) (decide (a = b)) := by
  induction d with
  | zero =>
    intro i h0 h1 hd hall
    refine Ev.step (f := fun _ => some (decide (a = b))) (fun k => ?_) (Ev.const _)
    have : a = b := ext_rd hl fun j j0 j1 => hall j j0 (by omega)
    simp only [colophonref08_Same.l0]
    rw [if_neg (by omega), decide_eq_true this]
  | succ d ih =>
    intro i h0 h1 hd hall
    by_cases e : rd a i = rd b i
    · refine Ev.step (fun k => ?_) (ih (i + 1) (by omega) (by omega) (by omega) (fun j j0 j1 => by
        by_cases hj : j = i
        · rw [hj]; exact e
        · exact hall j j0 (by omega)))
      simp only [colophonref08_Same.l0]
      rw [if_pos (by omega), if_pos h0, if_pos (by omega), if_pos (by omega), if_pos e, wrap_id (by omega) (by omega)]
    · refine Ev.step (f := fun _ => some (decide (a = b))) (fun k => ?_) (Ev.const _)
      have : a ≠ b := fun h => e (by rw [h])
      simp only [colophonref08_Same.l0]
      rw [if_pos (by omega), if_pos h0, if_pos (by omega), if_pos (by omega), if_neg e, decide_eq_false this]
theorem same_ev (a b : List Int) (hn : a.length ≤ 1000000000000000) : Ev (fun k => colophonref08_Same.f k a b) (decide (a = b)) := by
  by_cases hl : a.length = b.length
  · refine Ev.congr (fun k => ?_) (same_l0 a b hn hl a.length 0 (by omega) (by omega) (by omega) (fun j _ _ => by omega))
    simp only [colophonref08_Same.f]
    rw [if_pos (by omega)]
  · refine Ev.congr (f := fun _ => some (decide (a = b))) (fun k => ?_) (Ev.const _)
    simp only [colophonref08_Same.f]
    rw [if_neg (by omega), decide_eq_false (fun h => hl (by rw [h]))]

/-! ### Turn -/
theorem turn_l0 (a : List Int) (n : Int) (r : List Int × Int) (hn : n ≤ 1000000000000000) (d : Nat) : ∀ (o : List Int) (i : Int), (o.length : Int) = n → 0 ≤ i → i ≤ n → n - i = d →
    (∀ j : Int, 0 ≤ j → j < i → rd o j = -1) →
    (∀ o' : List Int, (o'.length : Int) = n → (∀ j : Int, 0 ≤ j → j < n → rd o' j = -1) → Ev (fun k => suffix_Turn.l1 k a o' a (a.length : Int) 0) r) →
    Ev (fun k => suffix_Turn.l0 k a o n i) r := by
  induction d with
  | zero =>
    intro o i ho h0 h1 hd hall hr
    refine Ev.step (fun k => ?_) (hr o ho (fun j j0 j1 => hall j j0 (by omega)))
    simp only [suffix_Turn.l0]
    rw [if_neg (by omega)]
  | succ d ih =>
    intro o i ho h0 h1 hd hall hr
    refine Ev.step (fun k => ?_) (ih (o.set i.toNat (-1)) (i + 1) (by simpa using ho) (by omega) (by omega) (by omega) (fun j j0 j1 => ?_) hr)
    · simp only [suffix_Turn.l0]
      rw [if_pos (by omega), if_pos h0, if_pos (by omega), wrap_id (by omega) (by omega)]
    · rw [rd_set h0 (by omega) j0]
      by_cases e : i = j
      · rw [if_pos e]
      · rw [if_neg e]; exact hall j j0 (by omega)
/-- What a list of places is, as far as it has been looked at. -/
structure Part (a : List Int) (i : Int) : Prop where
  rng : ∀ j : Int, 0 ≤ j → j < i → 0 ≤ rd a j ∧ rd a j < a.length
  one : ∀ j j' : Int, 0 ≤ j → j < j' → j' < i → rd a j ≠ rd a j'
theorem Part.perm {a : List Int} (h : Part a a.length) : IsPerm a.length a := by
  refine ⟨rfl, fun p hp => ?_, ?_⟩
  · obtain ⟨i, i0, i1, rfl⟩ := mem_rd hp
    exact h.rng i i0 i1
  · unfold List.Nodup
    rw [List.pairwise_iff_getElem]
    intro i j hi hj hij e
    refine h.one i j (by omega) (by omega) (by omega) ?_
    rw [rd_getElem hi, rd_getElem hj]
    exact e
theorem Part.of_perm {a : List Int} (h : IsPerm a.length a) (i : Int) (hi : i ≤ a.length) : Part a i :=
  ⟨fun j j0 j1 => h.rng _ (rd_mem j0 (by omega)), fun j j' j0 j1 j2 e => by have := nodup_rd h.nd j0 (by omega) (by omega) (by omega) e; omega⟩
theorem turn_l1_yes (a : List Int) (hp : IsPerm a.length a) (hn : a.length ≤ 1000000000000000) (d : Nat) : ∀ (o : List Int) (i : Int), o.length = a.length → 0 ≤ i → i ≤ a.length → (a.length : Int) - i = d →
    (∀ p : Int, 0 ≤ p → p < a.length → rd o p = if rd (inv a) p < i then rd (inv a) p else -1) →
    Ev (fun k => suffix_Turn.l1 k a o a (a.length : Int) i) (inv a, 0) := by
  induction d with
  | zero =>
    intro o i ho h0 h1 hd hall
    refine Ev.step (f := fun _ => some (inv a, 0)) (fun k => ?_) (Ev.const _)
    have : o = inv a := ext_rd (by rw [inv_length, ho]) fun j j0 j1 => by
      have hj := inv_at hp j0 (by rw [← ho]; exact j1)
      rw [hall j j0 (by rw [← ho]; exact j1), if_pos (by omega)]
    simp only [suffix_Turn.l1]
    rw [if_neg (by omega), this]
  | succ d ih =>
    intro o i ho h0 h1 hd hall
    have hr := hp.rng _ (rd_mem (l := a) h0 (by omega))
    have hi := inv_of hp h0 (by omega)
    have h2 : ¬ rd o (rd a i) ≥ 0 := by rw [hall _ hr.1 hr.2, hi, if_neg (by omega)]; omega
    refine Ev.step (fun k => ?_) (ih (o.set (rd a i).toNat i) (i + 1) (by simpa using ho) (by omega) (by omega) (by omega) (fun p p0 p1 => ?_))
    · simp only [suffix_Turn.l1]
      rw [if_pos (by omega), if_pos h0, if_pos (by omega), if_neg (by omega), if_neg (by omega), if_pos hr.1, if_pos (by omega), if_neg h2, wrap_id (by omega) (by omega)]
    · rw [rd_set hr.1 (by omega) p0]
      have hq := inv_at hp p0 p1
      by_cases e : rd a i = p
      · rw [if_pos e, ← e, hi, if_pos (by omega)]
      · rw [if_neg e, hall p p0 p1]
        have : rd (inv a) p ≠ i := fun h => e (by rw [← h]; exact hq.2.2)
        by_cases hlt : rd (inv a) p < i
        · rw [if_pos hlt, if_pos (by omega)]
        · rw [if_neg hlt, if_neg (by omega)]
theorem turn_l1_no (a : List Int) (hp : ¬ IsPerm a.length a) (hn : a.length ≤ 1000000000000000) (d : Nat) : ∀ (o : List Int) (i : Int), o.length = a.length → 0 ≤ i → i ≤ a.length → (a.length : Int) - i = d → Part a i →
    (∀ p : Int, 0 ≤ p → p < a.length → (0 ≤ rd o p ↔ ∃ j : Int, 0 ≤ j ∧ j < i ∧ rd a j = p)) →
    Ev (fun k => suffix_Turn.l1 k a o a (a.length : Int) i) (([] : List Int), 2) := by
  induction d with
  | zero =>
    intro o i ho h0 h1 hd hpart hall
    have e : i = a.length := by omega
    subst e
    exact absurd hpart.perm hp
  | succ d ih =>
    intro o i ho h0 h1 hd hpart hall
    have stop : (∀ k, suffix_Turn.l1 (k + 1) a o a (a.length : Int) i = some (([] : List Int), 2)) → Ev (fun k => suffix_Turn.l1 k a o a (a.length : Int) i) (([] : List Int), 2) :=
      fun h => Ev.step (f := fun _ => some (([] : List Int), 2)) h (Ev.const _)
    by_cases c1 : rd a i < 0
    · refine stop fun k => ?_
      simp only [suffix_Turn.l1]
      rw [if_pos (by omega), if_pos h0, if_pos (by omega), if_pos c1]
    by_cases c2 : rd a i ≥ a.length
    · refine stop fun k => ?_
      simp only [suffix_Turn.l1]
      rw [if_pos (by omega), if_pos h0, if_pos (by omega), if_neg c1, if_pos c2]
    by_cases c3 : rd o (rd a i) ≥ 0
    · refine stop fun k => ?_
      simp only [suffix_Turn.l1]
      rw [if_pos (by omega), if_pos h0, if_pos (by omega), if_neg c1, if_neg c2, if_pos (by omega), if_pos (by omega), if_pos c3]
    refine Ev.step (fun k => ?_) (ih (o.set (rd a i).toNat i) (i + 1) (by simpa using ho) (by omega) (by omega) (by omega) ?_ (fun p p0 p1 => ?_))
    · simp only [suffix_Turn.l1]
      rw [if_pos (by omega), if_pos h0, if_pos (by omega), if_neg c1, if_neg c2, if_pos (by omega), if_pos (by omega), if_neg c3, wrap_id (by omega) (by omega)]
    · refine ⟨fun j j0 j1 => ?_, fun j j' j0 j1 j2 e => ?_⟩
      · by_cases e : j = i
        · rw [e]; omega
        · exact hpart.rng j j0 (by omega)
      · by_cases e' : j' = i
        · subst e'
          exact c3 ((hall (rd a j') (by omega) (by omega)).2 ⟨j, j0, j1, e⟩)
        · exact hpart.one j j' j0 j1 (by omega) e
    · rw [rd_set (by omega) (by omega) p0]
      by_cases e : rd a i = p
      · rw [if_pos e]
        exact ⟨fun _ => ⟨i, h0, by omega, e⟩, fun _ => h0⟩
      · rw [if_neg e, hall p p0 p1]
        constructor
        · rintro ⟨j, j0, j1, h⟩; exact ⟨j, j0, by omega, h⟩
        · rintro ⟨j, j0, j1, h⟩
          by_cases e' : j = i
          · rw [e'] at h; exact absurd h e
          · exact ⟨j, j0, by omega, h⟩
theorem rd_replicate {n : Nat} {v i : Int} (h0 : 0 ≤ i) (h1 : i < n) : rd (List.replicate n v) i = v := by
  obtain ⟨i, rfl⟩ := Int.eq_ofNat_of_zero_le h0
  rw [rd_getElem (by simpa using h1)]
  simp
theorem turn_yes (a : List Int) (hp : IsPerm a.length a) (hn : a.length * 8 ≤ 140737488351232) : Ev (fun k => suffix_Turn.f k a) (inv a, 0) := by
  refine Ev.congr (f := fun k => suffix_Turn.l0 k a (List.replicate a.length 0) (a.length : Int) 0) (fun k => ?_) (turn_l0 a a.length _ (by omega) a.length _ 0 (by simp) (by omega) (by omega) (by omega) (fun j _ _ => by omega) (fun o ho hall => ?_))
  · simp only [suffix_Turn.f]
    rw [if_pos (by omega), if_pos (by omega)]
    simp
  · refine turn_l1_yes a hp (by omega) a.length o 0 (by omega) (by omega) (by omega) (by omega) (fun p p0 p1 => ?_)
    have := inv_at hp p0 p1
    rw [hall p p0 p1, if_neg (by omega)]
theorem turn_no (a : List Int) (hp : ¬ IsPerm a.length a) (hn : a.length * 8 ≤ 140737488351232) : Ev (fun k => suffix_Turn.f k a) (([] : List Int), 2) := by
  refine Ev.congr (f := fun k => suffix_Turn.l0 k a (List.replicate a.length 0) (a.length : Int) 0) (fun k => ?_) (turn_l0 a a.length _ (by omega) a.length _ 0 (by simp) (by omega) (by omega) (by omega) (fun j _ _ => by omega) (fun o ho hall => ?_))
  · simp only [suffix_Turn.f]
    rw [if_pos (by omega), if_pos (by omega)]
    simp
  · refine turn_l1_no a hp (by omega) a.length o 0 (by omega) (by omega) (by omega) (by omega) ⟨fun j _ _ => by omega, fun j j' _ _ _ => by omega⟩ (fun p p0 p1 => ?_)
    rw [hall p p0 p1]
    constructor
    · omega
    · rintro ⟨j, j0, j1, _⟩; omega

/-! ### the document's Turned -/
theorem turned_yes_l0 (a : List Int) (hp : IsPerm a.length a) (hn : a.length ≤ 1000000000000000) (d : Nat) : ∀ (o s : List Int) (i : Int), o.length = a.length → s.length = a.length → 0 ≤ i → i ≤ a.length → (a.length : Int) - i = d →
    (∀ p : Int, 0 ≤ p → p < a.length → rd (inv a) p < i → rd o p = rd (inv a) p) →
    (∀ p : Int, 0 ≤ p → p < a.length → (rd s p = 1 ↔ rd (inv a) p < i)) →
    Ev (fun k => colophonref09_Turned.l0 k a o s a (a.length : Int) i) (inv a, true) := by
  induction d with
  | zero =>
    intro o s i ho hs h0 h1 hd hall hseen
    refine Ev.step (f := fun _ => some (inv a, true)) (fun k => ?_) (Ev.const _)
    have : o = inv a := ext_rd (by rw [inv_length, ho]) fun j j0 j1 => by
      have hj := inv_at hp j0 (by rw [← ho]; exact j1)
      exact hall j j0 (by rw [← ho]; exact j1) (by omega)
    simp only [colophonref09_Turned.l0]
    rw [if_neg (by omega), this]
  | succ d ih =>
    intro o s i ho hs h0 h1 hd hall hseen
    have hr := hp.rng _ (rd_mem (l := a) h0 (by omega))
    have hi := inv_of hp h0 (by omega)
    have h2 : ¬ rd s (rd a i) = 1 := fun h => by have := (hseen _ hr.1 hr.2).1 h; omega
    refine Ev.step (fun k => ?_) (ih (o.set (rd a i).toNat i) (s.set (rd a i).toNat 1) (i + 1) (by simpa using ho) (by simpa using hs) (by omega) (by omega) (by omega) (fun p p0 p1 hlt => ?_) (fun p p0 p1 => ?_))
    · simp only [colophonref09_Turned.l0]
      rw [if_pos (by omega), if_pos h0, if_pos (by omega), if_neg (by omega), if_neg (by omega), if_pos hr.1, if_pos (by omega), if_neg h2, if_pos (by omega), wrap_id (by omega) (by omega)]
    · rw [rd_set hr.1 (by omega) p0]
      by_cases e : rd a i = p
      · rw [if_pos e, ← e, hi]
      · rw [if_neg e]
        have : rd (inv a) p ≠ i := fun h => e (by rw [← h]; exact (inv_at hp p0 p1).2.2)
        exact hall p p0 p1 (by omega)
    · rw [rd_set hr.1 (by omega) p0]
      by_cases e : rd a i = p
      · rw [if_pos e, ← e, hi]
        constructor <;> intro <;> omega
      · rw [if_neg e, hseen p p0 p1]
        have : rd (inv a) p ≠ i := fun h => e (by rw [← h]; exact (inv_at hp p0 p1).2.2)
        omega
theorem turned_no_l0 (a : List Int) (hp : ¬ IsPerm a.length a) (hn : a.length ≤ 1000000000000000) (d : Nat) : ∀ (o s : List Int) (i : Int), o.length = a.length → s.length = a.length → 0 ≤ i → i ≤ a.length → (a.length : Int) - i = d → Part a i →
    (∀ p : Int, 0 ≤ p → p < a.length → (rd s p = 1 ↔ ∃ j : Int, 0 ≤ j ∧ j < i ∧ rd a j = p)) →
    Ev (fun k => colophonref09_Turned.l0 k a o s a (a.length : Int) i) (([] : List Int), false) := by
  induction d with
  | zero =>
    intro o s i ho hs h0 h1 hd hpart hall
    have e : i = a.length := by omega
    subst e
    exact absurd hpart.perm hp
  | succ d ih =>
    intro o s i ho hs h0 h1 hd hpart hall
    have stop : (∀ k, colophonref09_Turned.l0 (k + 1) a o s a (a.length : Int) i = some (([] : List Int), false)) → Ev (fun k => colophonref09_Turned.l0 k a o s a (a.length : Int) i) (([] : List Int), false) :=
      fun h => Ev.step (f := fun _ => some (([] : List Int), false)) h (Ev.const _)
    by_cases c1 : rd a i < 0
    · refine stop fun k => ?_
      simp only [colophonref09_Turned.l0]
      rw [if_pos (by omega), if_pos h0, if_pos (by omega), if_pos c1]
    by_cases c2 : rd a i ≥ a.length
    · refine stop fun k => ?_
      simp only [colophonref09_Turned.l0]
      rw [if_pos (by omega), if_pos h0, if_pos (by omega), if_neg c1, if_pos c2]
    by_cases c3 : rd s (rd a i) = 1
    · refine stop fun k => ?_
      simp only [colophonref09_Turned.l0]
      rw [if_pos (by omega), if_pos h0, if_pos (by omega), if_neg c1, if_neg c2, if_pos (by omega), if_pos (by omega), if_pos c3]
    refine Ev.step (fun k => ?_) (ih (o.set (rd a i).toNat i) (s.set (rd a i).toNat 1) (i + 1) (by simpa using ho) (by simpa using hs) (by omega) (by omega) (by omega) ?_ (fun p p0 p1 => ?_))
    · simp only [colophonref09_Turned.l0]
      rw [if_pos (by omega), if_pos h0, if_pos (by omega), if_neg c1, if_neg c2, if_pos (by omega), if_pos (by omega), if_neg c3, if_pos (by omega), wrap_id (by omega) (by omega)]
    · refine ⟨fun j j0 j1 => ?_, fun j j' j0 j1 j2 e => ?_⟩
      · by_cases e : j = i
        · rw [e]; omega
        · exact hpart.rng j j0 (by omega)
      · by_cases e' : j' = i
        · subst e'
          exact c3 ((hall (rd a j') (by omega) (by omega)).2 ⟨j, j0, j1, e⟩)
        · exact hpart.one j j' j0 j1 (by omega) e
    · rw [rd_set (by omega) (by omega) p0]
      by_cases e : rd a i = p
      · rw [if_pos e]
        exact ⟨fun _ => ⟨i, h0, by omega, e⟩, fun _ => rfl⟩
      · rw [if_neg e, hall p p0 p1]
        constructor
        · rintro ⟨j, j0, j1, h⟩; exact ⟨j, j0, by omega, h⟩
        · rintro ⟨j, j0, j1, h⟩
          by_cases e' : j = i
          · rw [e'] at h; exact absurd h e
          · exact ⟨j, j0, by omega, h⟩
theorem turned_yes (a : List Int) (hp : IsPerm a.length a) (hn : a.length * 8 ≤ 140737488351232) : Ev (fun k => colophonref09_Turned.f k a) (inv a, true) := by
  refine Ev.congr (fun k => ?_) (turned_yes_l0 a hp (by omega) a.length (List.replicate a.length 0) (List.replicate a.length 0) 0 (by simp) (by simp) (by omega) (by omega) (by omega) (fun p p0 p1 h => ?_) (fun p p0 p1 => ?_))
  · simp only [colophonref09_Turned.f]
    rw [if_pos (by omega), if_pos (by omega), if_pos (by omega)]
    rfl
  · have := inv_at hp p0 p1
    omega
  · have := inv_at hp p0 p1
    rw [rd_replicate p0 p1]
    omega
theorem turned_no (a : List Int) (hp : ¬ IsPerm a.length a) (hn : a.length * 8 ≤ 140737488351232) : Ev (fun k => colophonref09_Turned.f k a) (([] : List Int), false) := by
  refine Ev.congr (fun k => ?_) (turned_no_l0 a hp (by omega) a.length (List.replicate a.length 0) (List.replicate a.length 0) 0 (by simp) (by simp) (by omega) (by omega) (by omega) ⟨fun j _ _ => by omega, fun j j' _ _ _ => by omega⟩ (fun p p0 p1 => ?_))
  · simp only [colophonref09_Turned.f]
    rw [if_pos (by omega), if_pos (by omega), if_pos (by omega)]
    rfl
  · rw [rd_replicate p0 p1]
    constructor
    · omega
    · rintro ⟨j, j0, j1, _⟩; omega
end Go.Proofs.Yteagoinfepiilaa.Ls
