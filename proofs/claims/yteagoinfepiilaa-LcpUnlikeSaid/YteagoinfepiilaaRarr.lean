/- The document's Less and its Array of suffixes. -/
import Derived.Test.YteagoinfepiilaaTurn
import Derived.Test.YteagoinfepiilaaPrint5
import Derived.Test.YteagoinfepiilaaPrint6
namespace Go.Proofs.Yteagoinfepiilaa.Ls
open Go.RowKit Go.Proofs.YteagoinfepiilaaW.PrintWords Go.Proofs.YteagoinfepiilaaW.PrintMore Go.Proofs.Yteagoinfepiilaa.Bs Go.Proofs.Yteagoinfepiilaa.Print
set_option linter.unusedVariables false
set_option linter.unusedSimpArgs false
open Classical in
theorem less_l0 (t : List Int) (hn : t.length ≤ 1000000000000000) (d : Nat) : ∀ a b : Int, 0 ≤ a → a ≤ t.length → 0 ≤ b → b ≤ t.length → (t.length : Int) - a = d → Ev (fun k => colophonref09_Less.l0 k t a b) (decide (sl t a b)) := by
  induction d with
  | zero =>
    intro a b a0 a1 b0 b1 hd
    have e : decide (sl t a b) = decide (b < (t.length : Int)) := by
      by_cases c : b < t.length
      · rw [decide_eq_true c, decide_eq_true (sl_end (by omega) b0 c)]
      · rw [decide_eq_false c, decide_eq_false (not_sl_end (by omega))]
    have hj : Ev (fun k => colophonref09_Less.j1 k t a b false) (decide (sl t a b)) := by
      refine Ev.step (f := fun _ => some (decide (sl t a b))) (fun k => ?_) (Ev.const _)
      simp only [colophonref09_Less.j1]
      rw [if_neg (by simp), if_pos (by omega), e]
    refine Ev.step (fun k => ?_) hj
    simp only [colophonref09_Less.l0]
    rw [if_neg (by omega)]
  | succ d ih =>
    intro a b a0 a1 b0 b1 hd
    by_cases c : b < t.length
    · have hj : Ev (fun k => colophonref09_Less.j1 k t a b true) (decide (sl t a b)) := by
        by_cases e : rd t a = rd t b
        · refine Ev.step (fun k => ?_) (Ev.congr (f := fun k => colophonref09_Less.l0 k t (a + 1) (b + 1)) (fun k => rfl) (r := decide (sl t a b)) ?_)
          · simp only [colophonref09_Less.j1]
            rw [if_pos trivial, if_pos a0, if_pos (by omega), if_pos b0, if_pos c, if_pos e, wrap_id (by omega) (by omega), wrap_id (by omega) (by omega)]
          · have := ih (a + 1) (b + 1) (by omega) (by omega) (by omega) (by omega) (by omega)
            have e' : sl t a b ↔ sl t (a + 1) (b + 1) := by
              rw [sl_step a0 (by omega) b0 c]
              constructor
              · rintro (h | h)
                · omega
                · exact h.2
              · exact fun h => .inr ⟨e, h⟩
            simp only [e']
            exact this
        · refine Ev.step (f := fun _ => some (decide (sl t a b))) (fun k => ?_) (Ev.const _)
          have e' : sl t a b ↔ rd t a < rd t b := by
            rw [sl_step a0 (by omega) b0 c]
            constructor
            · rintro (h | h)
              · exact h
              · exact absurd h.1 e
            · exact .inl
          simp only [colophonref09_Less.j1]
          rw [if_pos trivial, if_pos a0, if_pos (by omega), if_pos b0, if_pos c, if_neg e]
          simp only [e']
      refine Ev.step (fun k => ?_) hj
      simp only [colophonref09_Less.l0]
      rw [if_pos (by omega), decide_eq_true c]
    · have hj : Ev (fun k => colophonref09_Less.j1 k t a b false) (decide (sl t a b)) := by
        refine Ev.step (f := fun _ => some (decide (sl t a b))) (fun k => ?_) (Ev.const _)
        simp only [colophonref09_Less.j1]
        rw [if_neg (by simp), if_neg (by omega), decide_eq_false (not_sl_end (by omega))]
      refine Ev.step (fun k => ?_) hj
      simp only [colophonref09_Less.l0]
      rw [if_pos (by omega), decide_eq_false c]
open Classical in
theorem less_ev (t : List Int) (hn : t.length ≤ 1000000000000000) (a b : Int) (a0 : 0 ≤ a) (a1 : a ≤ t.length) (b0 : 0 ≤ b) (b1 : b ≤ t.length) : Ev (fun k => colophonref09_Less.f k t a b) (decide (sl t a b)) :=
  Ev.congr (fun k => rfl) (less_l0 t hn ((t.length : Int) - a).toNat a b a0 a1 b0 b1 (by omega))

/-! ### Array: putting each among the others -/
def ins (t : List Int) (p : Int) (l : List Int) (i : Nat) : List Int := l.take i ++ p :: l.drop i
/-- So many of a list, sorted, are less than p. -/
structure Srt (t l : List Int) (n : Int) : Prop where
  rng : ∀ p ∈ l, 0 ≤ p ∧ p < n
  ord : l.Pairwise (sl t)
  all : ∀ p : Int, 0 ≤ p → p < n → p ∈ l
theorem Srt.nd {t l : List Int} {n : Int} (h : Srt t l n) : l.Nodup := by
  unfold List.Nodup
  refine h.ord.imp ?_
  intro a b hs e
  rw [e] at hs
  exact sl_irrefl t b hs
theorem Srt.len {t l : List Int} {n : Int} (h : Srt t l n) (hn : 0 ≤ n) : (l.length : Int) = n := by
  have h1 := nodup_sub_len h.nd (m := places n.toNat) (fun p hp => mem_places.2 (by have := h.rng p hp; omega))
  have h2 := nodup_sub_len (nodup_places n.toNat) (m := l) (fun p hp => by have := mem_places.1 hp; exact h.all p this.1 (by omega))
  rw [places_length] at h1 h2
  omega
theorem Srt.isSA {t l : List Int} (h : Srt t l t.length) : IsSA t l := ⟨⟨by have := h.len (by omega); omega, h.rng, h.nd⟩, h.ord⟩
theorem Srt.ins {t l : List Int} {p : Int} (h : Srt t l p) (p0 : 0 ≤ p) (p1 : p < t.length) (i : Nat) (hi : i ≤ l.length) (h1 : ∀ j : Int, 0 ≤ j → j < i → sl t (rd l j) p) (h2 : ∀ j : Int, i ≤ j → j < l.length → ¬ sl t (rd l j) p) :
    Srt t (l.take i ++ p :: l.drop i) (p + 1) := by
  have hm : ∀ q, q ∈ l.take i ++ p :: l.drop i ↔ q ∈ l ∨ q = p := by
    intro q
    rw [List.mem_append, List.mem_cons]
    have : q ∈ l ↔ q ∈ l.take i ∨ q ∈ l.drop i := by rw [← List.mem_append, List.take_append_drop]
    rw [this]
    constructor
    · rintro (h | h | h)
      · exact .inl (.inl h)
      · exact .inr h
      · exact .inl (.inr h)
    · rintro ((h | h) | h)
      · exact .inl h
      · exact .inr (.inr h)
      · exact .inr (.inl h)
  refine ⟨fun q hq => ?_, ?_, fun q q0 q1 => ?_⟩
  · rcases (hm q).1 hq with hq | rfl
    · have := h.rng q hq; omega
    · omega
  · have hlt : ∀ a ∈ l.take i, sl t a p := by
      intro a ha
      obtain ⟨j, hj, rfl⟩ := List.getElem_of_mem ha
      simp only [List.length_take] at hj
      have := h1 j (by omega) (by omega)
      rw [rd_getElem (by omega)] at this
      rw [List.getElem_take]
      exact this
    have hgt : ∀ a ∈ l.drop i, sl t p a := by
      intro a ha
      obtain ⟨j, hj, rfl⟩ := List.getElem_of_mem ha
      simp only [List.length_drop] at hj
      have hn := h2 ((i + j : Nat) : Int) (by omega) (by omega)
      rw [rd_getElem (by omega)] at hn
      rw [List.getElem_drop]
      have hr := h.rng _ (List.getElem_mem (show i + j < l.length by omega))
      rcases sl_tri (t := t) (p := l[i + j]) (q := p) hr.1 (by omega) p0 p1 (by omega) with hs | hs
      · exact absurd hs hn
      · exact hs
    rw [List.pairwise_append]
    refine ⟨h.ord.sublist (List.take_sublist _ _), List.pairwise_cons.2 ⟨hgt, h.ord.sublist (List.drop_sublist _ _)⟩, fun a ha b hb => ?_⟩
    rcases List.mem_cons.1 hb with rfl | hb
    · exact hlt a ha
    · exact sl_trans (hlt a ha) (hgt b hb)
  · rw [hm]
    by_cases e : q = p
    · exact .inr e
    · exact .inl (h.all q q0 (by omega))
/-- The shift of what stands behind: from the last place on. -/
theorem array_l2 (t : List Int) (p n : Int) (r : List Int) (i : Nat) (d : Nat) : ∀ (o : List Int) (j : Int), 0 ≤ j → j < o.length → j = i + d → o.length ≤ 1000000000000 → p + 1 ≤ 1000000000000 → 0 ≤ p →
    Ev (fun k => colophonref09_Array.l0 k t (o.take i ++ p :: (o.drop i).take d ++ o.drop (i + d + 1)) n (p + 1)) r → Ev (fun k => colophonref09_Array.l2 k t o p i j n p) r := by
  induction d with
  | zero =>
    intro o j j0 j1 hj ho hp p0 hr
    refine Ev.step (fun k => ?_) hr
    simp only [colophonref09_Array.l2]
    rw [if_neg (by omega), if_pos (by omega), if_pos (by omega), wrap_id (by omega) (by omega)]
    congr 1
    rw [show ((i : Int)).toNat = i by omega, List.set_eq_take_append_cons_drop, if_pos (by omega)]
    simp
  | succ d ih =>
    intro o j j0 j1 hj ho hp p0 hr
    have e : o.set j.toNat (rd o (j - 1)) = o.take (i + d + 1) ++ rd o (j - 1) :: o.drop (i + d + 2) := by
      rw [List.set_eq_take_append_cons_drop, if_pos (by omega), show j.toNat = i + d + 1 by omega]
    refine Ev.step (fun k => ?_) (ih (o.set j.toNat (rd o (j - 1))) (j - 1) (by omega) (by simp; omega) (by omega) (by simpa using ho) hp p0 ?_)
    · simp only [colophonref09_Array.l2]
      rw [if_pos (by omega), wrap_id (by omega) (by omega), if_pos (by omega), if_pos (by omega), if_pos (by omega), if_pos (by omega)]
    · have h1 : (o.set j.toNat (rd o (j - 1))).take i = o.take i := by rw [List.take_set_of_le (by omega)]
      have h2 : ((o.set j.toNat (rd o (j - 1))).drop i).take d = (o.drop i).take d := by
        rw [List.drop_set, if_neg (by omega), List.take_set_of_le (by omega)]
      have h3 : (o.set j.toNat (rd o (j - 1))).drop (i + d + 1) = rd o (j - 1) :: o.drop (i + d + 2) := by
        rw [e, List.drop_append_of_le_length (by simp; omega), List.drop_eq_nil_of_le (by simp; omega), List.nil_append]
      have h4 : (o.drop i).take (d + 1) = (o.drop i).take d ++ [rd o (j - 1)] := by
        rw [List.take_succ_eq_append_getElem (by simp; omega)]
        congr 2
        rw [List.getElem_drop, show j - 1 = ((i + d : Nat) : Int) by omega, rd_getElem (by omega)]
      rw [h1, h2, h3]
      rw [h4, show i + (d + 1) + 1 = i + d + 2 by omega] at hr
      simpa using hr
open Classical in
theorem array_l1 (t : List Int) (hn : t.length ≤ 100000000000) (p : Int) (r : List Int) (p0 : 0 ≤ p) (p1 : p < t.length) (l : List Int) (h : Srt t l p) (d : Nat) : ∀ i : Nat, i ≤ l.length → l.length - i = d → (∀ j : Int, 0 ≤ j → j < i → sl t (rd l j) p) →
    (∀ l', Srt t l' (p + 1) → Ev (fun k => colophonref09_Array.l0 k t l' (t.length : Int) (p + 1)) r) → Ev (fun k => colophonref09_Array.l1 k t l p i (t.length : Int) p) r := by
  have hlen := h.len p0
  have put : ∀ i : Nat, i ≤ l.length → (∀ j : Int, 0 ≤ j → j < i → sl t (rd l j) p) → (∀ j : Int, i ≤ j → j < l.length → ¬ sl t (rd l j) p) →
      (∀ l', Srt t l' (p + 1) → Ev (fun k => colophonref09_Array.l0 k t l' (t.length : Int) (p + 1)) r) → Ev (fun k => colophonref09_Array.j2 k t l p i (t.length : Int) p) r := by
    intro i hi h1 h2 hr
    refine Ev.step (fun k => ?_) (array_l2 t p t.length r i (l.length - i) (l ++ [0]) (l.length : Int) (by omega) (by simp; omega) (by omega) (by simp; omega) (by omega) p0 ?_)
    · simp only [colophonref09_Array.j2]
      rw [if_pos (by omega)]
      simp only [Option.bind_some, List.length_append, List.length_cons, List.length_nil]
      rw [wrap_id (by omega) (by omega)]
      congr 1
      omega
    · have := hr _ (h.ins p0 p1 i hi h1 h2)
      have e : (l ++ [0]).take i ++ p :: ((l ++ [0]).drop i).take (l.length - i) ++ (l ++ [0]).drop (i + (l.length - i) + 1) = l.take i ++ p :: l.drop i := by
        have e1 : (l ++ [0]).take i = l.take i := List.take_append_of_le_length hi
        have e2 : (l ++ [0]).drop i = l.drop i ++ [0] := List.drop_append_of_le_length hi
        have e3 : (l.drop i ++ [0]).take (l.length - i) = l.drop i := by rw [List.take_append_of_le_length (by simp), List.take_of_length_le (by simp)]
        have e4 : (l ++ [0]).drop (i + (l.length - i) + 1) = [] := List.drop_eq_nil_of_le (by simp; omega)
        rw [e1, e2, e3, e4, List.append_nil]
      rw [e]
      exact this
  induction d with
  | zero =>
    intro i hi hd h1 hr
    refine Ev.step (fun k => ?_) (put i hi h1 (fun j j0 j1 => by omega) hr)
    simp only [colophonref09_Array.l1]
    rw [if_neg (by omega)]
  | succ d ih =>
    intro i hi hd h1 hr
    have hir : rd l i ∈ l := rd_mem (by omega) (by omega)
    have hi01 := h.rng _ hir
    have hc := less_ev t (by omega) (rd l i) p hi01.1 (by omega) p0 (by omega)
    by_cases c : sl t (rd l i) p
    · rw [decide_eq_true c] at hc
      refine Ev.step (fun k => ?_) (Ev.bind hc (Ev.congr (fun k => if_pos rfl) (ih (i + 1) (by omega) (by omega) (fun j j0 j1 => ?_) hr)) (f := fun k (b : Bool) => if b = true then colophonref09_Array.l1 k t l p ((i + 1 : Nat) : Int) (t.length : Int) p else colophonref09_Array.j2 k t l p i (t.length : Int) p))
      · simp only [colophonref09_Array.l1]
        rw [if_pos (by omega), if_pos (by omega), wrap_id (by omega) (by omega)]
        rfl
      · by_cases e : j = i
        · rw [e]; exact c
        · exact h1 j j0 (by omega)
    · rw [decide_eq_false c] at hc
      refine Ev.step (fun k => ?_) (Ev.bind hc (Ev.congr (fun k => if_neg (by simp)) (put i hi h1 (fun j j0 j1 hs => ?_) hr)) (f := fun k (b : Bool) => if b = true then colophonref09_Array.l1 k t l p ((i + 1 : Nat) : Int) (t.length : Int) p else colophonref09_Array.j2 k t l p i (t.length : Int) p))
      · simp only [colophonref09_Array.l1]
        rw [if_pos (by omega), if_pos (by omega), wrap_id (by omega) (by omega)]
        rfl
      · by_cases e : j = i
        · rw [e] at hs; exact c hs
        · have := List.pairwise_iff_getElem.1 h.ord i j.toNat (by omega) (by omega) (by omega)
          rw [← rd_getElem, ← rd_getElem, show ((j.toNat : Nat) : Int) = j by omega] at this
          exact c (sl_trans this hs)
theorem array_l0 (t : List Int) (hn : t.length ≤ 100000000000) (sa : List Int) (hsa : IsSA t sa) (d : Nat) : ∀ (l : List Int) (p : Int), 0 ≤ p → p ≤ t.length → (t.length : Int) - p = d → Srt t l p → Ev (fun k => colophonref09_Array.l0 k t l (t.length : Int) p) sa := by
  induction d with
  | zero =>
    intro l p p0 p1 hd h
    refine Ev.step (f := fun _ => some sa) (fun k => ?_) (Ev.const _)
    have e : p = t.length := by omega
    subst e
    simp only [colophonref09_Array.l0]
    rw [if_neg (by omega), IsSA.uniq h.isSA hsa]
  | succ d ih =>
    intro l p p0 p1 hd h
    refine Ev.step (fun k => ?_) (array_l1 t hn p sa p0 (by omega) l h l.length 0 (by omega) (by omega) (fun j _ _ => by omega) (fun l' h' => ih l' (p + 1) (by omega) (by omega) (by omega) h'))
    simp only [colophonref09_Array.l0]
    rw [if_pos (by omega)]
    rfl
/-! there is a sorted array of each list -/
theorem exists_srt (t : List Int) (n : Nat) (hn : n ≤ t.length) : ∃ l, Srt t l (n : Int) := by
  induction n with
  | zero => exact ⟨[], fun p hp => by simp at hp, .nil, fun p _ _ => by omega⟩
  | succ n ih =>
    obtain ⟨l, h⟩ := ih (by omega)
    have key : ∀ m : List Int, m.Pairwise (sl t) → ∃ i : Nat, i ≤ m.length ∧ (∀ j : Int, 0 ≤ j → j < i → sl t (rd m j) n) ∧ ∀ j : Int, i ≤ j → j < m.length → ¬ sl t (rd m j) n := by
      intro m hm
      induction m with
      | nil => exact ⟨0, by simp, fun j _ _ => by omega, fun j _ h => by simp at h; omega⟩
      | cons a m ihm =>
        obtain ⟨i, hi, h1, h2⟩ := ihm (List.pairwise_cons.1 hm).2
        have hs : ∀ j : Int, 1 ≤ j → rd (a :: m) j = rd m (j - 1) := by
          intro j hj
          unfold rd
          rw [show j.toNat = (j - 1).toNat + 1 by omega]
          simp
        by_cases c : sl t a n
        · refine ⟨i + 1, by simp; omega, fun j j0 j1 => ?_, fun j j0 j1 => ?_⟩
          · by_cases e : j = 0
            · rw [e]; exact c
            · rw [hs j (by omega)]; exact h1 (j - 1) (by omega) (by omega)
          · rw [hs j (by omega)]; exact h2 (j - 1) (by omega) (by simp at j1; omega)
        · refine ⟨0, by simp, fun j _ _ => by omega, fun j j0 j1 hx => ?_⟩
          by_cases e : j = 0
          · rw [e] at hx; exact c hx
          · have hmem : rd (a :: m) j ∈ m := by rw [hs j (by omega)]; exact rd_mem (by omega) (by simp at j1; omega)
            exact c (sl_trans ((List.pairwise_cons.1 hm).1 _ hmem) hx)
    obtain ⟨i, hi, h1, h2⟩ := key l h.ord
    exact ⟨_, h.ins (by omega) (by omega) i hi h1 h2⟩
theorem exists_isSA (t : List Int) : ∃ sa, IsSA t sa := by
  obtain ⟨l, h⟩ := exists_srt t t.length (Nat.le_refl _)
  exact ⟨l, h.isSA⟩
/-- The array of a list's suffixes. -/
noncomputable def saOf (t : List Int) : List Int := (exists_isSA t).choose
theorem saOf_spec (t : List Int) : IsSA t (saOf t) := (exists_isSA t).choose_spec
theorem saOf_eq {t sa : List Int} (h : IsSA t sa) : saOf t = sa := IsSA.uniq (saOf_spec t) h
theorem array_ev (t : List Int) (hn : t.length ≤ 100000000000) : Ev (fun k => colophonref09_Array.f k t) (saOf t) :=
  array_l0 t hn (saOf t) (saOf_spec t) t.length [] 0 (by omega) (by omega) (by omega) ⟨fun p hp => by simp at hp, .nil, fun p _ _ => by omega⟩
end Go.Proofs.Yteagoinfepiilaa.Ls
