/- How many unlike parts a list has, counted in two orders of its suffixes. -/
import Derived.Test.YteagoinfepiilaaLcp
import Derived.Test.YteagoinfepiilaaRarr
namespace Go.Proofs.Yteagoinfepiilaa.Ls
open Go.RowKit Go.Proofs.YteagoinfepiilaaW.PrintWords Go.Proofs.YteagoinfepiilaaW.PrintMore Go.Proofs.Yteagoinfepiilaa.Bs Go.Proofs.Yteagoinfepiilaa.Print
set_option linter.unusedVariables false
set_option linter.unusedSimpArgs false

/-! ### how many unlike ones a list has -/
def card : List (List Int) → Nat
  | [] => 0
  | x :: xs => if x ∈ xs then card xs else card xs + 1
theorem card_perm {a b : List (List Int)} (h : a.Perm b) : card a = card b := by
  induction h with
  | nil => rfl
  | cons x hp ih => simp only [card, hp.mem_iff, ih]
  | swap x y l =>
    simp only [card, List.mem_cons]
    by_cases e : x = y
    · subst e; simp
    · by_cases hx : x ∈ l <;> by_cases hy : y ∈ l <;> simp [hx, hy, e, Ne.symm e]
  | trans _ _ ih1 ih2 => exact ih1.trans ih2
theorem card_append : ∀ (a b : List (List Int)), a.Nodup → card (a ++ b) = card b + (a.filter fun x => decide (x ∉ b)).length
  | [], b, _ => by simp
  | x :: a, b, h => by
    rw [List.nodup_cons] at h
    have ih := card_append a b h.2
    simp only [List.cons_append, card, List.mem_append, h.1, false_or]
    by_cases hx : x ∈ b
    · rw [if_pos hx, ih, List.filter_cons_of_neg (by simpa using hx)]
    · rw [if_neg hx, ih, List.filter_cons_of_pos (by simpa using hx)]
      simp only [List.length_cons]
      omega
/-- The beginnings of a list, but the empty one. -/
def begins (l : List Int) : List (List Int) := (List.range l.length).map fun k => l.take (k + 1)
theorem mem_begins {l x : List Int} : x ∈ begins l ↔ ∃ k, k < l.length ∧ x = l.take (k + 1) := by
  simp only [begins, List.mem_map, List.mem_range]
  constructor
  · rintro ⟨k, hk, rfl⟩; exact ⟨k, hk, rfl⟩
  · rintro ⟨k, hk, rfl⟩; exact ⟨k, hk, rfl⟩
theorem nodup_begins (l : List Int) : (begins l).Nodup := by
  unfold begins List.Nodup
  rw [List.pairwise_map]
  refine List.Pairwise.imp_of_mem ?_ List.nodup_range
  intro a b ha hb hne e
  rw [List.mem_range] at ha hb
  have := congrArg List.length e
  simp only [List.length_take] at this
  omega
theorem take_mem_begins {a b : List Int} {k : Nat} (hk : k < a.length) : a.take (k + 1) ∈ begins b ↔ k + 1 ≤ lcp a b := by
  rw [mem_begins, lcp_ge_iff]
  constructor
  · rintro ⟨j, hj, e⟩
    have := congrArg List.length e
    simp only [List.length_take] at this
    have ej : j = k := by omega
    subst ej
    exact ⟨by omega, by omega, e⟩
  · rintro ⟨_, h2, e⟩
    exact ⟨k, by omega, e⟩
/-- As much as a list has in common with any of some. -/
def most (a : List Int) : List (List Int) → Nat
  | [] => 0
  | b :: s => max (lcp a b) (most a s)
theorem most_le (a : List Int) : ∀ s, most a s ≤ a.length
  | [] => Nat.zero_le _
  | b :: s => by
    have h1 := lcp_le_left a b
    have h2 := most_le a s
    simp only [most]
    omega
theorem mem_all {a : List Int} {k : Nat} (hk : k < a.length) : ∀ s : List (List Int), a.take (k + 1) ∈ s.flatMap begins ↔ k + 1 ≤ most a s
  | [] => by simp [most]
  | b :: s => by
    rw [List.flatMap_cons, List.mem_append, take_mem_begins hk, mem_all hk s]
    simp only [most]
    omega
theorem filter_range_le (n m : Nat) (hm : m ≤ n) : ((List.range n).filter fun k => decide (¬ k + 1 ≤ m)).length = n - m := by
  induction n with
  | zero => simp
  | succ n ih =>
    rw [List.range_succ, List.filter_append, List.length_append]
    by_cases e : m = n + 1
    · have h0 : (List.range n).filter (fun k => decide (¬ k + 1 ≤ m)) = [] := by
        rw [List.filter_eq_nil_iff]
        intro k hk
        rw [List.mem_range] at hk
        simp
        omega
      rw [h0, List.filter_cons_of_neg (by simp; omega)]
      simp
      omega
    · rw [ih (by omega), List.filter_cons_of_pos (by simp; omega)]
      simp
      omega
theorem card_cons (a : List Int) (s : List (List Int)) : card ((a :: s).flatMap begins) = card (s.flatMap begins) + (a.length - most a s) := by
  rw [List.flatMap_cons, card_append _ _ (nodup_begins a)]
  congr 1
  rw [← filter_range_le a.length (most a s) (most_le a s)]
  unfold begins
  rw [List.filter_map, List.length_map]
  congr 1
  refine List.filter_congr ?_
  intro k hk
  rw [List.mem_range] at hk
  have := mem_all hk s
  exact decide_eq_decide.2 (not_congr this)

/-! ### in the text's order, and in the suffixes' -/
def sfx (t : List Int) (p : Int) : List Int := t.drop p.toNat
/-- What the first n of a list of places come to, one after the other. -/
def tot (t l : List Int) : Nat → Nat
  | 0 => 0
  | n + 1 => tot t l n + ((sfx t (rd l n)).length - most (sfx t (rd l n)) ((l.take n).reverse.map (sfx t)))
theorem tot_card (t l : List Int) : ∀ n, n ≤ l.length → tot t l n = card (((l.take n).reverse.map (sfx t)).flatMap begins)
  | 0, _ => by simp [tot, card]
  | n + 1, h => by
    have e : (l.take (n + 1)).reverse.map (sfx t) = sfx t (rd l n) :: (l.take n).reverse.map (sfx t) := by
      rw [List.take_succ_eq_append_getElem (by omega), List.reverse_append, rd_getElem (by omega)]
      simp
    rw [e, card_cons, tot, tot_card t l n (by omega)]
theorem tot_perm (t a b : List Int) (h : a.Perm b) : tot t a a.length = tot t b b.length := by
  rw [tot_card t a _ (Nat.le_refl _), tot_card t b _ (Nat.le_refl _), List.take_length, List.take_length]
  refine card_perm ?_
  exact ((List.reverse_perm a).trans (h.trans (List.reverse_perm b).symm)).map (sfx t) |>.flatMap_right begins
/-- In the suffixes' order the one ahead has most in common. -/
theorem most_sa {t sa : List Int} (h : IsSA t sa) : ∀ n : Nat, n + 1 < sa.length → most (sfx t (rd sa (n + 1 : Nat))) ((sa.take (n + 1)).reverse.map (sfx t)) = lcp (sfx t (rd sa (n + 1 : Nat))) (sfx t (rd sa n)) := by
  have hl := h.perm.len
  have key : ∀ (m n : Nat), m ≤ n → n < sa.length → ∀ a : List Int, (∀ j : Nat, j ≤ n → llt (sfx t (rd sa j)) a) → most a ((sa.take (m + 1)).reverse.map (sfx t)) = lcp a (sfx t (rd sa m)) := by
    intro m
    induction m with
    | zero =>
      intro n hmn hn a ha
      rw [List.take_succ_eq_append_getElem (by omega), List.reverse_append]
      simp only [List.take_zero, List.reverse_nil, List.append_nil, List.reverse_cons, List.nil_append, List.map_cons, List.map_nil, most, rd_getElem (show 0 < sa.length by omega)]
      omega
    | succ m ih =>
      intro n hmn hn a ha
      have e : (sa.take (m + 1 + 1)).reverse.map (sfx t) = sfx t (rd sa (m + 1 : Nat)) :: (sa.take (m + 1)).reverse.map (sfx t) := by
        rw [List.take_succ_eq_append_getElem (by omega), List.reverse_append, rd_getElem (by omega)]
        simp
      rw [e, most, ih n (by omega) hn a ha]
      have h1 := h.lt (i := (m : Int)) (j := ((m + 1 : Nat) : Int)) (by omega) (by omega) (by omega)
      have h2 := lcp_chain h1 (ha (m + 1) hmn)
      rw [lcp_comm a, lcp_comm a]
      unfold sfx at h2 ⊢
      omega
  intro n hn
  refine key n n (Nat.le_refl _) (by omega) _ fun j hj => ?_
  exact h.lt (i := (j : Int)) (j := ((n + 1 : Nat) : Int)) (by omega) (by omega) (by omega)
theorem tot_sa {t sa : List Int} (h : IsSA t sa) : ∀ n : Nat, n ≤ sa.length → (tot t sa n : Int) = ((List.range n).map fun i : Nat => (t.length : Int) - rd sa i - rd (lcpArr t sa) i).sum := by
  have hl := h.perm.len
  intro n
  induction n with
  | zero => intro _; rfl
  | succ n ih =>
    intro hn
    have hr := h.perm.rng _ (rd_mem (l := sa) (i := (n : Int)) (by omega) (by omega))
    rw [List.range_succ, List.map_append, List.sum_append, ← ih (by omega), tot]
    simp only [List.map_cons, List.map_nil, List.sum_cons, List.sum_nil]
    have hlen : (sfx t (rd sa n)).length = t.length - (rd sa n).toNat := by simp [sfx]
    have hm := most_le (sfx t (rd sa n)) ((sa.take n).reverse.map (sfx t))
    rw [rd_lcpArr (by omega) (by omega)]
    cases n with
    | zero =>
      rw [if_pos (by omega)]
      simp only [List.take_zero, List.reverse_nil, List.map_nil, most] at hm ⊢
      omega
    | succ n =>
      rw [if_neg (by omega)]
      have hm2 := most_sa h n (by omega)
      have hr2 := h.perm.rng _ (rd_mem (l := sa) (i := (n : Int)) (by omega) (by omega))
      rw [hm2] at hm ⊢
      unfold com
      rw [show ((n + 1 : Nat) : Int) - 1 = (n : Int) by omega, if_pos ⟨hr2.1, hr2.2, hr.1, hr.2⟩, lcp_comm]
      unfold sfx at hm hlen ⊢
      rw [lcp_comm (t.drop (rd sa n).toNat)]
      omega
/-- As much as suffix a has in common with one of the first n. -/
def mxb (t : List Int) (a : Int) : Nat → Nat
  | 0 => 0
  | n + 1 => max (mxb t a n) (lcp (sfx t a) (sfx t n))
theorem rd_places {n : Nat} {i : Int} (h0 : 0 ≤ i) (h1 : i < n) : rd (places n) i = i := by
  obtain ⟨i, rfl⟩ := Int.eq_ofNat_of_zero_le h0
  rw [rd_getElem (by rw [places_length]; omega)]
  simp [places]
theorem mxb_most (t : List Int) (a : Int) (m : Nat) : ∀ n, n ≤ m → most (sfx t a) (((places m).take n).reverse.map (sfx t)) = mxb t a n
  | 0, _ => by simp [most, mxb]
  | n + 1, h => by
    have e : ((places m).take (n + 1)).reverse.map (sfx t) = sfx t n :: ((places m).take n).reverse.map (sfx t) := by
      rw [List.take_succ_eq_append_getElem (by rw [places_length]; omega), List.reverse_append]
      simp [places]
    rw [e, most, mxb_most t a m n (by omega), mxb]
    omega
/-- What the places up to n come to, in the text's order. -/
def upto (t : List Int) : Nat → Nat
  | 0 => 0
  | n + 1 => upto t n + (t.length - n - mxb t n n)
theorem upto_tot (t : List Int) : ∀ n, n ≤ t.length → upto t n = tot t (places t.length) n
  | 0, _ => rfl
  | n + 1, h => by
    rw [upto, tot, upto_tot t n (by omega), rd_places (by omega) (by omega), mxb_most t n t.length n (by omega)]
    simp [sfx]
theorem sum_map_sub (f g : Nat → Int) : ∀ l : List Nat, (l.map fun i => f i - g i).sum = (l.map f).sum - (l.map g).sum
  | [] => by simp
  | a :: l => by simp only [List.map_cons, List.sum_cons, sum_map_sub f g l]; omega
theorem map_rd (l : List Int) : (List.range l.length).map (fun i : Nat => rd l i) = l := by
  refine List.ext_getElem (by simp) fun i h1 h2 => ?_
  simp only [List.getElem_map, List.getElem_range]
  exact rd_getElem h2
theorem sum_perm {a b : List Int} (h : a.Perm b) : a.sum = b.sum := by
  induction h with
  | nil => rfl
  | cons x _ ih => simp only [List.sum_cons, ih]
  | swap x y l => simp only [List.sum_cons]; omega
  | trans _ _ ih1 ih2 => exact ih1.trans ih2
theorem sum_places : ∀ n : Nat, 2 * (places n).sum = (n : Int) * (n - 1)
  | 0 => by simp [places]
  | n + 1 => by
    have e : places (n + 1) = places n ++ [(n : Int)] := by simp [places, List.range_succ]
    have ih := sum_places n
    rw [e, List.sum_append]
    simp only [List.sum_cons, List.sum_nil]
    have : ((n + 1 : Nat) : Int) * (((n + 1 : Nat) : Int) - 1) = (n : Int) * (n - 1) + 2 * n := by
      rw [show (((n + 1 : Nat) : Int) - 1) = n by omega, show ((n + 1 : Nat) : Int) = n + 1 by omega, Int.add_mul, Int.mul_sub]
      omega
    omega
/-- Beginnings of all suffixes, less what each has in common with the one ahead: the unlike parts. -/
theorem unlike_eq {t sa : List Int} (h : IsSA t sa) : 2 * (upto t t.length : Int) = (t.length : Int) * (t.length + 1) - 2 * (lcpArr t sa).sum := by
  have hl := h.perm.len
  have e1 : upto t t.length = tot t sa sa.length := by
    rw [upto_tot t _ (Nat.le_refl _)]
    have := tot_perm t _ _ h.perm.perm
    rw [places_length] at this
    exact this.symm
  have e2 := tot_sa h sa.length (Nat.le_refl _)
  rw [e1, e2]
  have e3 : (List.range sa.length).map (fun i : Nat => (t.length : Int) - rd sa i - rd (lcpArr t sa) i) = (List.range sa.length).map (fun i : Nat => ((t.length : Int) - rd sa i) - rd (lcpArr t sa) i) := rfl
  have e4 := map_rd (lcpArr t sa)
  rw [lcpArr_length] at e4
  rw [e3, sum_map_sub (fun i : Nat => (t.length : Int) - rd sa i) (fun i : Nat => rd (lcpArr t sa) i), e4, sum_map_sub (fun _ : Nat => (t.length : Int)) (fun i : Nat => rd sa i), map_rd sa, sum_perm h.perm.perm]
  have e5 := sum_places t.length
  have e6 : ((List.range sa.length).map fun _ : Nat => (t.length : Int)).sum = (t.length : Int) * t.length := by
    have : ∀ n : Nat, ((List.range n).map fun _ : Nat => (t.length : Int)).sum = (n : Int) * t.length := by
      intro n
      induction n with
      | zero => simp
      | succ n ih =>
        rw [List.range_succ, List.map_append, List.sum_append, ih]
        simp only [List.map_cons, List.map_nil, List.sum_cons, List.sum_nil]
        rw [show ((n + 1 : Nat) : Int) = n + 1 by omega, Int.add_mul]
        omega
    rw [this, hl]
  rw [e6]
  rw [Int.mul_sub] at e5
  rw [Int.mul_add]
  omega
end Go.Proofs.Yteagoinfepiilaa.Ls
