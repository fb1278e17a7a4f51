/- Lists of numbers, their order, what two begin with in common; lists that have each place once; sorted suffixes. Plain Lean, no program. -/
import Derived.Test.YteagoinfepiilaaPrint0
namespace Go.Proofs.Yteagoinfepiilaa.Bs
open Go.RowKit Go.Proofs.YteagoinfepiilaaW.PrintWords Go.Proofs.YteagoinfepiilaaW.PrintMore
set_option linter.unusedVariables false
set_option linter.unusedSimpArgs false

/-! ### order -/
def llt : List Int → List Int → Prop
  | [], [] => False
  | [], _ :: _ => True
  | _ :: _, [] => False
  | x :: xs, y :: ys => x < y ∨ (x = y ∧ llt xs ys)
theorem llt_irrefl : ∀ a : List Int, ¬ llt a a
  | [] => by simp [llt]
  | x :: xs => by simp [llt, llt_irrefl xs]
theorem llt_trans : ∀ {a b c : List Int}, llt a b → llt b c → llt a c
  | [], [], _, h, _ => by simp [llt] at h
  | [], _ :: _, [], _, h => by simp [llt] at h
  | [], _ :: _, _ :: _, _, _ => by simp [llt]
  | _ :: _, [], _, h, _ => by simp [llt] at h
  | _ :: _, _ :: _, [], _, h => by simp [llt] at h
  | x :: xs, y :: ys, z :: zs, h, k => by
    simp only [llt] at h k ⊢
    rcases h with h | ⟨rfl, h⟩
    · rcases k with k | ⟨rfl, k⟩
      · exact .inl (by omega)
      · exact .inl h
    · rcases k with k | ⟨rfl, k⟩
      · exact .inl k
      · exact .inr ⟨rfl, llt_trans h k⟩
theorem llt_tri : ∀ a b : List Int, llt a b ∨ a = b ∨ llt b a
  | [], [] => .inr (.inl rfl)
  | [], _ :: _ => .inl (by simp [llt])
  | _ :: _, [] => .inr (.inr (by simp [llt]))
  | x :: xs, y :: ys => by
    simp only [llt]
    rcases Int.lt_trichotomy x y with h | rfl | h
    · exact .inl (.inl h)
    · rcases llt_tri xs ys with h | rfl | h
      · exact .inl (.inr ⟨rfl, h⟩)
      · exact .inr (.inl rfl)
      · exact .inr (.inr (.inr ⟨rfl, h⟩))
    · exact .inr (.inr (.inl h))
theorem llt_asymm {a b : List Int} (h : llt a b) : ¬ llt b a := fun k => llt_irrefl _ (llt_trans h k)

/-! ### what two lists begin with in common -/
def lcp : List Int → List Int → Nat
  | x :: xs, y :: ys => if x = y then lcp xs ys + 1 else 0
  | _, _ => 0
theorem lcp_nil_left (b : List Int) : lcp [] b = 0 := by cases b <;> simp [lcp]
theorem lcp_nil_right (a : List Int) : lcp a [] = 0 := by cases a <;> simp [lcp]
theorem lcp_comm : ∀ a b : List Int, lcp a b = lcp b a
  | [], b => by rw [lcp_nil_left, lcp_nil_right]
  | _ :: _, [] => by rw [lcp_nil_left, lcp_nil_right]
  | x :: xs, y :: ys => by
    simp only [lcp]
    by_cases h : x = y
    · rw [if_pos h, if_pos h.symm, lcp_comm xs ys]
    · rw [if_neg h, if_neg (Ne.symm h)]
theorem lcp_le_left : ∀ a b : List Int, lcp a b ≤ a.length
  | [], b => by rw [lcp_nil_left]; exact Nat.zero_le _
  | _ :: _, [] => by rw [lcp_nil_right]; exact Nat.zero_le _
  | x :: xs, y :: ys => by
    simp only [lcp]
    have := lcp_le_left xs ys
    split <;> simp <;> omega
theorem lcp_le_right (a b : List Int) : lcp a b ≤ b.length := by rw [lcp_comm]; exact lcp_le_left b a
theorem lcp_self : ∀ a : List Int, lcp a a = a.length
  | [] => rfl
  | x :: xs => by simp [lcp, lcp_self xs]
/-- They agree as far as that. -/
theorem lcp_agree : ∀ (a b : List Int) (i : Nat), i < lcp a b → a.getD i 0 = b.getD i 0
  | [], b, i, h => by rw [lcp_nil_left] at h; omega
  | _ :: _, [], i, h => by rw [lcp_nil_right] at h; omega
  | x :: xs, y :: ys, i, h => by
    simp only [lcp] at h
    split at h
    · rename_i e
      cases i with
      | zero => simpa using e
      | succ i => simpa using lcp_agree xs ys i (by omega)
    · omega
theorem lcp_stop : ∀ (a b : List Int), lcp a b < a.length → lcp a b < b.length → a.getD (lcp a b) 0 ≠ b.getD (lcp a b) 0
  | [], b, h, _ => by simp at h
  | _ :: _, [], _, h => by simp at h
  | x :: xs, y :: ys, h, k => by
    simp only [lcp] at h k ⊢
    split
    · rename_i e
      rw [if_pos e] at h k
      simpa using lcp_stop xs ys (by simpa using h) (by simpa using k)
    · rename_i e
      simpa using e
theorem lcp_ge : ∀ (n : Nat) (a b : List Int), n ≤ a.length → n ≤ b.length → (∀ i, i < n → a.getD i 0 = b.getD i 0) → n ≤ lcp a b
  | 0, _, _, _, _, _ => Nat.zero_le _
  | n + 1, [], _, h, _, _ => by simp at h
  | n + 1, _ :: _, [], _, h, _ => by simp at h
  | n + 1, x :: xs, y :: ys, h, k, e => by
    have e0 : x = y := by simpa using e 0 (by omega)
    simp only [lcp, if_pos e0]
    have := lcp_ge n xs ys (by simpa using h) (by simpa using k) (fun i hi => by simpa using e (i + 1) (by omega))
    omega
theorem lcp_ge_iff (n : Nat) (a b : List Int) : n ≤ lcp a b ↔ n ≤ a.length ∧ n ≤ b.length ∧ a.take n = b.take n := by
  constructor
  · intro h
    have h1 := lcp_le_left a b
    have h2 := lcp_le_right a b
    refine ⟨by omega, by omega, List.ext_getElem (by simp; omega) ?_⟩
    intro i hi hj
    simp only [List.length_take] at hi hj
    have := lcp_agree a b i (by omega)
    simp only [List.getElem_take]
    rw [List.getD_eq_getElem?_getD, List.getD_eq_getElem?_getD, List.getElem?_eq_getElem (by omega), List.getElem?_eq_getElem (by omega)] at this
    simpa using this
  · rintro ⟨h1, h2, e⟩
    refine lcp_ge n a b h1 h2 fun i hi => ?_
    have e1 : (a.take n).getD i 0 = (b.take n).getD i 0 := by rw [e]
    rw [List.getD_eq_getElem?_getD, List.getD_eq_getElem?_getD, List.getElem?_take_of_lt hi, List.getElem?_take_of_lt hi] at e1
    rw [List.getD_eq_getElem?_getD, List.getD_eq_getElem?_getD, e1]
/-- Between three lists in order. -/
theorem lcp_chain : ∀ {a b c : List Int}, llt a b → llt b c → lcp a c = min (lcp a b) (lcp b c)
  | [], b, c, _, _ => by rw [lcp_nil_left, lcp_nil_left]; omega
  | _ :: _, [], _, h, _ => by simp [llt] at h
  | _ :: _, _ :: _, [], _, h => by simp [llt] at h
  | x :: xs, y :: ys, z :: zs, h, k => by
    simp only [llt] at h k
    simp only [lcp]
    rcases h with h | ⟨rfl, h⟩
    · have e1 : ¬ x = y := by omega
      rcases k with k | ⟨rfl, k⟩
      · have e2 : ¬ x = z := by omega
        simp only [if_neg e1, if_neg e2]; omega
      · simp only [if_neg e1]; omega
    · rcases k with k | ⟨rfl, k⟩
      · have e2 : ¬ x = z := by omega
        simp only [if_neg e2]; omega
      · rw [if_pos rfl, if_pos rfl, if_pos rfl, lcp_chain h k]; omega

/-! ### lists that have each place once -/
theorem nodup_sub_len : ∀ {l m : List Int}, l.Nodup → (∀ x ∈ l, x ∈ m) → l.length ≤ m.length
  | [], _, _, _ => by simp
  | a :: l, m, hn, hs => by
    rw [List.nodup_cons] at hn
    have hm : a ∈ m := hs a (List.mem_cons_self ..)
    have := nodup_sub_len (m := m.erase a) hn.2 (fun x hx => by
      have hne : x ≠ a := fun e => hn.1 (e ▸ hx)
      rw [List.mem_erase_of_ne hne]
      exact hs x (List.mem_cons_of_mem _ hx))
    rw [List.length_erase_of_mem hm] at this
    have : 0 < m.length := List.length_pos_of_mem hm
    simp only [List.length_cons]
    omega
/-- The list of all places. -/
def places (n : Nat) : List Int := (List.range n).map Int.ofNat
theorem places_length (n : Nat) : (places n).length = n := by simp [places]
theorem mem_places {n : Nat} {p : Int} : p ∈ places n ↔ 0 ≤ p ∧ p < n := by
  simp only [places, List.mem_map, List.mem_range]
  constructor
  · rintro ⟨a, ha, rfl⟩; simp; omega
  · rintro ⟨h0, h1⟩; exact ⟨p.toNat, by omega, by simp; omega⟩
theorem nodup_map_inj {α β : Type} {f : α → β} (hf : ∀ a b, f a = f b → a = b) : ∀ {l : List α}, l.Nodup → (l.map f).Nodup
  | [], _ => by simp
  | a :: l, h => by
    rw [List.nodup_cons] at h
    rw [List.map_cons, List.nodup_cons]
    refine ⟨fun hm => ?_, nodup_map_inj hf h.2⟩
    obtain ⟨b, hb, e⟩ := List.mem_map.1 hm
    exact h.1 (hf _ _ e ▸ hb)
theorem nodup_places (n : Nat) : (places n).Nodup := nodup_map_inj (fun a b h => by injection h) List.nodup_range
structure IsPerm (n : Nat) (sa : List Int) : Prop where
  len : sa.length = n
  rng : ∀ p ∈ sa, 0 ≤ p ∧ p < n
  nd : sa.Nodup
theorem IsPerm.mem {n : Nat} {sa : List Int} (h : IsPerm n sa) {p : Int} (h0 : 0 ≤ p) (h1 : p < n) : p ∈ sa := by
  apply Classical.byContradiction
  intro hp
  have := nodup_sub_len (l := p :: sa) (m := places n) (List.nodup_cons.2 ⟨hp, h.nd⟩) (fun x hx => by
    rw [mem_places]
    rcases List.mem_cons.1 hx with rfl | hx
    · exact ⟨h0, h1⟩
    · exact h.rng x hx)
  rw [places_length, List.length_cons, h.len] at this
  omega
theorem IsPerm.mem_iff {n : Nat} {sa : List Int} (h : IsPerm n sa) {p : Int} : p ∈ sa ↔ 0 ≤ p ∧ p < n := ⟨h.rng p, fun ⟨a, b⟩ => h.mem a b⟩
theorem IsPerm.perm {n : Nat} {sa : List Int} (h : IsPerm n sa) : sa.Perm (places n) :=
  (List.perm_ext_iff_of_nodup h.nd (nodup_places n)).2 fun p => by rw [h.mem_iff, mem_places]
theorem IsPerm.of_perm {n : Nat} {sa : List Int} (h : sa.Perm (places n)) : IsPerm n sa :=
  ⟨by rw [h.length_eq, places_length], fun p hp => mem_places.1 (h.mem_iff.1 hp), h.nodup_iff.2 (nodup_places n)⟩
theorem rd_mem {l : List Int} {i : Int} (h0 : 0 ≤ i) (h1 : i < l.length) : rd l i ∈ l := by
  unfold rd
  rw [List.getD_eq_getElem?_getD, List.getElem?_eq_getElem (by omega)]
  simp
theorem rd_getElem {l : List Int} {i : Nat} (h : i < l.length) : rd l (i : Int) = l[i] := by
  unfold rd
  simp [List.getD_eq_getElem?_getD, List.getElem?_eq_getElem h]
theorem rd_ofNat (l : List Int) (i : Nat) : rd l (i : Int) = l.getD i 0 := by simp [rd]
theorem nodup_getElem {l : List Int} (h : l.Nodup) {i j : Nat} (hi : i < l.length) (hj : j < l.length) (e : l[i] = l[j]) : i = j := by
  unfold List.Nodup at h
  rw [List.pairwise_iff_getElem] at h
  rcases Nat.lt_trichotomy i j with hl | rfl | hl
  · exact absurd e (h i j hi hj hl)
  · rfl
  · exact absurd e.symm (h j i hj hi hl)
theorem nodup_rd {l : List Int} (h : l.Nodup) {i j : Int} (hi0 : 0 ≤ i) (hi : i < l.length) (hj0 : 0 ≤ j) (hj : j < l.length) (e : rd l i = rd l j) : i = j := by
  obtain ⟨i, rfl⟩ := Int.eq_ofNat_of_zero_le hi0
  obtain ⟨j, rfl⟩ := Int.eq_ofNat_of_zero_le hj0
  rw [rd_getElem (by omega), rd_getElem (by omega)] at e
  rw [nodup_getElem h _ _ e]
theorem mem_rd {l : List Int} {p : Int} (h : p ∈ l) : ∃ i : Int, 0 ≤ i ∧ i < l.length ∧ rd l i = p := by
  obtain ⟨i, hi, e⟩ := List.getElem_of_mem h
  exact ⟨i, by omega, by omega, by rw [rd_getElem hi, e]⟩
theorem ext_rd {a b : List Int} (hl : a.length = b.length) (h : ∀ i : Int, 0 ≤ i → i < a.length → rd a i = rd b i) : a = b := by
  refine List.ext_getElem hl fun i h1 h2 => ?_
  have := h i (by omega) (by omega)
  rwa [rd_getElem h1, rd_getElem h2] at this
theorem rd_set {l : List Int} {i j v : Int} (hi0 : 0 ≤ i) (hi : i < l.length) (hj0 : 0 ≤ j) : rd (l.set i.toNat v) j = if i = j then v else rd l j := by
  unfold rd
  simp only [List.getD_eq_getElem?_getD, List.getElem?_set]
  by_cases e : i = j
  · subst e
    rw [if_pos rfl, if_pos rfl, if_pos (by omega)]
    rfl
  · rw [if_neg (by omega), if_neg e]
theorem rd_append_left {a b : List Int} {j : Int} (h0 : 0 ≤ j) (h1 : j < a.length) : rd (a ++ b) j = rd a j := by
  obtain ⟨j, rfl⟩ := Int.eq_ofNat_of_zero_le h0
  rw [rd_getElem (by simp; omega), rd_getElem (by omega), List.getElem_append_left (by omega)]
theorem rd_append_right {a b : List Int} {j : Int} (h0 : a.length ≤ j) (h1 : j < a.length + b.length) : rd (a ++ b) j = rd b (j - a.length) := by
  obtain ⟨j, rfl⟩ := Int.eq_ofNat_of_zero_le (show 0 ≤ j by omega)
  rw [show (j : Int) - a.length = ((j - a.length : Nat) : Int) by omega, rd_getElem (by simp; omega), rd_getElem (by omega), List.getElem_append_right (by omega)]
theorem rd_snoc {a : List Int} {v j : Int} (h0 : 0 ≤ j) (h1 : j ≤ a.length) : rd (a ++ [v]) j = if j = a.length then v else rd a j := by
  by_cases e : j = a.length
  · rw [if_pos e, rd_append_right (by omega) (by simp; omega), e, Int.sub_self]
    rfl
  · rw [if_neg e, rd_append_left h0 (by omega)]
/-- Where each place stands. -/
def inv (sa : List Int) : List Int := (List.range sa.length).map fun p => ((sa.idxOf (Int.ofNat p) : Nat) : Int)
theorem inv_length (sa : List Int) : (inv sa).length = sa.length := by simp [inv]
theorem rd_inv {sa : List Int} {p : Int} (h0 : 0 ≤ p) (h1 : p < sa.length) : rd (inv sa) p = (sa.idxOf p : Int) := by
  obtain ⟨p, rfl⟩ := Int.eq_ofNat_of_zero_le h0
  rw [rd_getElem (by rw [inv_length]; omega)]
  simp [inv]
theorem inv_of {n : Nat} {sa : List Int} (h : IsPerm n sa) {i : Int} (h0 : 0 ≤ i) (h1 : i < n) : rd (inv sa) (rd sa i) = i := by
  have hm := rd_mem (l := sa) h0 (by rw [h.len]; exact h1)
  have hr := h.rng _ hm
  rw [rd_inv hr.1 (by rw [h.len]; exact hr.2)]
  have hi := List.idxOf_lt_length_of_mem hm
  have e : sa[sa.idxOf (rd sa i)] = rd sa i := List.getElem_idxOf hi
  refine nodup_rd h.nd (by omega) (by omega) h0 (by rw [h.len]; exact h1) ?_
  rw [rd_getElem hi]
  exact e
theorem inv_at {n : Nat} {sa : List Int} (h : IsPerm n sa) {p : Int} (h0 : 0 ≤ p) (h1 : p < n) : 0 ≤ rd (inv sa) p ∧ rd (inv sa) p < n ∧ rd sa (rd (inv sa) p) = p := by
  have hm := h.mem h0 h1
  have hi := List.idxOf_lt_length_of_mem hm
  rw [rd_inv h0 (by rw [h.len]; exact h1)]
  refine ⟨by omega, by rw [h.len] at hi; omega, ?_⟩
  rw [rd_getElem hi]
  exact List.getElem_idxOf hi

/-! ### suffixes -/
/-- Is the suffix p less than the suffix q? -/
def sl (t : List Int) (p q : Int) : Prop := llt (t.drop p.toNat) (t.drop q.toNat)
theorem sl_trans {t : List Int} {p q r : Int} (h : sl t p q) (k : sl t q r) : sl t p r := llt_trans h k
theorem sl_irrefl (t : List Int) (p : Int) : ¬ sl t p p := llt_irrefl _
theorem sl_tri {t : List Int} {p q : Int} (p0 : 0 ≤ p) (p1 : p < t.length) (q0 : 0 ≤ q) (q1 : q < t.length) (hne : p ≠ q) : sl t p q ∨ sl t q p := by
  rcases llt_tri (t.drop p.toNat) (t.drop q.toNat) with h | h | h
  · exact .inl h
  · have := congrArg List.length h
    simp only [List.length_drop] at this
    omega
  · exact .inr h
theorem drop_cons {t : List Int} {p : Int} (p0 : 0 ≤ p) (p1 : p < t.length) : t.drop p.toNat = rd t p :: t.drop (p + 1).toNat := by
  obtain ⟨p, rfl⟩ := Int.eq_ofNat_of_zero_le p0
  rw [rd_getElem (by omega)]
  have e : ((p : Int) + 1).toNat = p + 1 := by omega
  rw [e]
  exact List.drop_eq_getElem_cons (by omega)
theorem drop_none {t : List Int} {p : Int} (h : t.length ≤ p) : t.drop p.toNat = [] := List.drop_eq_nil_of_le (by omega)
theorem sl_step {t : List Int} {p q : Int} (p0 : 0 ≤ p) (p1 : p < t.length) (q0 : 0 ≤ q) (q1 : q < t.length) :
    sl t p q ↔ rd t p < rd t q ∨ (rd t p = rd t q ∧ sl t (p + 1) (q + 1)) := by
  unfold sl
  rw [drop_cons p0 p1, drop_cons q0 q1]
  simp [llt]
theorem sl_end {t : List Int} {p q : Int} (hp : t.length ≤ p) (q0 : 0 ≤ q) (q1 : q < t.length) : sl t p q := by
  unfold sl
  rw [drop_none hp, drop_cons q0 q1]
  simp [llt]
theorem not_sl_end {t : List Int} {p q : Int} (hq : t.length ≤ q) : ¬ sl t p q := by
  unfold sl
  rw [drop_none hq]
  cases t.drop p.toNat <;> simp [llt]
structure IsSA (t sa : List Int) : Prop where
  perm : IsPerm t.length sa
  ord : sa.Pairwise (sl t)
theorem IsSA.lt {t sa : List Int} (h : IsSA t sa) {i j : Int} (h0 : 0 ≤ i) (hij : i < j) (hj : j < t.length) : sl t (rd sa i) (rd sa j) := by
  obtain ⟨i, rfl⟩ := Int.eq_ofNat_of_zero_le h0
  obtain ⟨j, rfl⟩ := Int.eq_ofNat_of_zero_le (show 0 ≤ j by omega)
  have hl := h.perm.len
  rw [rd_getElem (by omega), rd_getElem (by omega)]
  exact List.pairwise_iff_getElem.1 h.ord i j (by omega) (by omega) (by omega)
theorem IsSA.uniq {t a b : List Int} (ha : IsSA t a) (hb : IsSA t b) : a = b := by
  refine List.Perm.eq_of_pairwise (le := fun p q => sl t p q ∨ p = q) ?_ ?_ ?_ (ha.perm.perm.trans hb.perm.perm.symm)
  · intro p q _ _ h k
    rcases h with h | h
    · rcases k with k | k
      · exact absurd k (llt_asymm h)
      · exact k.symm
    · exact h
  · exact ha.ord.imp fun h => .inl h
  · exact hb.ord.imp fun h => .inl h
theorem IsSA.mk' {t sa : List Int} (hp : IsPerm t.length sa) (ho : ∀ i : Int, 1 ≤ i → i < t.length → sl t (rd sa (i - 1)) (rd sa i)) : IsSA t sa := by
  refine ⟨hp, List.pairwise_iff_getElem.2 fun i j hi hj hij => ?_⟩
  have hl := hp.len
  obtain ⟨d, rfl⟩ : ∃ d, j = i + 1 + d := ⟨j - (i + 1), by omega⟩
  induction d with
  | zero =>
    have := ho ((i + 1 : Nat) : Int) (by omega) (by omega)
    rw [show ((i + 1 : Nat) : Int) - 1 = (i : Int) by omega, rd_getElem hi, rd_getElem hj] at this
    exact this
  | succ d ih =>
    refine sl_trans (ih (by omega) (by omega)) ?_
    have := ho ((i + 1 + (d + 1) : Nat) : Int) (by omega) (by omega)
    rw [show ((i + 1 + (d + 1) : Nat) : Int) - 1 = ((i + 1 + d : Nat) : Int) by omega, rd_getElem (by omega), rd_getElem (by omega)] at this
    exact this

/-! ### arithmetic of the print -/
theorem wrap_id {x : Int} (h0 : -9223372036854775808 ≤ x) (h1 : x ≤ 9223372036854775807) : wrap64 x = x := by unfold wrap64; omega
theorem mx_eq (a b : Int) : mx a b = max a b := by unfold mx; split <;> omega
theorem mn_eq (a b : Int) : mn a b = min a b := by unfold mn; split <;> omega
theorem wf_i64 {x : Int} (h : (Lit.int .i64 x).wf = true) : -9223372036854775808 ≤ x ∧ x ≤ 9223372036854775807 := by
  simp [Lit.wf, IntKind.min, IntKind.max, IntKind.bits, IntKind.signed] at h
  omega
theorem umod {x n : Int} (hn : 0 < n) (h : n ≤ 1000000000000) : ∃ a, wrap64 (Int.tmod (IntKind.u64.wrap x) (IntKind.u64.wrap n)) = a ∧ 0 ≤ a ∧ a < n := by
  have e : IntKind.u64.wrap n = n := by simp only [IntKind.wrap, IntKind.signed, IntKind.bits]; simp; omega
  have hx : 0 ≤ IntKind.u64.wrap x := by simp only [IntKind.wrap, IntKind.signed, IntKind.bits]; simp; omega
  rw [e, Int.tmod_eq_emod_of_nonneg hx]
  have h1 := Int.emod_nonneg (IntKind.u64.wrap x) (show n ≠ 0 by omega)
  have h2 := Int.emod_lt_of_pos (IntKind.u64.wrap x) hn
  exact ⟨_, wrap_id (by omega) (by omega), h1, h2⟩
end Go.Proofs.Yteagoinfepiilaa.Bs
