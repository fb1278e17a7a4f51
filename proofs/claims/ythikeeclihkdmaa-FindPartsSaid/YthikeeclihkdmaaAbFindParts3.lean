/- A part of the proof of the law FindParts: lemmas alone; what each says stands at it. No conditions. -/
import Derived.Test.YthikeeclihkdmaaAbFindParts2
import Derived.Test.YthikeeclihkdmaaAbFindParts1
/- Induced sorting: pieces, names, and the shorter text. Plain Lean, no program. -/
namespace Go.Ab.Sai
open Go.Ab.Wd Go.Ab.Bs
set_option linter.unusedVariables false
set_option linter.unusedSimpArgs false
section
variable (t : List Int) (short : List Bool)

/-! ### the two orders -/
open Classical in
/-- A place's piece, up to the next left place; of a left place its number alone. -/
noncomputable def keyA : Nat → Int → List Int
  | 0, _ => []
  | d + 1, p => if Lf short p then [code t short p] else code t short p :: keyA d (p + 1)
noncomputable def A1 (p : Int) : List Int := keyA t short (t.length - p).toNat p
noncomputable def B1 (p : Int) : List Int := if p < t.length then code t short p :: A1 t short (p + 1) else []
def keyT : Nat → Int → List Int
  | 0, _ => []
  | d + 1, p => code t short p :: keyT d (p + 1)
def K2 (p : Int) : List Int := keyT t short (t.length - p).toNat p
end
variable {t : List Int} {short : List Bool} {k : Nat}
theorem A1_end {p : Int} (h : t.length ≤ p) : A1 t short p = [] := by
  unfold A1
  rw [show (t.length - p).toNat = 0 by omega]
  rfl
theorem A1_left {p : Int} (p1 : p < t.length) (h : Lf short p) : A1 t short p = [code t short p] := by
  unfold A1
  obtain ⟨d, hd⟩ : ∃ d, (t.length - p).toNat = d + 1 := ⟨(t.length - p).toNat - 1, by omega⟩
  rw [hd]
  simp only [keyA]
  rw [if_pos h]
theorem A1_other {p : Int} (p1 : p < t.length) (h : ¬ Lf short p) : A1 t short p = code t short p :: A1 t short (p + 1) := by
  unfold A1
  obtain ⟨d, hd⟩ : ∃ d, (t.length - p).toNat = d + 1 := ⟨(t.length - p).toNat - 1, by omega⟩
  rw [hd, show (t.length - (p + 1)).toNat = d by omega]
  simp only [keyA]
  rw [if_neg h]
theorem B1_cons {p : Int} (p1 : p < t.length) : B1 t short p = code t short p :: A1 t short (p + 1) := by unfold B1; rw [if_pos p1]
theorem A1_B1 {p : Int} (p1 : p < t.length) (h : ¬ Lf short p) : A1 t short p = B1 t short p := by rw [A1_other p1 h, B1_cons p1]
theorem K2_end {p : Int} (h : t.length ≤ p) : K2 t short p = [] := by
  unfold K2
  rw [show (t.length - p).toNat = 0 by omega]
  rfl
theorem K2_cons {p : Int} (p1 : p < t.length) : K2 t short p = code t short p :: K2 t short (p + 1) := by
  unfold K2
  obtain ⟨d, hd⟩ : ∃ d, (t.length - p).toNat = d + 1 := ⟨(t.length - p).toNat - 1, by omega⟩
  rw [hd, show (t.length - (p + 1)).toNat = d by omega]
  rfl
theorem not_left {p : Int} (h : S short p = false) : ¬ Lf short p := fun hl => by rw [hl.2.1] at h; simp at h
theorem not_left_next {p : Int} (h : S short p = true) : ¬ Lf short (p + 1) := fun hl => by
  have := hl.2.2
  rw [show p + 1 - 1 = p by omega, h] at this
  simp at this
theorem keys1 (sh : Short t short) : Keys t short (A1 t short) (B1 t short) := by
  refine ⟨A1_end (by omega), fun p p0 p1 hs => A1_other p1 (not_left hs), fun p p0 p1 hl => ⟨[], A1_left p1 hl⟩, fun p p0 p1 hs => (A1_B1 p1 (not_left hs)).symm, fun p p0 p1 hs => ?_⟩
  have h2 := sh.yes p0 p1 hs
  rw [B1_cons p1, A1_B1 h2.1 (not_left_next hs)]
theorem keys2 (t : List Int) (short : List Bool) : Keys t short (K2 t short) (K2 t short) :=
  ⟨K2_end (by omega), fun p p0 p1 _ => K2_cons p1, fun p p0 p1 _ => ⟨_, K2_cons p1⟩, fun _ _ _ _ => rfl, fun p p0 p1 _ => K2_cons p1⟩
theorem code_eq {p q : Int} (h : code t short p = code t short q) : rd t p = rd t q ∧ S short p = S short q := by
  unfold code at h
  cases h1 : S short p <;> cases h2 : S short q <;> simp [h1, h2] at h ⊢ <;> omega
/-- A long suffix is less than a short one that begins alike. -/
theorem long_lt (sh : Short t short) (d : Nat) : ∀ p q : Int, 0 ≤ p → p < t.length → 0 ≤ q → q < t.length → (t.length : Int) - p = d → rd t p = rd t q → S short p = false → S short q = true → sl t p q := by
  induction d with
  | zero => intro p q p0 p1 q0 q1 hd _ _ _; omega
  | succ d ih =>
    intro p q p0 p1 q0 q1 hd he hp hq
    obtain ⟨q2, hq2⟩ := sh.yes q0 q1 hq
    rw [sl_step p0 p1 q0 q1]
    refine .inr ⟨he, ?_⟩
    by_cases e : p + 1 = t.length
    · exact sl_end (by omega) (by omega) q2
    · have hp2 := sh.no p0 (by omega) hp
      by_cases hlt : rd t (p + 1) < rd t (q + 1)
      · rw [sl_step (by omega) (by omega) (by omega) q2]
        exact .inl hlt
      · rcases hp2 with h1 | ⟨h1, h2⟩
        · rcases hq2 with h3 | ⟨h3, h4⟩ <;> omega
        · rcases hq2 with h3 | ⟨h3, h4⟩
          · omega
          · exact ih (p + 1) (q + 1) (by omega) (by omega) (by omega) q2 (by omega) (by omega) h2 h4
/-- The order by numbers and kinds is the suffixes' order. -/
theorem K2_sl (sh : Short t short) (d : Nat) : ∀ p q : Int, 0 ≤ p → p ≤ t.length → 0 ≤ q → q ≤ t.length → (t.length : Int) - p = d → llt (K2 t short p) (K2 t short q) → sl t p q := by
  induction d with
  | zero =>
    intro p q p0 p1 q0 q1 hd h
    rw [K2_end (by omega)] at h
    by_cases e : q < t.length
    · exact sl_end (by omega) q0 e
    · rw [K2_end (by omega)] at h; simp [llt] at h
  | succ d ih =>
    intro p q p0 p1 q0 q1 hd h
    by_cases e : q < t.length
    · rw [K2_cons (by omega), K2_cons e] at h
      simp only [llt] at h
      rw [sl_step p0 (by omega) q0 e]
      rcases h with h | ⟨h1, h2⟩
      · by_cases hlt : rd t p < rd t q
        · exact .inl hlt
        · have : rd t p = rd t q ∧ S short p = false ∧ S short q = true := by
            unfold code at h
            cases h1 : S short p <;> cases h2 : S short q <;> simp [h1, h2] at h ⊢ <;> omega
          have := long_lt sh (t.length - p).toNat p q p0 (by omega) q0 e (by omega) this.1 this.2.1 this.2.2
          rw [sl_step p0 (by omega) q0 e] at this
          exact this
      · obtain ⟨h3, _⟩ := code_eq h1
        exact .inr ⟨h3, ih (p + 1) (q + 1) (by omega) (by omega) (by omega) (by omega) (by omega) h2⟩
    · rw [K2_end (p := q) (by omega)] at h
      cases hk : K2 t short p <;> rw [hk] at h <;> simp [llt] at h

/-! ### pieces and suffixes -/
theorem piece_lt (sh : Short t short) (d : Nat) : ∀ p q : Int, 0 ≤ p → p < t.length → 0 ≤ q → q < t.length → (t.length : Int) - p = d → llt (B1 t short p) (B1 t short q) → llt (K2 t short p) (K2 t short q) := by
  induction d with
  | zero => intro p q p0 p1 q0 q1 hd _; omega
  | succ d ih =>
    intro p q p0 p1 q0 q1 hd h
    rw [B1_cons p1, B1_cons q1] at h
    rw [K2_cons p1, K2_cons q1]
    simp only [llt] at h ⊢
    rcases h with h | ⟨hc, h⟩
    · exact .inl h
    refine .inr ⟨hc, ?_⟩
    obtain ⟨_, hS⟩ := code_eq hc
    by_cases ep : p + 1 = t.length
    · rw [A1_end (p := p + 1) (by omega)] at h
      rw [K2_end (p := p + 1) (by omega)]
      by_cases eq : q + 1 = t.length
      · rw [A1_end (by omega)] at h; simp [llt] at h
      · rw [K2_cons (p := q + 1) (by omega)]; simp [llt]
    by_cases eq : q + 1 = t.length
    · rw [A1_end (p := q + 1) (by omega)] at h
      cases hk : A1 t short (p + 1) <;> rw [hk] at h <;> simp [llt] at h
    by_cases lp : Lf short (p + 1)
    · have hSp : S short p = false := by have := lp.2.2; rwa [show p + 1 - 1 = p by omega] at this
      rw [A1_left (by omega) lp] at h
      rw [K2_cons (p := p + 1) (by omega), K2_cons (p := q + 1) (by omega)]
      by_cases lq : Lf short (q + 1)
      · rw [A1_left (by omega) lq] at h
        simp only [llt] at h ⊢
        rcases h with h | ⟨_, h⟩
        · exact .inl h
        · exact h.elim
      · rw [A1_other (by omega) lq] at h
        simp only [llt] at h ⊢
        rcases h with h | ⟨h1, _⟩
        · exact .inl h
        · exfalso
          obtain ⟨_, h2⟩ := code_eq h1
          rw [lp.2.1] at h2
          exact lq ⟨by omega, h2.symm, by rw [show q + 1 - 1 = q by omega, ← hS]; exact hSp⟩
    · by_cases lq : Lf short (q + 1)
      · rw [A1_other (by omega) lp, A1_left (by omega) lq] at h
        rw [K2_cons (p := p + 1) (by omega), K2_cons (p := q + 1) (by omega)]
        simp only [llt] at h ⊢
        rcases h with h | ⟨_, h⟩
        · exact .inl h
        · cases hk : A1 t short (p + 1 + 1) <;> rw [hk] at h <;> simp [llt] at h
      · rw [A1_B1 (by omega) lp, A1_B1 (by omega) lq] at h
        exact ih (p + 1) (q + 1) (by omega) (by omega) (by omega) (by omega) (by omega) h
/-- The next left place. -/
structure Next (t : List Int) (short : List Bool) (p p' : Int) : Prop where
  gt : p < p'
  lt : p' < t.length
  left : Lf short p'
  none_ : ∀ x : Int, p < x → x < p' → ¬ Lf short x
theorem piece_eq (sh : Short t short) (d : Nat) : ∀ p q : Int, 0 ≤ p → p < t.length → 0 ≤ q → q < t.length → (t.length : Int) - p = d → p ≠ q → B1 t short p = B1 t short q →
    ∃ p' q', Next t short p p' ∧ Next t short q q' ∧ (llt (K2 t short p') (K2 t short q') → llt (K2 t short p) (K2 t short q)) := by
  induction d with
  | zero => intro p q p0 p1 q0 q1 hd _ _; omega
  | succ d ih =>
    intro p q p0 p1 q0 q1 hd hne h
    rw [B1_cons p1, B1_cons q1] at h
    injection h with hc h
    obtain ⟨_, hS⟩ := code_eq hc
    have hstep : llt (K2 t short (p + 1)) (K2 t short (q + 1)) → llt (K2 t short p) (K2 t short q) := by
      intro hk
      rw [K2_cons p1, K2_cons q1]
      simp only [llt]
      exact .inr ⟨hc, hk⟩
    have hA : ∀ x : Int, x < t.length → A1 t short x ≠ [] := by
      intro x hx e
      by_cases lx : Lf short x
      · rw [A1_left hx lx] at e; simp at e
      · rw [A1_other hx lx] at e; simp at e
    by_cases ep : p + 1 = t.length
    · rw [A1_end (p := p + 1) (by omega)] at h
      by_cases eq : q + 1 = t.length
      · omega
      · exact absurd h.symm (hA _ (by omega))
    by_cases eq : q + 1 = t.length
    · rw [A1_end (p := q + 1) (by omega)] at h
      exact absurd h (hA _ (by omega))
    by_cases lp : Lf short (p + 1)
    · have hSp : S short p = false := by have := lp.2.2; rwa [show p + 1 - 1 = p by omega] at this
      have lq : Lf short (q + 1) := by
        apply Classical.byContradiction
        intro lq
        rw [A1_left (by omega) lp, A1_other (by omega) lq] at h
        injection h with h1 _
        obtain ⟨_, h2⟩ := code_eq h1
        rw [lp.2.1] at h2
        exact lq ⟨by omega, h2.symm, by rw [show q + 1 - 1 = q by omega, ← hS]; exact hSp⟩
      exact ⟨p + 1, q + 1, ⟨by omega, by omega, lp, fun x _ _ => by omega⟩, ⟨by omega, by omega, lq, fun x _ _ => by omega⟩, hstep⟩
    · have lq : ¬ Lf short (q + 1) := by
        intro lq
        have hSq : S short q = false := by have := lq.2.2; rwa [show q + 1 - 1 = q by omega] at this
        rw [A1_left (p := q + 1) (by omega) lq, A1_other (by omega) lp] at h
        injection h with h1 _
        obtain ⟨_, h2⟩ := code_eq h1
        rw [lq.2.1] at h2
        exact lp ⟨by omega, h2, by rw [show p + 1 - 1 = p by omega, hS]; exact hSq⟩
      rw [A1_B1 (by omega) lp, A1_B1 (by omega) lq] at h
      obtain ⟨p', q', n1, n2, hk⟩ := ih (p + 1) (q + 1) (by omega) (by omega) (by omega) (by omega) (by omega) (by omega) h
      refine ⟨p', q', ⟨by have := n1.gt; omega, n1.lt, n1.left, fun x x0 x1 => ?_⟩, ⟨by have := n2.gt; omega, n2.lt, n2.left, fun x x0 x1 => ?_⟩, fun h => hstep (hk h)⟩
      · by_cases e : x = p + 1
        · rw [e]; exact lp
        · exact n1.none_ x (by omega) x1
      · by_cases e : x = q + 1
        · rw [e]; exact lq
        · exact n2.none_ x (by omega) x1

/-! ### the left places in the text's order -/
structure Asc (t : List Int) (short : List Bool) (l : List Int) : Prop extends Lefts t short l where
  asc : l.Pairwise (· < ·)
theorem Asc.lt {l : List Int} (h : Asc t short l) {i j : Int} (i0 : 0 ≤ i) (hij : i < j) (j1 : j < l.length) : rd l i < rd l j := by
  obtain ⟨i, rfl⟩ := Int.eq_ofNat_of_zero_le i0
  obtain ⟨j, rfl⟩ := Int.eq_ofNat_of_zero_le (show 0 ≤ j by omega)
  rw [rd_getElem (by omega), rd_getElem (by omega)]
  exact List.pairwise_iff_getElem.1 h.asc i j (by omega) (by omega) (by omega)
theorem Asc.next {l : List Int} (h : Asc t short l) {i p' : Int} (i0 : 0 ≤ i) (i1 : i < l.length) (n : Next t short (rd l i) p') : i + 1 < l.length ∧ rd l (i + 1) = p' := by
  have hi := (h.mem _).1 (rd_mem (l := l) i0 i1)
  have hm : p' ∈ l := (h.mem p').2 ⟨⟨by have := n.gt; omega, n.lt⟩, n.left⟩
  obtain ⟨j, j0, j1, e⟩ := mem_rd hm
  have hj : i < j := by
    apply Classical.byContradiction
    intro hn
    by_cases e' : j = i
    · rw [e'] at e; have := n.gt; omega
    · have := h.lt j0 (show j < i by omega) i1
      have := n.gt
      omega
  by_cases e' : j = i + 1
  · exact ⟨by omega, by rw [← e', e]⟩
  · exfalso
    have h1 := h.lt i0 (show i < i + 1 by omega) (show i + 1 < l.length by omega)
    have h2 := h.lt (i := i + 1) (by omega) (show i + 1 < j by omega) j1
    exact n.none_ (rd l (i + 1)) h1 (by omega) ((h.mem _).1 (rd_mem (by omega) (by omega))).2
/-- Names: as the pieces' order. -/
structure Names (t : List Int) (short : List Bool) (nm : List Int) (top : Int) : Prop where
  rng : ∀ p : Int, 0 ≤ p → p < t.length → Lf short p → 0 ≤ rd nm p ∧ rd nm p ≤ top
  lt : ∀ p q : Int, 0 ≤ p → p < t.length → 0 ≤ q → q < t.length → Lf short p → Lf short q → (rd nm p < rd nm q ↔ llt (B1 t short p) (B1 t short q))
theorem Names.eq {nm : List Int} {top : Int} (h : Names t short nm top) {p q : Int} (p0 : 0 ≤ p) (p1 : p < t.length) (q0 : 0 ≤ q) (q1 : q < t.length) (lp : Lf short p) (lq : Lf short q) (e : rd nm p = rd nm q) : B1 t short p = B1 t short q := by
  rcases llt_tri (B1 t short p) (B1 t short q) with hh | hh | hh
  · have := (h.lt p q p0 p1 q0 q1 lp lq).2 hh; omega
  · exact hh
  · have := (h.lt q p q0 q1 p0 p1 lq lp).2 hh; omega
theorem reduced_lt (sh : Short t short) {l nm : List Int} {top : Int} (h : Asc t short l) (hn : Names t short nm top) (r : List Int) (hr : r = l.map (rd nm)) (d : Nat) : ∀ i j : Int, 0 ≤ i → i < l.length → 0 ≤ j → j < l.length → (l.length : Int) - i = d → sl r i j → llt (K2 t short (rd l i)) (K2 t short (rd l j)) := by
  have hrl : r.length = l.length := by rw [hr]; simp
  have hrr : ∀ x : Int, 0 ≤ x → x < l.length → rd r x = rd nm (rd l x) := by
    intro x x0 x1
    obtain ⟨x, rfl⟩ := Int.eq_ofNat_of_zero_le x0
    rw [rd_getElem (by omega), rd_getElem (by omega)]
    simp [hr]
  induction d with
  | zero => intro i j i0 i1 j0 j1 hd _; omega
  | succ d ih =>
    intro i j i0 i1 j0 j1 hd hs
    have hne : i ≠ j := fun e => by rw [e] at hs; exact sl_irrefl _ _ hs
    rw [sl_step i0 (by omega) j0 (by omega), hrr i i0 i1, hrr j j0 j1] at hs
    have hi := (h.mem _).1 (rd_mem (l := l) i0 i1)
    have hj := (h.mem _).1 (rd_mem (l := l) j0 j1)
    rcases hs with hs | ⟨he, hs⟩
    · exact piece_lt sh (t.length - rd l i).toNat _ _ hi.1.1 hi.1.2 hj.1.1 hj.1.2 (by omega) ((hn.lt _ _ hi.1.1 hi.1.2 hj.1.1 hj.1.2 hi.2 hj.2).1 hs)
    · have hB := hn.eq hi.1.1 hi.1.2 hj.1.1 hj.1.2 hi.2 hj.2 he
      have hlne : rd l i ≠ rd l j := fun e => hne (nodup_rd h.nd i0 i1 j0 j1 e)
      obtain ⟨p', q', n1, n2, hk⟩ := piece_eq sh (t.length - rd l i).toNat _ _ hi.1.1 hi.1.2 hj.1.1 hj.1.2 (by omega) hlne hB
      obtain ⟨i2, e1⟩ := h.next i0 i1 n1
      obtain ⟨j2, e2⟩ := h.next j0 j1 n2
      refine hk ?_
      rw [← e1, ← e2]
      exact ih (i + 1) (j + 1) (by omega) i2 (by omega) j2 (by omega) hs
/-- The first pass: the left places in the text's order; all places by their pieces. -/
theorem first_pass (hpos : 0 < t.length) (hrng : ∀ x ∈ t, 0 ≤ x ∧ x < k) (sh : Short t short) {l : List Int} (h : Lefts t short l) :
    ∃ sa, induce t short k l = some sa ∧ IsPerm t.length sa ∧ ∀ i j : Int, 0 ≤ i → i < j → j < t.length → le (B1 t short (rd sa i)) (B1 t short (rd sa j)) := by
  refine induce_spec ⟨hpos, hrng, sh, keys1 sh⟩ h ?_
  refine List.Pairwise.imp_of_mem (R := fun _ _ => True) ?_ (List.pairwise_iff_getElem.2 fun _ _ _ _ _ => trivial)
  intro p q hp hq _ he
  have mp := (h.mem p).1 hp
  have mq := (h.mem q).1 hq
  rw [A1_left mp.1.2 mp.2, A1_left mq.1.2 mq.2, code_yes mp.2.2.1, code_yes mq.2.2.1, he]
  exact le_refl _
/-- The second one: the left places in the shorter text's order; all places in order. -/
theorem second_pass (hpos : 0 < t.length) (hrng : ∀ x ∈ t, 0 ≤ x ∧ x < k) (sh : Short t short) {l nm : List Int} {top : Int} (h : Asc t short l) (hn : Names t short nm top) {sar : List Int} (hs : IsSA (l.map (rd nm)) sar) :
    ∃ sa, induce t short k (sar.map (rd l)) = some sa ∧ IsSA t sa := by
  have hlen : sar.length = l.length := by rw [hs.perm.len]; simp
  have hL : Lefts t short (sar.map (rd l)) := by
    refine ⟨?_, fun p => ?_⟩
    · unfold List.Nodup
      rw [List.pairwise_map]
      refine hs.perm.nd.imp_of_mem ?_
      intro a b ha hb hne e
      have ra := hs.perm.rng a ha
      have rb := hs.perm.rng b hb
      simp only [List.length_map] at ra rb
      exact hne (nodup_rd h.nd ra.1 ra.2 rb.1 rb.2 e)
    · rw [← h.mem p, List.mem_map]
      constructor
      · rintro ⟨i, hi, rfl⟩
        have ri := hs.perm.rng i hi
        simp only [List.length_map] at ri
        exact rd_mem ri.1 ri.2
      · intro hp
        obtain ⟨i, i0, i1, e⟩ := mem_rd hp
        exact ⟨i, hs.perm.mem i0 (by simpa using i1), e⟩
  obtain ⟨sa, e1, hp, ho⟩ := induce_spec (A := K2 t short) (B := K2 t short) ⟨hpos, hrng, sh, keys2 t short⟩ hL (by
    rw [List.pairwise_map]
    refine hs.ord.imp_of_mem ?_
    intro a b ha hb hab _
    have ra := hs.perm.rng a ha
    have rb := hs.perm.rng b hb
    simp only [List.length_map] at ra rb
    exact le_of_llt (reduced_lt sh h hn _ rfl (l.length - a).toNat a b ra.1 ra.2 rb.1 rb.2 (by omega) hab))
  refine ⟨sa, e1, IsSA.mk' hp fun i i1 i2 => ?_⟩
  have hl := hp.len
  have ra := hp.rng _ (rd_mem (l := sa) (i := i - 1) (by omega) (by omega))
  have rb := hp.rng _ (rd_mem (l := sa) (i := i) (by omega) (by omega))
  have hle := ho (i - 1) i (by omega) (by omega) i2
  refine K2_sl sh (t.length - rd sa (i - 1)).toNat _ _ ra.1 (by omega) rb.1 (by omega) (by omega) ?_
  rcases llt_tri (K2 t short (rd sa (i - 1))) (K2 t short (rd sa i)) with hh | hh | hh
  · exact hh
  · exfalso
    have hlen2 : ∀ (d : Nat) (p : Int), (keyT t short d p).length = d := by
      intro d
      induction d with
      | zero => intro p; rfl
      | succ d ih => intro p; simp [keyT, ih]
    have := congrArg List.length hh
    unfold K2 at this
    rw [hlen2, hlen2] at this
    have := nodup_rd hp.nd (i := i - 1) (j := i) (by omega) (by omega) (by omega) (by omega) (by omega)
    omega
  · exact absurd hh hle

/-! ### the names, along the array -/
/-- names, the last name, the last left place -/
def name (lf : Int → Bool) (same : Int → Int → Bool) : List Int → List Int → Int → Int → List Int × Int
  | [], nm, top, _ => (nm, top)
  | p :: ps, nm, top, last =>
    if lf p = true then
      let top' := if last < 0 ∨ same last p = false then top + 1 else top
      name lf same ps (nm.set p.toNat top') top' p
    else name lf same ps nm top last
structure NmInv (t : List Int) (short : List Bool) (done : List Int) (nm : List Int) (top last : Int) : Prop where
  len : nm.length = t.length
  rng : ∀ p ∈ done, Lf short p → 0 ≤ rd nm p ∧ rd nm p ≤ top
  lt : ∀ p ∈ done, ∀ q ∈ done, Lf short p → Lf short q → (rd nm p < rd nm q ↔ llt (B1 t short p) (B1 t short q))
  lst : (last < 0 ∧ top = -1 ∧ ∀ p ∈ done, ¬ Lf short p) ∨ (last ∈ done ∧ Lf short last ∧ rd nm last = top ∧ ∀ p ∈ done, Lf short p → le (B1 t short p) (B1 t short last))
  top_ : -1 ≤ top
theorem name_spec (lf : Int → Bool) (same : Int → Int → Bool) (hlf : ∀ p : Int, 0 ≤ p → p < t.length → (lf p = true ↔ Lf short p)) (hsame : ∀ p q : Int, 0 ≤ p → p < t.length → 0 ≤ q → q < t.length → Lf short p → Lf short q → p ≠ q → (same p q = true ↔ B1 t short p = B1 t short q)) :
    ∀ (ps done : List Int) (nm : List Int) (top last : Int), (∀ p ∈ done ++ ps, 0 ≤ p ∧ p < t.length) → (done ++ ps).Nodup → (done ++ ps).Pairwise (fun p q => le (B1 t short p) (B1 t short q)) → NmInv t short done nm top last →
      ∃ nm' top' last', name lf same ps nm top last = (nm', top') ∧ NmInv t short (done ++ ps) nm' top' last' ∧ top' ≤ top + ps.length
  | [], done, nm, top, last, _, _, _, h => ⟨nm, top, last, rfl, by simpa using h, by simp⟩
  | p :: ps, done, nm, top, last, hr, hnd, hs, h => by
    have hp := hr p (by simp)
    have e : done ++ p :: ps = (done ++ [p]) ++ ps := by simp
    have hpd : p ∉ done := by
      intro hm
      have := (List.nodup_append.1 hnd).2.2 p hm p (List.mem_cons_self ..)
      exact this rfl
    have hle : ∀ q ∈ done, le (B1 t short q) (B1 t short p) := fun q hq => (List.pairwise_append.1 hs).2.2 q hq p (List.mem_cons_self ..)
    rw [e] at hr hnd hs ⊢
    simp only [name]
    by_cases hl : lf p = true
    · have hL := (hlf p hp.1 hp.2).1 hl
      rw [if_pos hl]
      obtain ⟨top', ht'⟩ : ∃ x, (if last < 0 ∨ same last p = false then top + 1 else top) = x := ⟨_, rfl⟩
      rw [ht']
      have hrd : ∀ q : Int, 0 ≤ q → rd (nm.set p.toNat top') q = if p = q then top' else rd nm q := fun q q0 => rd_set hp.1 (by rw [h.len]; exact hp.2) q0
      have hold : ∀ q ∈ done, rd (nm.set p.toNat top') q = rd nm q := fun q hq => by
        have hq0 := hr q (by simp [hq])
        have hne : ¬ p = q := fun e => hpd (e ▸ hq)
        rw [hrd q hq0.1, if_neg hne]
      have hnew : rd (nm.set p.toNat top') p = top' := by rw [hrd p hp.1, if_pos rfl]
      -- what the new name is
      have key : top ≤ top' ∧ top' ≤ top + 1 ∧ 0 ≤ top' ∧ ∀ q ∈ done, Lf short q → (rd nm q < top' ↔ llt (B1 t short q) (B1 t short p)) ∧ rd nm q ≤ top' := by
        rcases h.lst with ⟨l0, l1, l2⟩ | ⟨l0, l1, l2, l3⟩
        · rw [if_pos (.inl l0)] at ht'
          exact ⟨by omega, by omega, by omega, fun q hq hLq => absurd hLq (l2 q hq)⟩
        · have hlast := hr last (by simp [l0])
          have hne : last ≠ p := fun e => hpd (e ▸ l0)
          have hsm := hsame last p hlast.1 hlast.2 hp.1 hp.2 l1 hL hne
          have hrl := h.rng last l0 l1
          by_cases c : same last p = true
          · have hB := hsm.1 c
            rw [if_neg (by rw [c]; simp; omega)] at ht'
            refine ⟨by omega, by omega, by omega, fun q hq hLq => ⟨?_, by have := h.rng q hq hLq; omega⟩⟩
            rw [← hB, ← h.lt q hq last l0 hLq l1, l2]
            omega
          · have c' : same last p = false := by simpa using c
            rw [if_pos (.inr c')] at ht'
            refine ⟨by omega, by omega, by omega, fun q hq hLq => ⟨⟨fun _ => ?_, fun _ => by have := h.rng q hq hLq; omega⟩, by have := h.rng q hq hLq; omega⟩⟩
            have hlp : llt (B1 t short last) (B1 t short p) := by
              rcases llt_tri (B1 t short last) (B1 t short p) with x | x | x
              · exact x
              · exact absurd (hsm.2 x) c
              · exact absurd x (hle last l0)
            rcases llt_tri (B1 t short q) (B1 t short last) with x | x | x
            · exact llt_trans x hlp
            · rw [x]; exact hlp
            · exact absurd x (l3 q hq hLq)
      obtain ⟨k1, k2, k3, k4⟩ := key
      have h' : NmInv t short (done ++ [p]) (nm.set p.toNat top') top' p := by
        refine ⟨by simpa using h.len, fun q hq hLq => ?_, fun q hq q' hq' hLq hLq' => ?_, .inr ⟨by simp, hL, hnew, fun q hq hLq => ?_⟩, by omega⟩
        · rcases List.mem_append.1 hq with hq | hq
          · rw [hold q hq]
            have := h.rng q hq hLq
            have := (k4 q hq hLq).2
            omega
          · rw [List.mem_singleton] at hq
            rw [hq, hnew]; omega
        · rcases List.mem_append.1 hq with hq | hq
          · rcases List.mem_append.1 hq' with hq' | hq'
            · rw [hold q hq, hold q' hq']
              exact h.lt q hq q' hq' hLq hLq'
            · rw [List.mem_singleton] at hq'
              rw [hq', hnew, hold q hq]
              exact (k4 q hq hLq).1
          · rw [List.mem_singleton] at hq
            rw [hq]
            rcases List.mem_append.1 hq' with hq' | hq'
            · rw [hnew, hold q' hq']
              constructor
              · intro hlt
                have := (k4 q' hq' hLq').2
                omega
              · intro hlt
                exact absurd hlt (hle q' hq')
            · rw [List.mem_singleton] at hq'
              rw [hq']
              constructor
              · intro hlt; omega
              · intro hlt; exact absurd hlt (llt_irrefl _)
        · rcases List.mem_append.1 hq with hq | hq
          · exact hle q hq
          · rw [List.mem_singleton] at hq
            rw [hq]; exact le_refl _
      obtain ⟨nm', top'', last', e1, e2, e3⟩ := name_spec lf same hlf hsame ps (done ++ [p]) _ _ _ hr hnd hs h'
      exact ⟨nm', top'', last', e1, e2, by simp only [List.length_cons]; omega⟩
    · have hL : ¬ Lf short p := fun x => hl ((hlf p hp.1 hp.2).2 x)
      rw [if_neg hl]
      have h' : NmInv t short (done ++ [p]) nm top last := by
        have hmem : ∀ q ∈ done ++ [p], Lf short q → q ∈ done := by
          intro q hq hLq
          rcases List.mem_append.1 hq with hq | hq
          · exact hq
          · rw [List.mem_singleton] at hq
            rw [hq] at hLq
            exact absurd hLq hL
        refine ⟨h.len, fun q hq hLq => h.rng q (hmem q hq hLq) hLq, fun q hq q' hq' hLq hLq' => h.lt q (hmem q hq hLq) q' (hmem q' hq' hLq') hLq hLq', ?_, h.top_⟩
        rcases h.lst with ⟨l0, l1, l2⟩ | ⟨l0, l1, l2, l3⟩
        · exact .inl ⟨l0, l1, fun q hq hLq => l2 q (hmem q hq hLq) hLq⟩
        · exact .inr ⟨by simp [l0], l1, l2, fun q hq hLq => l3 q (hmem q hq hLq) hLq⟩
      obtain ⟨nm', top'', last', e1, e2, e3⟩ := name_spec lf same hlf hsame ps (done ++ [p]) _ _ _ hr hnd hs h'
      exact ⟨nm', top'', last', e1, e2, by simp only [List.length_cons]; omega⟩
end Go.Ab.Sai


/- The sorter. -/
namespace Go.Ab
open Go Go.Proofs Go.Ab.Wd Go.Ab.Bs
set_option linter.unusedVariables false
set_option linter.unusedSimpArgs false
theorem Store.Ints.rd {σ : Store} {h : Hdl} {l : List Int} (s : σ.Ints h l) {i : Int} (h0 : 0 ≤ i) (h1 : i < l.length) : σ.ldInt .i64 (h.idx i 1) = some (Wd.rd l i) := Store.Ints.ld s h0 h1
theorem Store.Bools.rd {σ : Store} {h : Hdl} {l : List Bool} (s : σ.Bools h l) {i : Int} (h0 : 0 ≤ i) (h1 : i < l.length) : σ.ldBool (h.idx i 1) = some (Wd.rdOf false l i) := Store.Bools.ld s h0 h1
structure Sorter (σ : Store) (p : Ptr) (ht hs ha : Hdl) (kk : Nat) (t : List Int) (sh : List Bool) (sa : List Int) : Prop where
  nn : ∃ x, p = some x
  t_ : σ.ldSl (Ptr.add p 0) = some ht
  k_ : σ.ldInt .i64 (Ptr.add p 1) = some (kk : Int)
  s_ : σ.ldSl (Ptr.add p 2) = some hs
  a_ : σ.ldSl (Ptr.add p 3) = some ha
  t : σ.Ints ht t
  s : σ.Bools hs sh
  a : σ.Ints ha sa
def lft (sh : List Bool) (i : Int) : Bool := decide (0 < i) && (rdOf false sh i && !rdOf false sh (i - 1))
theorem left_spec {σ : Store} {p : Ptr} {ht hs ha : Hdl} {kk : Nat} {t : List Int} {sh : List Bool} {sa : List Int} (S : Sorter σ p ht hs ha kk t sh sa) {i : Int} (h0 : 0 ≤ i) (h1 : i < sh.length) (hn : sh.length < 2 ^ 62) :
    Runs Try.prog 68 [.ptr p, .int .i64 i] σ (.bool (lft sh i)) σ := by
  refine Runs.intro (fn := Try.f68) (by kernel_rfl) (by kernel_rfl) (Ev.of fun k => ?_)
  obtain ⟨x, rfl⟩ := S.nn
  have hl := S.s.blen
  rw [f68_eq]
  by_cases c : 0 < i
  · have w1 : IntKind.wrap .i64 (i - 1) = i - 1 := wrap64 (by omega) (by omega)
    simp only [c, decide_true, if_true, Option.bind_some, S.s_, w1]
    rw [if_pos (by omega), S.s.rd h0 h1]
    simp only [Option.bind_some, lft, c, decide_true, Bool.true_and]
    cases h : rdOf false sh i with
    | false => simp only [Bool.false_and]; rfl
    | true =>
      rw [if_pos rfl, if_pos (by omega), S.s.rd (by omega) (by omega)]
      rfl
  · simp [c, lft]
end Go.Ab


/- A place is put at the head of its bucket. -/
namespace Go.Ab
open Go Go.Proofs Go.Ab.Wd Go.Ab.Bs
set_option linter.unusedVariables false
set_option linter.unusedSimpArgs false
/-- Only two rows are others. -/
structure Off2 (a b : Nat) (σ σ' : Store) : Prop where
  prot : σ'.prot = σ.prot
  len : σ'.objs.length = σ.objs.length
  off : ∀ c, c ≠ a → c ≠ b → σ'.objs[c]? = σ.objs[c]?
theorem Off2.refl (a b : Nat) (σ : Store) : Off2 a b σ σ := ⟨rfl, rfl, fun _ _ _ => rfl⟩
theorem Off2.trans {a b : Nat} {σ σ1 σ2 : Store} (h : Off2 a b σ σ1) (k : Off2 a b σ1 σ2) : Off2 a b σ σ2 := ⟨k.prot.trans h.prot, k.len.trans h.len, fun c h1 h2 => (k.off c h1 h2).trans (h.off c h1 h2)⟩
theorem Off.two {a b : Nat} {σ σ1 σ2 : Store} (h : Off a σ σ1) (k : Off b σ1 σ2) : Off2 a b σ σ2 := ⟨k.prot.trans h.prot, k.len.trans h.len, fun c h1 h2 => (k.off c h2).trans (h.off c h1)⟩
theorem Store.Wr.off {σ σ' : Store} {h : Hdl} (w : σ.Wr h) {b : Nat} (k : Off b σ σ') (hr : h.row ≠ some b) : σ'.Wr h := by
  obtain ⟨c, o, cs, h1, h2, h3⟩ := w
  exact ⟨c, o, cs, h1, (k.off c (fun e => hr (by simp [Hdl.row, h1, e]))).trans h2, by rw [k.prot]; exact h3⟩
/-- The sorter at work: its rows, the two boxes that the closure holds, the buckets' row. -/
structure Ind (σ : Store) (c1 c2 p : Ptr) (ht hs ha hh : Hdl) (ba bh kk : Nat) (t : List Int) (sh : List Bool) (st : Sai.St) : Prop where
  so : Sorter σ p ht hs ha kk t sh st.1
  e1 : σ.ldPtr c1 = some p
  e2 : σ.ldSl c2 = some hh
  h : σ.Ints hh st.2
  wa : σ.Wr ha
  wh : σ.Wr hh
  ra : ha.row = some ba
  rh : hh.row = some bh
  ab : ba ≠ bh
  far : ∀ b, b = ba ∨ b = bh → p.row ≠ some b ∧ c1.row ≠ some b ∧ c2.row ≠ some b ∧ ht.row ≠ some b ∧ hs.row ≠ some b
theorem Sorter.off {σ σ' : Store} {p : Ptr} {ht hs ha : Hdl} {kk : Nat} {t : List Int} {sh : List Bool} {sa : List Int} (S : Sorter σ p ht hs ha kk t sh sa) {b : Nat} (k : Off b σ σ') (r1 : p.row ≠ some b) (r2 : ht.row ≠ some b) (r3 : hs.row ≠ some b)
    {sa' : List Int} (ha' : σ'.Ints ha sa') : Sorter σ' p ht hs ha kk t sh sa' :=
  ⟨S.nn, (ldSl_cell (cell_off k (by simpa using r1))).trans S.t_, (ldInt_cell (cell_off k (by simpa using r1))).trans S.k_, (ldSl_cell (cell_off k (by simpa using r1))).trans S.s_, (ldSl_cell (cell_off k (by simpa using r1))).trans S.a_, S.t.off k r2, S.s.off k r3, ha'⟩
theorem Ind.seta {σ σ' : Store} {c1 c2 p : Ptr} {ht hs ha hh : Hdl} {ba bh kk : Nat} {t : List Int} {sh : List Bool} {st : Sai.St} (I : Ind σ c1 c2 p ht hs ha hh ba bh kk t sh st) (k : Off ba σ σ') {sa' : List Int} (ha' : σ'.Ints ha sa') (w : σ'.Wr ha) :
    Ind σ' c1 c2 p ht hs ha hh ba bh kk t sh (sa', st.2) := by
  obtain ⟨f1, f2, f3, f4, f5⟩ := I.far ba (.inl rfl)
  have hr : hh.row ≠ some ba := by rw [I.rh]; intro e; injection e with e; exact I.ab e.symm
  exact ⟨I.so.off k f1 f4 f5 ha', (ldPtr_cell (cell_off k f2)).trans I.e1, (ldSl_cell (cell_off k f3)).trans I.e2, I.h.off k hr, w, I.wh.off k hr, I.ra, I.rh, I.ab, I.far⟩
theorem Ind.seth {σ σ' : Store} {c1 c2 p : Ptr} {ht hs ha hh : Hdl} {ba bh kk : Nat} {t : List Int} {sh : List Bool} {st : Sai.St} (I : Ind σ c1 c2 p ht hs ha hh ba bh kk t sh st) (k : Off bh σ σ') {hd' : List Int} (h' : σ'.Ints hh hd') (w : σ'.Wr hh) :
    Ind σ' c1 c2 p ht hs ha hh ba bh kk t sh (st.1, hd') := by
  obtain ⟨f1, f2, f3, f4, f5⟩ := I.far bh (.inr rfl)
  have hr : ha.row ≠ some bh := by rw [I.ra]; intro e; injection e with e; exact I.ab e
  exact ⟨I.so.off k f1 f4 f5 (Store.Sl.off I.so.a k hr), (ldPtr_cell (cell_off k f2)).trans I.e1, (ldSl_cell (cell_off k f3)).trans I.e2, h', I.wa.off k hr, w, I.ra, I.rh, I.ab, I.far⟩
theorem intsL_set (l : List Int) (n : Nat) (x : Int) : (intsL l).set n (.int .i64 x) = intsL (l.set n x) := by simp [intsL, List.map_set]
/-- One number of a slice of numbers is written. -/
theorem sti_spec {σ : Store} {h : Hdl} {l : List Int} (s : σ.Ints h l) (w : σ.Wr h) {i : Int} (h0 : 0 ≤ i) (h1 : i < l.length) (x : Int) {b : Nat} (hb : h.row = some b) :
    ∃ σ', σ.stL (h.idx i 1) [.int .i64 x] 0 = some σ' ∧ Off b σ σ' ∧ σ'.Ints h (l.set i.toNat x) ∧ σ'.Wr h := by
  obtain ⟨σ', h1, h2, h3, h4⟩ := st_spec s w h0 (by simpa using h1) (v := .int .i64 x) rfl hb
  rw [intsL_set] at h3
  exact ⟨σ', h1, h2, h3, h4⟩
theorem put_spec {σ : Store} {c1 c2 p : Ptr} {ht hs ha hh : Hdl} {ba bh kk : Nat} {t : List Int} {sh : List Bool} {st st' : Sai.St} (I : Ind σ c1 c2 p ht hs ha hh ba bh kk t sh st) {i : Int} (hn : st.1.length < 2 ^ 62) (h : Sai.put t sh st i = some st') :
    ∃ σ', Runs Try.prog 85 [.int .i64 i, .ptr c1, .ptr c2] σ (.tuple []) σ' ∧ Ind σ' c1 c2 p ht hs ha hh ba bh kk t sh st' ∧ Off2 ba bh σ σ' := by
  have run : ∀ σ', (∀ k, evBody Try.prog (gm Try.prog k) drawn k Try.f85 [.int .i64 i, .ptr c1, .ptr c2] σ = some (.tuple [], σ')) → Runs Try.prog 85 [.int .i64 i, .ptr c1, .ptr c2] σ (.tuple []) σ' :=
    fun σ' h => Runs.intro (fn := Try.f85) (by kernel_rfl) (by kernel_rfl) (Ev.of h)
  obtain ⟨x, hx⟩ := I.so.nn
  have l1 := I.so.s.blen
  have l2 := I.so.t.ilen
  have l3 := I.h.ilen
  have l4 := I.so.a.ilen
  unfold Sai.put at h
  by_cases c : 0 ≤ i
  · rw [if_pos c] at h
    split at h
    · rename_i hi
      cases hS : Sai.S sh i with
      | true =>
        rw [if_pos hS] at h; injection h with h; subst h
        refine ⟨σ, run σ fun k => ?_, I, Off2.refl _ _ _⟩
        rw [f85_eq]
        simp only [c, decide_true, if_true, I.e1, hx, Option.bind_some, true_and]
        rw [← hx, I.so.s_]
        simp only [Option.bind_some]
        rw [if_pos (by omega), I.so.s.rd c (by omega)]
        have : rdOf false sh i = true := hS
        simp [this]
      | false =>
        rw [if_neg (by rw [hS]; simp)] at h
        unfold Sai.upw at h
        split at h
        · rename_i hc
          obtain ⟨q1, q2, q3, q4, q5, q6⟩ := hc
          injection h with h; subst h
          obtain ⟨σ1, s1, s2, s3, s4⟩ := sti_spec I.so.a I.wa q5 q6 i I.ra
          have I1 := I.seta s2 s3 s4
          obtain ⟨σ2, u1, u2, u3, u4⟩ := sti_spec I1.h I1.wh q3 q4 (rd st.2 (rd t i) + 1) I.rh
          have I2 := I1.seth u2 u3 u4
          refine ⟨σ2, run σ2 fun k => ?_, I2, s2.two u2⟩
          have hSr : rdOf false sh i = false := hS
          have w1 : IntKind.wrap .i64 (rd st.2 (rd t i) + 1) = rd st.2 (rd t i) + 1 := wrap64 (by omega) (by omega)
          have e1' := I1.e1
          have e2' := I1.e2
          have t1' := I1.so.t_
          have so1 := I1.so.t.rd c (by omega)
          have h1' := I1.h.rd q3 q4
          have sa := I.so.a_
          have ss := I.so.s_
          have st0 := I.so.t_
          rw [hx] at e1' t1' sa ss st0
          rw [f85_eq]
          simp only [c, decide_true, if_true, I.e1, hx, Option.bind_some, ss, sa, st0, I.e2, true_and]
          rw [if_pos (by omega), I.so.s.rd c (by omega)]
          simp only [hSr, Option.bind_some, Bool.not_false, if_true]
          rw [if_pos (by omega), I.so.t.rd c (by omega)]
          simp only [Option.bind_some]
          rw [if_pos (by omega), I.h.rd q3 q4]
          simp only [Option.bind_some]
          rw [if_pos (by omega), s1]
          simp only [Option.bind_some, e2', e1', t1']
          rw [if_pos (by omega), so1]
          simp only [Option.bind_some]
          rw [if_pos (by omega), h1']
          simp only [Option.bind_some]
          rw [if_pos (by omega), w1, u1]
          rfl
        · cases h
    · cases h
  · rw [if_neg c] at h; injection h with h; subst h
    refine ⟨σ, run σ fun k => ?_, I, Off2.refl _ _ _⟩
    rw [f85_eq]
    simp [c]
end Go.Ab


/- slices.Backward. -/
namespace Go.Ab
open Go Go.Proofs Go.Ab.Wd Go.Ab.Bs
set_option linter.unusedVariables false
set_option linter.unusedSimpArgs false
theorem back_loop {y : Nat} {c : Ptr} {h : Hdl} {l : List Int} (hn : l.length < 2 ^ 62) (I : Int → Store → Prop) (hc : ∀ i σ, I i σ → σ.ldSl c = some h ∧ σ.Ints h l)
    (step : ∀ (i : Int) (σ : Store), 0 ≤ i → i < l.length → I i σ → ∃ σ', RunsY Try.prog y [.int .i64 i, .int .i64 (rd l i)] σ (.bool true) σ' ∧ I (i - 1) σ') (m : Nat) :
    ∀ (i : Int) (σ : Store), i + 1 = m → i < l.length → I i σ → ∃ σ', EvI (fun k s => stepF Try.prog (gm Try.prog k) drawn k Try.f60 [1, 0] [3, 1, 0] s) ([.int .i64 i, .ptr c, .yld y], σ) (AX.exit 0, [], σ') ∧ I (-1) σ' := by
  induction m with
  | zero =>
    intro i σ hi h1 hI
    have hi' : i = -1 := by omega
    subst hi'
    exact ⟨σ, EvI.done (Ev.of fun k => by rw [f60_L10]; rfl), hI⟩
  | succ m ih =>
    intro i σ hi h1 hI
    obtain ⟨c1, c2⟩ := hc i σ hI
    obtain ⟨σ1, ⟨k0, r1⟩, hI1⟩ := step i σ (by omega) h1 hI
    obtain ⟨σ', e, hI'⟩ := ih (i - 1) σ1 (by omega) (by omega) hI1
    refine ⟨σ', EvI.step ⟨k0, fun k hk => ?_⟩ e, hI'⟩
    have l1 := c2.ilen
    have w1 : IntKind.wrap .i64 (i - 1) = i - 1 := wrap64 (by omega) (by omega)
    have r1 := r1 k hk
    simp only at r1 ⊢
    rw [f60_L10, if_pos (by simp; omega), c1]
    simp only [Option.bind_some]
    rw [if_pos (by omega), c2.rd (by omega) h1]
    simp only [Option.bind_some, r1, AV.asBool, w1]
    rfl
/-- What slices.Backward does with its yield. -/
theorem back_spec {y : Nat} {c : Ptr} {h : Hdl} {l : List Int} (hn : l.length < 2 ^ 62) (I : Int → Store → Prop) (hc : ∀ i σ, I i σ → σ.ldSl c = some h ∧ σ.Ints h l)
    (step : ∀ (i : Int) (σ : Store), 0 ≤ i → i < l.length → I i σ → ∃ σ', RunsY Try.prog y [.int .i64 i, .int .i64 (rd l i)] σ (.bool true) σ' ∧ I (i - 1) σ') {σ : Store} (h0 : I (l.length - 1) σ) :
    ∃ σ', Runs Try.prog 60 [.yld y, .ptr c] σ (.tuple []) σ' ∧ I (-1) σ' := by
  obtain ⟨σ', e, hI⟩ := back_loop hn I hc step l.length (l.length - 1) σ (by omega) (by omega) h0
  refine ⟨σ', Runs.intro (fn := Try.f60) (by kernel_rfl) (by kernel_rfl) ?_, hI⟩
  obtain ⟨c1, c2⟩ := hc _ σ h0
  have l1 := c2.ilen
  have w1 : IntKind.wrap .i64 ((l.length : Int) - 1) = l.length - 1 := wrap64 (by omega) (by omega)
  refine (Ev.bind (loopF_ev e) (Ev.of fun k => f60_X10_2 (gm Try.prog k) k σ')).congr fun k => ?_
  rw [f60_eq, c1]
  simp only [Option.bind_some, l1, w1]
end Go.Ab


/- The buckets. -/
namespace Go.Ab
open Go Go.Proofs Go.Ab.Wd Go.Ab.Bs Go.Ab.Sai
set_option linter.unusedVariables false
set_option linter.unusedSimpArgs false
theorem ext_rd {l m : List Int} (hl : l.length = m.length) (h : ∀ c : Int, 0 ≤ c → c < l.length → rd l c = rd m c) : l = m := by
  refine List.ext_getElem hl fun i h1 h2 => ?_
  have := h i (by omega) (by omega)
  rwa [rd_getElem h1, rd_getElem h2] at this
theorem hd_take (t : List Int) {i : Int} (h0 : 0 ≤ i) (h1 : i < t.length) (c : Int) : hd (t.take (i + 1).toNat) c = hd (t.take i.toNat) c + if rd t i < c then 1 else 0 := by
  obtain ⟨i, rfl⟩ := Int.eq_ofNat_of_zero_le h0
  have hi : i < t.length := by omega
  rw [rd_getElem hi, show ((i : Int) + 1).toNat = i + 1 by omega, show ((i : Int)).toNat = i by omega, show t.take (i + 1) = t.take i ++ [t[i]] by rw [List.take_add_one]; simp [hi]]
  unfold hd
  rw [List.filter_append]
  by_cases c' : t[i] < c
  · rw [if_pos c', List.filter_cons_of_pos (by simpa using c')]; simp
  · rw [if_neg c', List.filter_cons_of_neg (by simpa using c')]; simp
/-- How many of the first i numbers are c, for all c. -/
def Cnt (t : List Int) (kk : Nat) (i : Int) (L : List Int) : Prop := L.length = kk ∧ ∀ c : Int, 0 ≤ c → c < kk → rd L c = hd (t.take i.toNat) (c + 1) - hd (t.take i.toNat) c
theorem Cnt.zero (t : List Int) (kk : Nat) : Cnt t kk 0 (List.replicate kk 0) := by
  refine ⟨by simp, fun c h0 h1 => ?_⟩
  obtain ⟨c, rfl⟩ := Int.eq_ofNat_of_zero_le h0
  rw [rd_getElem (by simp; omega)]
  simp [hd]
theorem Cnt.step {t : List Int} {kk : Nat} {i : Int} {L : List Int} (h : Cnt t kk i L) (h0 : 0 ≤ i) (h1 : i < t.length) (hr : 0 ≤ rd t i ∧ rd t i < kk) : Cnt t kk (i + 1) (L.set (rd t i).toNat (rd L (rd t i) + 1)) := by
  refine ⟨by simp [h.1], fun c c0 c1 => ?_⟩
  rw [rd_set hr.1 (by rw [h.1]; omega) c0, hd_take t h0 h1, hd_take t h0 h1, h.2 _ hr.1 hr.2, h.2 c c0 c1]
  by_cases e : rd t i = c
  · subst e; rw [if_pos rfl, if_pos (by omega), if_neg (by omega)]; omega
  · rw [if_neg e]
    by_cases e2 : rd t i < c
    · rw [if_pos (by omega), if_pos e2]; omega
    · rw [if_neg (by omega), if_neg e2]; omega
/-- The row of a slice that was just made. -/
theorem Cnt.bound {t : List Int} {kk : Nat} {i : Int} {L : List Int} (h : Cnt t kk i L) {c : Int} (c0 : 0 ≤ c) (c1 : c < kk) : 0 ≤ rd L c ∧ rd L c ≤ t.length := by
  rw [h.2 c c0 c1]
  have h1 := hd_mono (t.take i.toNat) (show c ≤ c + 1 by omega)
  have h2 := hd_le (t.take i.toNat) (c + 1)
  have h3 := hd_nonneg (t.take i.toNat) c
  have h4 : (t.take i.toNat).length ≤ t.length := by rw [List.length_take]; omega
  omega
theorem count_loop {hb ht : Hdl} {b : Nat} {t : List Int} {kk : Nat} {e : Bool} (hn : t.length < 2 ^ 62) (hrng : ∀ x ∈ t, 0 ≤ x ∧ x < kk) (hr : hb.row = some b) (hrt : ht.row ≠ some b) (m : Nat) :
    ∀ (i : Int) (L : List Int) (σ : Store), i + m = t.length → 0 ≤ i → Cnt t kk i L → σ.Ints hb L → σ.Wr hb → σ.Ints ht t →
    ∃ σ' L', EvI (fun k s => stepF Try.prog (gm Try.prog k) drawn k Try.f84 [1, 1, 0, 1, 0] [21, 20, 19, 5, 1] s) ([.int .i64 i, .int .i64 t.length, .slice ht, .slice hb, .bool e], σ) (AX.exit 0, [(5, .slice hb), (1, .bool e)], σ') ∧
      Cnt t kk t.length L' ∧ σ'.Ints hb L' ∧ σ'.Wr hb ∧ Off b σ σ' := by
  induction m with
  | zero =>
    intro i L σ hi h0 hc hL hw hT
    have : i = t.length := by omega
    subst this
    exact ⟨σ, L, EvI.done (Ev.of fun k => by rw [f84_L11010]; simp), hc, hL, hw, Off.refl _ _⟩
  | succ m ih =>
    intro i L σ hi h0 hc hL hw hT
    have h1 : i < t.length := by omega
    have hx := hrng _ (rd_mem h0 h1)
    obtain ⟨b0, b1⟩ := hc.bound hx.1 hx.2
    have lb := hL.ilen
    have lt := hT.ilen
    have lc := hc.1
    obtain ⟨σ1, s1, s2, s3, s4⟩ := sti_spec hL hw hx.1 (by omega) (rd L (rd t i) + 1) hr
    obtain ⟨σ', L', r1, r2, r3, r4, r5⟩ := ih (i + 1) _ σ1 (by omega) (by omega) (hc.step h0 h1 hx) s3 s4 (hT.off s2 hrt)
    refine ⟨σ', L', EvI.step (Ev.of fun k => ?_) r1, r2, r3, r4, s2.trans r5⟩
    have w1 : IntKind.wrap .i64 (rd L (rd t i) + 1) = rd L (rd t i) + 1 := wrap64 (by omega) (by omega)
    have w2 : IntKind.wrap .i64 (i + 1) = i + 1 := wrap64 (by omega) (by omega)
    rw [f84_L11010, if_pos (by simp; omega), if_pos (by omega), hT.rd h0 h1]
    simp only [Option.bind_some]
    rw [if_pos (by omega), hL.rd hx.1 (by omega)]
    simp only [Option.bind_some, w1, w2]
    rw [if_pos (by omega), s1]
    rfl
/-- The first i are sums, the others counts. -/
def Sums (t : List Int) (kk : Nat) (e : Bool) (i : Int) (M : List Int) : Prop := M.length = kk ∧ (∀ c : Int, 0 ≤ c → c < i → rd M c = if e = true then hd t (c + 1) else hd t c) ∧ ∀ c : Int, i ≤ c → 0 ≤ c → c < kk → rd M c = hd t (c + 1) - hd t c
def bk (e : Bool) (t : List Int) (kk : Nat) : List Int := if e = true then tails t kk else heads t kk
theorem bk_length (e : Bool) (t : List Int) (kk : Nat) : (bk e t kk).length = kk := by unfold bk; split <;> simp [tails, heads]
theorem Sums.end {t : List Int} {kk : Nat} {e : Bool} {M : List Int} (h : Sums t kk e kk M) : M = bk e t kk := by
  refine ext_rd (by rw [h.1, bk_length]) fun c c0 c1 => ?_
  rw [h.1] at c1
  rw [h.2.1 c c0 c1]
  cases e
  · simp only [bk]; rw [if_neg (by simp), if_neg (by simp), rd_heads t kk c0 c1]
  · simp only [bk, if_true]; rw [rd_tails t kk c0 c1]
theorem Sums.step {t : List Int} {kk : Nat} {e : Bool} {i : Int} {M : List Int} (h : Sums t kk e i M) (h0 : 0 ≤ i) (h1 : i < kk) : Sums t kk e (i + 1) (M.set i.toNat (if e = true then hd t (i + 1) else hd t i)) := by
  refine ⟨by simp [h.1], fun c c0 c1 => ?_, fun c c0 c1 c2 => ?_⟩
  · rw [rd_set h0 (by rw [h.1]; omega) c0]
    by_cases e2 : i = c
    · subst e2; rw [if_pos rfl]
    · rw [if_neg e2]; exact h.2.1 c c0 (by omega)
  · rw [rd_set h0 (by rw [h.1]; omega) c1, if_neg (by omega)]; exact h.2.2 c (by omega) c1 c2
theorem sum_loop {hb : Hdl} {b : Nat} {t : List Int} {kk : Nat} {e : Bool} (hn : t.length < 2 ^ 62) (hk : kk < 2 ^ 62) (hr : hb.row = some b) (m : Nat) :
    ∀ (i : Int) (M : List Int) (σ : Store), i + m = kk → 0 ≤ i → Sums t kk e i M → σ.Ints hb M → σ.Wr hb →
    ∃ σ', EvI (fun k s => stepF Try.prog (gm Try.prog k) drawn k Try.f84 [1, 1, 1, 1, 0, 1, 0] [34, 33, 32, 8, 5, 1] s) ([.int .i64 i, .int .i64 kk, .slice hb, .int .i64 (hd t i), .slice hb, .bool e], σ) (AX.exit 2, [(5, .slice hb)], σ') ∧
      σ'.Ints hb (bk e t kk) ∧ σ'.Wr hb ∧ Off b σ σ' := by
  induction m with
  | zero =>
    intro i M σ hi h0 hc hL hw
    have : i = kk := by omega
    subst this
    rw [hc.end] at hL
    exact ⟨σ, EvI.done (Ev.of fun k => by rw [f84_L1111010]; simp), hL, hw, Off.refl _ _⟩
  | succ m ih =>
    intro i M σ hi h0 hc hL hw
    have h1 : i < kk := by omega
    have lb := hL.ilen
    have lc := hc.1
    have e1 := hc.2.2 i (by omega) h0 h1
    have n1 := hd_nonneg t i
    have n2 := hd_le t (i + 1)
    have n3 := hd_mono t (show i ≤ i + 1 by omega)
    obtain ⟨σ1, s1, s2, s3, s4⟩ := sti_spec hL hw h0 (by omega) (if e = true then hd t (i + 1) else hd t i) hr
    obtain ⟨σ', r1, r3, r4, r5⟩ := ih (i + 1) _ σ1 (by omega) (by omega) (hc.step h0 h1) s3 s4
    refine ⟨σ', EvI.step (Ev.of fun k => ?_) r1, r3, r4, s2.trans r5⟩
    have w1 : IntKind.wrap .i64 (hd t i + rd M i) = hd t (i + 1) := by rw [wrap64 (by omega) (by omega)]; omega
    have w2 : IntKind.wrap .i64 (i + 1) = i + 1 := wrap64 (by omega) (by omega)
    rw [f84_L1111010, if_pos (by simp; omega), if_pos (by omega), hL.rd h0 (by omega)]
    simp only [Option.bind_some, w1, w2]
    cases e with
    | true =>
      rw [if_pos rfl, if_pos (by omega)]
      rw [if_pos rfl] at s1
      rw [s1]
      rfl
    | false =>
      rw [if_neg (by simp), if_pos (by omega)]
      rw [if_neg (by simp)] at s1
      rw [s1]
      rfl
theorem mkCells_ints (n : Nat) : mkCells [.int .i64 0] n = intsL (List.replicate n 0) := by simp [mkCells, intsL]
/-- What a pushed row holds. -/
theorem pushed {σ : Store} (l : List AV) {n : Nat} (hn : l.length = n) (c : Option Nat) (hp : σ.prot ≤ σ.objs.length) :
    Store.Sl (σ.push l 1) ⟨some (σ.objs.length, 0), n, c⟩ 1 l ∧ Store.Wr (σ.push l 1) ⟨some (σ.objs.length, 0), n, c⟩ := by
  have hnew : (σ.push l 1).objs[σ.objs.length]? = some (.cells l true 1) := by simp [Store.push]
  exact ⟨⟨by simp [hn], .inr ⟨_, 0, l, true, rfl, hnew, by simp, by rw [List.drop_zero, List.take_of_length_le (Nat.le_refl _)]⟩⟩, ⟨_, 0, l, rfl, hnew, hp⟩⟩
theorem Sorter.lt {σ : Store} {p : Ptr} {ht hs ha : Hdl} {kk : Nat} {t : List Int} {sh : List Bool} {sa : List Int} (S : Sorter σ p ht hs ha kk t sh sa) : ∀ b, p.row = some b → b < σ.objs.length := by
  intro b hb
  have := S.t_
  cases p with
  | none => cases hb
  | some x =>
    obtain ⟨c, o⟩ := x
    simp [Ptr.row] at hb; subst hb
    simp only [Ptr.add, Option.map_some, Store.ldSl, Store.cell] at this
    by_cases h : c < σ.objs.length
    · exact h
    · rw [List.getElem?_eq_none (by omega)] at this; cases this
/-- buckets: a new row, of the buckets' ends, or beginnings. -/
theorem buckets_spec {σ : Store} {p : Ptr} {ht hs ha : Hdl} {kk : Nat} {t : List Int} {sh : List Bool} {sa : List Int} (S : Sorter σ p ht hs ha kk t sh sa) (e : Bool) (hn : t.length < 2 ^ 62) (hk : kk * 8 ≤ 281474976710656) (hrng : ∀ x ∈ t, 0 ≤ x ∧ x < kk)
    (hp : σ.prot ≤ σ.objs.length) (hrt : ht.row ≠ some σ.objs.length) :
    ∃ σ', Runs Try.prog 84 [.ptr p, .bool e] σ (.slice ⟨some (σ.objs.length, 0), kk, some kk⟩) σ' ∧ Kp σ.objs.length σ σ' ∧ σ'.objs.length = σ.objs.length + 1 ∧ σ'.Ints ⟨some (σ.objs.length, 0), kk, some kk⟩ (bk e t kk) ∧ σ'.Wr ⟨some (σ.objs.length, 0), kk, some kk⟩ := by
  obtain ⟨x, hx⟩ := S.nn
  have hlt := S.lt
  obtain ⟨p1, p2⟩ := pushed (σ := σ) (intsL (List.replicate kk 0)) (n := kk) (by simp) (some kk) hp
  have k1 : Kp σ.objs.length σ (σ.push (intsL (List.replicate kk 0)) 1) := Kp.push _ _ (Nat.le_refl _)
  have hT : (σ.push (intsL (List.replicate kk 0)) 1).Ints ht t := Store.Sl.kp S.t k1
  have lt := S.t.ilen
  obtain ⟨σ1, L, c1, c2, c3, c4, c5⟩ := count_loop (e := e) hn hrng (b := σ.objs.length) rfl hrt t.length 0 _ _ (by omega) (Int.le_refl _) (Cnt.zero t kk) p1 p2 hT
  have hs0 : Sums t kk e 0 L := by
    refine ⟨c2.1, fun c h0 h1 => by omega, fun c h0 h1 h2 => ?_⟩
    have := c2.2 c h1 h2
    rwa [show ((t.length : Int)).toNat = t.length by omega, List.take_length] at this
  obtain ⟨σ2, d1, d2, d3, d4⟩ := sum_loop hn (by omega) (b := σ.objs.length) rfl kk 0 L σ1 (by omega) (Int.le_refl _) hs0 c3 c4
  rw [hd_zero fun x hx => (hrng x hx).1] at d1
  have o1 := c5.trans d4
  refine ⟨σ2, Runs.intro (fn := Try.f84) (by kernel_rfl) (by kernel_rfl) ?_, k1.trans (o1.kp (Nat.le_refl _)), by rw [o1.len]; simp [Store.push], d2, d3⟩
  refine (Ev.bind (loopF_ev c1) (?_ : Ev (fun k => contF Try.prog (gm Try.prog k) drawn k Try.f84 [1, 1, 0, 1, 0] (AX.exit 0, [(5, .slice ⟨some (σ.objs.length, 0), kk, some kk⟩), (1, .bool e)], σ1)) _)).congr fun k => ?_
  · exact (Ev.bind (loopF_ev d1) (Ev.of fun k => f84_X1111010_1 (gm Try.prog k) k σ2 _)).congr fun k => by rw [f84_X11010_1]
  · rw [f84_eq]
    have e0 : (σ.push (intsL (List.replicate kk 0)) 1).ldSl (Ptr.add p 0) = some ht := (ldSl_cell (cell_kp k1 (by simpa using hlt))).trans S.t_
    have e1 := S.k_
    rw [hx] at e0 e1
    simp only [hx, Option.bind_some, e1, mkCells_ints, show ((kk : Int)).toNat = kk by omega]
    rw [if_pos (by omega)]
    simp only [e0, Option.bind_some, lt]
end Go.Ab


/- The passes of induce. -/
namespace Go.Ab
open Go Go.Proofs Go.Ab.Wd Go.Ab.Bs Go.Ab.Sai
set_option linter.unusedVariables false
set_option linter.unusedSimpArgs false
theorem put_len {t : List Int} {sh : List Bool} {st st' : Sai.St} {i : Int} (h : Sai.put t sh st i = some st') : st'.1.length = st.1.length ∧ st'.2.length = st.2.length := by
  unfold Sai.put at h
  split at h
  · split at h
    · split at h
      · injection h with h; subst h; exact ⟨rfl, rfl⟩
      · unfold Sai.upw at h
        split at h
        · injection h with h; subst h; simp
        · cases h
    · cases h
  · injection h with h; subst h; exact ⟨rfl, rfl⟩
theorem down_len {t : List Int} {st st' : Sai.St} {i : Int} (h : Sai.down t st i = some st') : st'.1.length = st.1.length ∧ st'.2.length = st.2.length := by
  unfold Sai.down at h
  split at h
  · injection h with h; subst h; simp
  · cases h
theorem pass2_loop {c1 c2 c5 p : Ptr} {ht hs ha hh : Hdl} {ba bh kk : Nat} {t : List Int} {sh : List Bool} (hn : t.length < 2 ^ 62) (m : Nat) :
    ∀ (i : Int) (st st' : Sai.St) (σ : Store), i + m = t.length → 0 ≤ i → st.1.length = t.length → Ind σ c1 c2 p ht hs ha hh ba bh kk t sh st → Sai.pass2 t sh m i st = some st' →
    (∀ x ∈ st.1, x < t.length) →
    ∃ σ', EvI (fun k s => stepF Try.prog (gm Try.prog k) drawn k Try.f69 [1, 1, 1, 1, 1, 1, 1, 0, 1, 0] [74, 73, 10, 5, 2] s) ([.int .i64 i, .int .i64 t.length, .func 85 [] [.ptr c1, .ptr c2], .ptr c5, .ptr c1], σ) (AX.exit 4, [(5, .ptr c5), (2, .ptr c1)], σ') ∧
      Ind σ' c1 c2 p ht hs ha hh ba bh kk t sh st' ∧ Off2 ba bh σ σ' := by
  induction m with
  | zero =>
    intro i st st' σ hi h0 hl I h hx
    have : i = t.length := by omega
    subst this
    simp only [Sai.pass2] at h
    injection h with h; subst h
    exact ⟨σ, EvI.done (Ev.of fun k => by rw [f69_L1111111010]; simp), I, Off2.refl _ _ _⟩
  | succ m ih =>
    intro i st st' σ hi h0 hl I h hx
    have la := I.so.a.ilen
    obtain ⟨x, hpx⟩ := I.so.nn
    have e1 := I.e1
    have ea := I.so.a_
    rw [hpx] at e1 ea
    have hrd := I.so.a.rd h0 (by omega)
    have hb := hx _ (rd_mem h0 (show i < st.1.length by omega))
    have w2 : IntKind.wrap .i64 (i + 1) = i + 1 := wrap64 (by omega) (by omega)
    simp only [Sai.pass2] at h
    split at h
    · rename_i hpos
      obtain ⟨st1, h1, h2⟩ := Option.bind_eq_some_iff.1 h
      obtain ⟨σ1, ⟨k0, r⟩, I1, o1⟩ := put_spec I (by omega) h1
      have hpl := put_len h1
      obtain ⟨σ', r1, I', o'⟩ := ih (i + 1) st1 st' σ1 (by omega) (by omega) (by omega) I1 h2 (by
        unfold Sai.put at h1
        split at h1
        · split at h1
          · split at h1
            · injection h1 with h1; subst h1; exact hx
            · unfold Sai.upw at h1
              split at h1
              · rename_i hc
                injection h1 with h1; subst h1
                intro y hy
                rcases List.mem_or_eq_of_mem_set hy with hy | rfl
                · exact hx y hy
                · omega
              · cases h1
          · cases h1
        · injection h1 with h1; subst h1; exact hx)
      refine ⟨σ', EvI.step ⟨k0, fun k hk => ?_⟩ r1, I', o1.trans o'⟩
      have r := r k hk
      have w1 : IntKind.wrap .i64 (rd st.1 i - 1) = rd st.1 i - 1 := wrap64 (by omega) (by omega)
      simp only at r ⊢
      rw [f69_L1111111010, if_pos (by simp; omega)]
      simp only [e1, Option.bind_some, ea]
      rw [if_pos (by omega), hrd]
      simp only [Option.bind_some]
      rw [if_pos (by simpa using hpos), if_pos (by omega)]
      simp only [Option.bind_some, w1, w2, r]
    · rename_i hpos
      obtain ⟨σ', r1, I', o'⟩ := ih (i + 1) st st' σ (by omega) (by omega) hl I h hx
      refine ⟨σ', EvI.step (Ev.of fun k => ?_) r1, I', o'⟩
      rw [f69_L1111111010, if_pos (by simp; omega)]
      simp only [e1, Option.bind_some, ea]
      rw [if_pos (by omega), hrd]
      simp only [Option.bind_some]
      rw [if_neg (by simpa using hpos), w2]
end Go.Ab


/- The passes of induce: to the buckets' ends. -/
namespace Go.Ab
open Go Go.Proofs Go.Ab.Wd Go.Ab.Bs Go.Ab.Sai
set_option linter.unusedVariables false
set_option linter.unusedSimpArgs false
def Rng (t : List Int) (l : List Int) : Prop := ∀ x ∈ l, -1 ≤ x ∧ x < t.length
theorem Rng.set {t l : List Int} (h : Rng t l) {p : Int} (p0 : 0 ≤ p) (p1 : p < t.length) (n : Nat) : Rng t (l.set n p) := by
  intro x hx
  rcases List.mem_or_eq_of_mem_set hx with hx | rfl
  · exact h x hx
  · omega
theorem put_rng {t : List Int} {sh : List Bool} {st st' : Sai.St} {i : Int} (h : Sai.put t sh st i = some st') (hr : Rng t st.1) : Rng t st'.1 := by
  unfold Sai.put at h
  split at h
  · split at h
    · split at h
      · injection h with h; subst h; exact hr
      · unfold Sai.upw at h
        split at h
        · rename_i hc
          injection h with h; subst h; exact hr.set hc.1 hc.2.1 _
        · cases h
    · cases h
  · injection h with h; subst h; exact hr
theorem down_rng {t : List Int} {st st' : Sai.St} {i : Int} (h : Sai.down t st i = some st') (hr : Rng t st.1) : Rng t st'.1 := by
  unfold Sai.down at h
  split at h
  · rename_i hc
    injection h with h; subst h; exact hr.set hc.1 hc.2.1 _
  · cases h
/-- A place put at the end of its bucket: what is written. -/
theorem down_step {σ : Store} {c1 c2 p : Ptr} {ht hs ha hh : Hdl} {ba bh kk : Nat} {t : List Int} {sh : List Bool} {st st' : Sai.St} (I : Ind σ c1 c2 p ht hs ha hh ba bh kk t sh st) {i : Int} (hn : st.1.length < 2 ^ 62) (h : Sai.down t st i = some st') :
    (0 ≤ i ∧ i < t.length) ∧ (0 ≤ rd t i ∧ rd t i < st.2.length) ∧ (0 ≤ rd st.2 (rd t i) - 1 ∧ rd st.2 (rd t i) - 1 < st.1.length) ∧ IntKind.wrap .i64 (rd st.2 (rd t i) - 1) = rd st.2 (rd t i) - 1 ∧
    ∃ σ1 σ2, σ.stL (hh.idx (rd t i) 1) [.int .i64 (rd st.2 (rd t i) - 1)] 0 = some σ1 ∧ Ind σ1 c1 c2 p ht hs ha hh ba bh kk t sh (st.1, st.2.set (rd t i).toNat (rd st.2 (rd t i) - 1)) ∧
      σ1.ldInt .i64 (hh.idx (rd t i) 1) = some (rd st.2 (rd t i) - 1) ∧ σ1.stL (ha.idx (rd st.2 (rd t i) - 1) 1) [.int .i64 i] 0 = some σ2 ∧ Ind σ2 c1 c2 p ht hs ha hh ba bh kk t sh st' ∧ Off2 ba bh σ σ2 := by
  unfold Sai.down at h
  split at h
  · rename_i hc
    obtain ⟨q1, q2, q3, q4, q5, q6⟩ := hc
    injection h with h; subst h
    obtain ⟨σ1, s1, s2, s3, s4⟩ := sti_spec I.h I.wh q3 q4 (rd st.2 (rd t i) - 1) I.rh
    have I1 := I.seth s2 s3 s4
    obtain ⟨σ2, u1, u2, u3, u4⟩ := sti_spec I1.so.a I1.wa q5 q6 i I.ra
    have I2 := I1.seta u2 u3 u4
    have o : Off2 ba bh σ σ2 := ⟨u2.prot.trans s2.prot, u2.len.trans s2.len, fun c h1 h2 => (u2.off c h1).trans (s2.off c h2)⟩
    have hld := I1.h.rd q3 (by simpa using q4)
    rw [rd_set q3 q4 q3, if_pos rfl] at hld
    exact ⟨⟨q1, q2⟩, ⟨q3, q4⟩, ⟨q5, q6⟩, wrap64 (by omega) (by omega), σ1, σ2, s1, I1, hld, u1, I2, o⟩
  · cases h
theorem pass3_loop {c1 c2 p : Ptr} {ht hs ha hh : Hdl} {ba bh kk : Nat} {t : List Int} {sh : List Bool} (hn : t.length < 2 ^ 62) (m : Nat) :
    ∀ (i : Int) (st st' : Sai.St) (σ : Store), i + 1 = m → i < t.length → st.1.length = t.length → Ind σ c1 c2 p ht hs ha hh ba bh kk t sh st → Sai.pass3 t sh m i st = some st' → Rng t st.1 →
    ∃ σ', EvI (fun k s => stepF Try.prog (gm Try.prog k) drawn k Try.f69 [1, 1, 1, 1, 1, 1, 1, 1, 1, 1, 0] [12, 5, 2] s) ([.int .i64 i, .ptr c2, .ptr c1], σ) (AX.exit 6, [], σ') ∧
      Ind σ' c1 c2 p ht hs ha hh ba bh kk t sh st' ∧ Off2 ba bh σ σ' := by
  induction m with
  | zero =>
    intro i st st' σ hi h0 hl I h hx
    have : i = -1 := by omega
    subst this
    simp only [Sai.pass3] at h
    injection h with h; subst h
    exact ⟨σ, EvI.done (Ev.of fun k => by rw [f69_L11111111110]; rfl), I, Off2.refl _ _ _⟩
  | succ m ih =>
    intro i st st' σ hi h1 hl I h hx
    have h0 : 0 ≤ i := by omega
    have la := I.so.a.ilen
    have ls := I.so.s.blen
    have lt := I.so.t.ilen
    have lh := I.h.ilen
    obtain ⟨x, hpx⟩ := I.so.nn
    have e1 := I.e1
    have ea := I.so.a_
    have es := I.so.s_
    have et := I.so.t_
    rw [hpx] at e1 ea es et
    have hrd := I.so.a.rd h0 (by omega)
    have hb := hx _ (rd_mem h0 (show i < st.1.length by omega))
    have w1 : IntKind.wrap .i64 (rd st.1 i - 1) = rd st.1 i - 1 := wrap64 (by omega) (by omega)
    have w2 : IntKind.wrap .i64 (i - 1) = i - 1 := wrap64 (by omega) (by omega)
    simp only [Sai.pass3] at h
    split at h
    · rename_i hpos
      split at h
      · rename_i hlt
        have hsh := I.so.s.rd hpos hlt
        split at h
        · rename_i hS
          obtain ⟨st1, g1, g2⟩ := Option.bind_eq_some_iff.1 h
          obtain ⟨⟨q1, q2⟩, ⟨q3, q4⟩, ⟨q5, q6⟩, q7, σ1, σ2, d1, I1, d2, d3, I2, o2⟩ := down_step I (by omega) g1
          have hdl := down_len g1
          obtain ⟨σ', r1, I', o'⟩ := ih (i - 1) st1 st' σ2 (by omega) (by omega) (by omega) I2 g2 (down_rng g1 hx)
          refine ⟨σ', EvI.step (Ev.of fun k => ?_) r1, I', o2.trans o'⟩
          have e1' := I1.e1
          have ea' := I1.so.a_
          have et' := I1.so.t_
          have e2' := I1.e2
          have hrt := I.so.t.rd q1 q2
          have hrt' := I1.so.t.rd q1 q2
          rw [hpx] at e1' ea' et'
          have hSr : rdOf false sh (rd st.1 i - 1) = true := hS
          rw [f69_L11111111110, if_pos (by simpa using h0)]
          simp only [e1, Option.bind_some, ea]
          rw [if_pos (by omega), hrd]
          simp only [Option.bind_some, w1]
          rw [if_pos (by simpa using hpos)]
          simp only [es, Option.bind_some]
          rw [if_pos (by omega), hsh]
          simp only [Option.bind_some, hSr, if_true, I.e2, et]
          rw [if_pos (by omega), hrt]
          simp only [Option.bind_some]
          rw [if_pos (by omega), I.h.rd q3 q4]
          simp only [Option.bind_some]
          rw [if_pos (by omega), q7, d1]
          simp only [Option.bind_some, e1', ea', e2', et']
          rw [if_pos (by omega), hrt']
          simp only [Option.bind_some]
          rw [if_pos (by omega), d2]
          simp only [Option.bind_some]
          rw [if_pos (by omega), d3, w2]
          rfl
        · rename_i hS
          obtain ⟨σ', r1, I', o'⟩ := ih (i - 1) st st' σ (by omega) (by omega) hl I h hx
          refine ⟨σ', EvI.step (Ev.of fun k => ?_) r1, I', o'⟩
          have hSr : rdOf false sh (rd st.1 i - 1) = false := by simpa [Sai.S] using hS
          rw [f69_L11111111110, if_pos (by simpa using h0)]
          simp only [e1, Option.bind_some, ea]
          rw [if_pos (by omega), hrd]
          simp only [Option.bind_some, w1]
          rw [if_pos (by simpa using hpos)]
          simp only [es, Option.bind_some]
          rw [if_pos (by omega), hsh]
          simp only [Option.bind_some, hSr, w2]
          rfl
      · cases h
    · rename_i hpos
      obtain ⟨σ', r1, I', o'⟩ := ih (i - 1) st st' σ (by omega) (by omega) hl I h hx
      refine ⟨σ', EvI.step (Ev.of fun k => ?_) r1, I', o'⟩
      rw [f69_L11111111110, if_pos (by simpa using h0)]
      simp only [e1, Option.bind_some, ea]
      rw [if_pos (by omega), hrd]
      simp only [Option.bind_some, w1]
      rw [if_neg (by simpa using hpos), w2]
end Go.Ab


/- The first pass of induce: rounds of a loop over slices.Backward. -/
namespace Go.Ab
open Go Go.Proofs Go.Ab.Wd Go.Ab.Bs Go.Ab.Sai
set_option linter.unusedVariables false
set_option linter.unusedSimpArgs false
abbrev rp : List Nat := [1, 1, 1, 0, 1, 0]
noncomputable abbrev rx : Code := codeAt (fnCode Try.f69) (rp ++ [0])
noncomputable abbrev ry : Code := codeAt (fnCode Try.f69) (rp ++ [1])
noncomputable abbrev robj (c1 c2 : Ptr) (st : LSt) : AObj := .loop [(5, .ptr c2), (2, .ptr c1)] [33, 34] rx ry (Func.ntmps Try.f69) st
/-- A row that none of the sorter's facts speaks of. -/
theorem Ind.aside {σ σ' : Store} {c1 c2 p : Ptr} {ht hs ha hh : Hdl} {ba bh kk : Nat} {t : List Int} {sh : List Bool} {st : Sai.St} (I : Ind σ c1 c2 p ht hs ha hh ba bh kk t sh st) {y : Nat} (k : Off y σ σ')
    (r1 : p.row ≠ some y) (r2 : c1.row ≠ some y) (r3 : c2.row ≠ some y) (r4 : ht.row ≠ some y) (r5 : hs.row ≠ some y) (r6 : ba ≠ y) (r7 : bh ≠ y) : Ind σ' c1 c2 p ht hs ha hh ba bh kk t sh st := by
  have ra : ha.row ≠ some y := by rw [I.ra]; intro e; injection e with e; exact r6 e
  have rh : hh.row ≠ some y := by rw [I.rh]; intro e; injection e with e; exact r7 e
  exact ⟨I.so.off k r1 r4 r5 (Store.Sl.off I.so.a k ra), (ldPtr_cell (cell_off k r2)).trans I.e1, (ldSl_cell (cell_off k r3)).trans I.e2, I.h.off k rh, I.wa.off k ra, I.wh.off k rh, I.ra, I.rh, I.ab, I.far⟩
theorem round1 {σ : Store} {c1 c2 p : Ptr} {ht hs ha hh : Hdl} {ba bh kk y : Nat} {t : List Int} {sh : List Bool} {st st' : Sai.St} (I : Ind σ c1 c2 p ht hs ha hh ba bh kk t sh st) {j i : Int} (hn : st.1.length < 2 ^ 62) (h : Sai.down t st i = some st')
    (hy : σ.objs[y]? = some (robj c1 c2 .ready)) (hp : σ.prot ≤ y) (r1 : p.row ≠ some y) (r2 : c1.row ≠ some y) (r3 : c2.row ≠ some y) (r4 : ht.row ≠ some y) (r5 : hs.row ≠ some y) (r6 : ba ≠ y) (r7 : bh ≠ y) :
    ∃ σ', RunsY Try.prog y [.int .i64 j, .int .i64 i] σ (.bool true) σ' ∧ Ind σ' c1 c2 p ht hs ha hh ba bh kk t sh st' ∧ Off2 ba bh σ σ' := by
  have hlt : y < σ.objs.length := (List.getElem?_eq_some_iff.1 hy).1
  have ob := setO_off σ y (robj c1 c2 .busy) hlt
  have Ib := I.aside ob r1 r2 r3 r4 r5 r6 r7
  obtain ⟨⟨q1, q2⟩, ⟨q3, q4⟩, ⟨q5, q6⟩, q7, σ1, σ2, d1, I1, d2, d3, I2, o2⟩ := down_step Ib hn h
  have hy2 : σ2.objs[y]? = some (robj c1 c2 .busy) := by rw [o2.off y (Ne.symm r6) (Ne.symm r7), setO_get σ y _ hlt, if_pos rfl]
  have hlt2 : y < σ2.objs.length := (List.getElem?_eq_some_iff.1 hy2).1
  have or := setO_off σ2 y (robj c1 c2 .ready) hlt2
  have hx : ∀ k, evCode Try.prog (gm Try.prog k) drawn k (Func.ntmps Try.f69) false rx ⟨liveC ry ⟨0, 0, []⟩, 0, []⟩ (roundFr [33, 34] [.int .i64 j, .int .i64 i] [(5, .ptr c2), (2, .ptr c1)]) σ (fun e φ1 σ1 => some ((e, φ1, σ1) : LX)) =
      some (.normal, [(7, AV.int .i64 i), (34, AV.int .i64 i), (33, AV.int .i64 j), (5, AV.ptr c2), (2, AV.ptr c1)], σ) := fun k => f69_RX111010 (gm Try.prog k) k σ c2 c1 j i
  refine ⟨σ2.setO y (robj c1 c2 .ready), RunsY.intro hy hp rfl (by kernel_rfl) hx (Ev.of fun k => ?_) hy2, I2.aside or r1 r2 r3 r4 r5 r6 r7, ?_⟩
  · have hsel : Fr.sel [(7, AV.int .i64 i), (34, AV.int .i64 i), (33, AV.int .i64 j), (5, AV.ptr c2), (2, AV.ptr c1)] (liveC ry ⟨0, 0, []⟩) (Func.ntmps Try.f69) = [(7, AV.int .i64 i), (5, AV.ptr c2), (2, AV.ptr c1)] := by kernel_rfl
    rw [hsel]
    refine Eq.trans (f69_RY111010 (gm Try.prog k) k (σ.setO y (robj c1 c2 .busy)) i c2 c1) ?_
    obtain ⟨x, hpx⟩ := I.so.nn
    have lt := Ib.so.t.ilen
    have lh := Ib.h.ilen
    have la := Ib.so.a.ilen
    have e1 := Ib.e1
    have et := Ib.so.t_
    have e1' := I1.e1
    have ea' := I1.so.a_
    have e2' := I1.e2
    rw [hpx] at e1 et e1' ea'
    simp only [e1, Option.bind_some, et, Ib.e2]
    rw [if_pos (by omega), Ib.so.t.rd q1 q2]
    simp only [Option.bind_some]
    rw [if_pos (by omega), Ib.h.rd q3 q4]
    simp only [Option.bind_some]
    rw [if_pos (by omega), q7, d1]
    simp only [Option.bind_some, e1', ea', e2']
    rw [if_pos (by omega), d2]
    simp only [Option.bind_some]
    rw [if_pos (by omega), d3]
    rfl
  · refine ⟨or.prot.trans (o2.prot.trans ob.prot), or.len.trans (o2.len.trans ob.len), fun c h1 h2 => ?_⟩
    by_cases e : c = y
    · subst e; rw [setO_get σ2 c _ hlt2, if_pos rfl, hy]
    · exact (or.off c e).trans ((o2.off c h1 h2).trans (ob.off c e))
end Go.Ab


/- induce: the row is emptied; the first pass whole. -/
namespace Go.Ab
open Go Go.Proofs Go.Ab.Wd Go.Ab.Bs Go.Ab.Sai
set_option linter.unusedVariables false
set_option linter.unusedSimpArgs false
theorem fill_loop {c1 p : Ptr} {ht hs ha hl : Hdl} {ba kk : Nat} {t : List Int} {sh : List Bool} (hn : t.length < 2 ^ 62) (ra : ha.row = some ba) (r1 : p.row ≠ some ba) (r2 : c1.row ≠ some ba) (r3 : ht.row ≠ some ba) (r4 : hs.row ≠ some ba) (m : Nat) :
    ∀ (i : Int) (sa : List Int) (σ : Store), i + m = t.length → 0 ≤ i → sa.length = t.length → (∀ j : Int, 0 ≤ j → j < i → rd sa j = -1) → Sorter σ p ht hs ha kk t sh sa → σ.Wr ha → σ.ldPtr c1 = some p →
    ∃ σ', EvI (fun k s => stepF Try.prog (gm Try.prog k) drawn k Try.f69 [1, 0, 1, 0] [19, 18, 2, 1] s) ([.int .i64 i, .int .i64 t.length, .ptr c1, .slice hl], σ) (AX.exit 0, [(2, .ptr c1), (1, .slice hl)], σ') ∧
      Sorter σ' p ht hs ha kk t sh (List.replicate t.length (-1)) ∧ σ'.Wr ha ∧ Off ba σ σ' := by
  induction m with
  | zero =>
    intro i sa σ hi h0 hl' hj S w e
    have : i = t.length := by omega
    subst this
    have : sa = List.replicate t.length (-1) := by
      refine ext_rd (by simp [hl']) fun c c0 c1' => ?_
      rw [hj c c0 (by omega)]
      obtain ⟨c, rfl⟩ := Int.eq_ofNat_of_zero_le c0
      rw [rd_getElem (by simp; omega)]
      simp
    subst this
    exact ⟨σ, EvI.done (Ev.of fun k => by rw [f69_L1010]; simp), S, w, Off.refl _ _⟩
  | succ m ih =>
    intro i sa σ hi h0 hl' hj S w e
    have la := S.a.ilen
    obtain ⟨x, hpx⟩ := S.nn
    obtain ⟨σ1, s1, s2, s3, s4⟩ := sti_spec S.a w h0 (by omega) (-1) ra
    have S1 := S.off s2 r1 r3 r4 s3
    obtain ⟨σ', g1, g2, g3, g4⟩ := ih (i + 1) _ σ1 (by omega) (by omega) (by simpa using hl') (fun j j0 j1 => by
      rw [rd_set h0 (by omega) j0]
      split
      · rfl
      · exact hj j j0 (by omega)) S1 s4 ((ldPtr_cell (cell_off s2 r2)).trans e)
    refine ⟨σ', EvI.step (Ev.of fun k => ?_) g1, g2, g3, s2.trans g4⟩
    have w2 : IntKind.wrap .i64 (i + 1) = i + 1 := wrap64 (by omega) (by omega)
    have ea := S.a_
    rw [hpx] at e ea
    rw [f69_L1010, if_pos (by simp; omega)]
    simp only [e, Option.bind_some, ea]
    rw [if_pos (by omega), s1, w2]
    rfl
/-- All rounds of the first pass. -/
theorem pass1_spec {σ : Store} {c1 c2 c p : Ptr} {ht hs ha hh hl : Hdl} {ba bh kk y : Nat} {t : List Int} {sh : List Bool} {lf : List Int} {st st' : Sai.St} (I : Ind σ c1 c2 p ht hs ha hh ba bh kk t sh st) (hn : t.length < 2 ^ 62) (hlf : lf.length < 2 ^ 62) (hst : st.1.length = t.length)
    (h : Sai.pass1 t lf.reverse st = some st') (hc : σ.ldSl c = some hl) (hL : σ.Ints hl lf) (rc : ∀ b, b = ba ∨ b = bh → c.row ≠ some b ∧ hl.row ≠ some b)
    (hy : σ.objs[y]? = some (robj c1 c2 .ready)) (hp : σ.prot ≤ y) (r1 : p.row ≠ some y) (r2 : c1.row ≠ some y) (r3 : c2.row ≠ some y) (r4 : ht.row ≠ some y) (r5 : hs.row ≠ some y) (r6 : ba ≠ y) (r7 : bh ≠ y) :
    ∃ σ', Runs Try.prog 60 [.yld y, .ptr c] σ (.tuple []) σ' ∧ Ind σ' c1 c2 p ht hs ha hh ba bh kk t sh st' ∧ Off2 ba bh σ σ' := by
  obtain ⟨σ', h1, s, h2, h3, h4, _⟩ := back_spec (y := y) (c := c) (h := hl) (l := lf) hlf
    (fun i σ1 => ∃ s : Sai.St, Sai.pass1 t (lf.take (i + 1).toNat).reverse s = some st' ∧ Ind σ1 c1 c2 p ht hs ha hh ba bh kk t sh s ∧ Off2 ba bh σ σ1 ∧ s.1.length = t.length)
    (by
      rintro i σ1 ⟨s, _, _, o, _⟩
      have ka : ∀ b, c.row = some b → σ1.objs[b]? = σ.objs[b]? := fun b hb => o.off b (fun e => (rc ba (.inl rfl)).1 (by rw [hb, e])) (fun e => (rc bh (.inr rfl)).1 (by rw [hb, e]))
      refine ⟨?_, hL.keep fun b o' hb => o.off b (fun e => (rc ba (.inl rfl)).2 (by simp [Hdl.row, hb, e])) (fun e => (rc bh (.inr rfl)).2 (by simp [Hdl.row, hb, e]))⟩
      rw [← hc]
      refine ldSl_cell ?_
      cases c with
      | none => rfl
      | some x => obtain ⟨b, o'⟩ := x; simp only [Store.cell]; rw [ka b rfl])
    (by
      rintro i σ1 i0 i1 ⟨s, g1, g2, g3, g4⟩
      have e1 : (lf.take (i + 1).toNat).reverse = rd lf i :: (lf.take i.toNat).reverse := by
        obtain ⟨i, rfl⟩ := Int.eq_ofNat_of_zero_le i0
        have hi : i < lf.length := by omega
        rw [rd_getElem hi, show ((i : Int) + 1).toNat = i + 1 by omega, show ((i : Int)).toNat = i by omega, show lf.take (i + 1) = lf.take i ++ [lf[i]] by rw [List.take_add_one]; simp [hi]]
        simp
      rw [e1] at g1
      simp only [Sai.pass1] at g1
      obtain ⟨s1, d1, d2⟩ := Option.bind_eq_some_iff.1 g1
      have hy1 : σ1.objs[y]? = some (robj c1 c2 .ready) := (g3.off y (Ne.symm r6) (Ne.symm r7)).trans hy
      obtain ⟨σ2, u1, u2, u3⟩ := round1 (j := i) g2 (by omega) d1 hy1 (by rw [g3.prot]; exact hp) r1 r2 r3 r4 r5 r6 r7
      exact ⟨σ2, u1, s1, by rw [show i - 1 + 1 = i by omega]; exact d2, u2, g3.trans u3, (down_len d1).1.trans g4⟩)
    (σ := σ) ⟨st, by rw [show ((lf.length : Int) - 1 + 1).toNat = lf.length by omega, List.take_length]; exact h, I, Off2.refl _ _ _, hst⟩
  refine ⟨σ', h1, ?_, h4⟩
  simp only [show ((-1 : Int) + 1).toNat = 0 by rfl, List.take_zero, List.reverse_nil, Sai.pass1] at h2
  injection h2 with h2
  subst h2
  exact h3
end Go.Ab


/- induce, whole. -/
namespace Go.Ab
open Go Go.Proofs Go.Ab.Wd Go.Ab.Bs Go.Ab.Sai
set_option linter.unusedVariables false
set_option linter.unusedSimpArgs false
theorem box_spec {σ : Store} (hp : σ.prot ≤ σ.objs.length) (v0 v : AV) (hv : v.one = true) : (σ.push [v0] 1).stL (some (σ.objs.length, 0)) [v] 0 = some (σ.push [v] 1) := by
  rw [stL_one]
  have hg : (σ.push [v0] 1).objs[σ.objs.length]? = some (.cells [v0] true 1) := by simp [Store.push]
  have hp' : (σ.push [v0] 1).prot ≤ σ.objs.length := hp
  simp only [Store.st, hg]
  rw [if_pos ⟨⟨hp', by simp⟩, hv⟩]
  simp [Store.push]
theorem push_cell (σ : Store) (v : AV) : (σ.push [v] 1).cell (some (σ.objs.length, 0)) = some v := by simp [Store.cell, Store.push]
theorem backward_spec (σ : Store) (h : Hdl) : Runs Try.prog 39 [.slice h] σ (.func 60 [] [.ptr (some (σ.objs.length, 0))]) (σ.push [.slice h] 1) := by
  refine Runs.intro (fn := Try.f39) (by kernel_rfl) (by kernel_rfl) (Ev.of fun k => ?_)
  rw [f39_eq]
/-- The sorter, and where its rows lie. -/
structure Env (σ : Store) (c1 p : Ptr) (ht hs ha : Hdl) (ba kk : Nat) (t : List Int) (sh : List Bool) (sa : List Int) : Prop where
  so : Sorter σ p ht hs ha kk t sh sa
  e1 : σ.ldPtr c1 = some p
  wa : σ.Wr ha
  ra : ha.row = some ba
  pr : σ.prot ≤ σ.objs.length
  lt : ∀ b, p.row = some b ∨ c1.row = some b ∨ ht.row = some b ∨ hs.row = some b ∨ b = ba → b < σ.objs.length
  far : p.row ≠ some ba ∧ c1.row ≠ some ba ∧ ht.row ≠ some ba ∧ hs.row ≠ some ba
theorem Sorter.kp {σ σ' : Store} {p : Ptr} {ht hs ha : Hdl} {kk : Nat} {t : List Int} {sh : List Bool} {sa : List Int} (S : Sorter σ p ht hs ha kk t sh sa) (k : Kp σ.objs.length σ σ') : Sorter σ' p ht hs ha kk t sh sa := by
  have hl := S.lt
  have hc : ∀ n, σ'.cell (Ptr.add p n) = σ.cell (Ptr.add p n) := fun n => cell_kp k (by simpa using hl)
  exact ⟨S.nn, (ldSl_cell (hc 0)).trans S.t_, (ldInt_cell (hc 1)).trans S.k_, (ldSl_cell (hc 2)).trans S.s_, (ldSl_cell (hc 3)).trans S.a_, Store.Sl.kp S.t k, Store.Sl.kp S.s k, Store.Sl.kp S.a k⟩
theorem Store.Wr.kp {σ σ' : Store} {h : Hdl} (w : σ.Wr h) (k : Kp σ.objs.length σ σ') : σ'.Wr h := by
  obtain ⟨b, o, cs, h1, h2, h3⟩ := w
  exact ⟨b, o, cs, h1, (k.keep b (List.getElem?_eq_some_iff.1 h2).1).trans h2, by rw [k.prot]; exact h3⟩
theorem Env.kp {σ σ' : Store} {c1 p : Ptr} {ht hs ha : Hdl} {ba kk : Nat} {t : List Int} {sh : List Bool} {sa : List Int} (E : Env σ c1 p ht hs ha ba kk t sh sa) (k : Kp σ.objs.length σ σ') : Env σ' c1 p ht hs ha ba kk t sh sa :=
  ⟨E.so.kp k, (ldPtr_cell (cell_kp k fun b hb => E.lt b (.inr (.inl hb)))).trans E.e1, E.wa.kp k, E.ra, by rw [k.prot]; exact Nat.le_trans E.pr k.len, fun b hb => Nat.lt_of_lt_of_le (E.lt b hb) k.len, E.far⟩
end Go.Ab


/- induce: its end. -/
namespace Go.Ab
open Go Go.Proofs Go.Ab.Wd Go.Ab.Bs Go.Ab.Sai
set_option linter.unusedVariables false
set_option linter.unusedSimpArgs false
theorem st_box {σ : Store} {b : Nat} {v0 v : AV} (h : σ.objs[b]? = some (.cells [v0] true 1)) (hp : σ.prot ≤ b) (hv : v.one = true) : σ.stL (some (b, 0)) [v] 0 = some (σ.setO b (.cells [v] true 1)) := by
  rw [stL_one]
  simp only [Store.st, h]
  rw [if_pos ⟨⟨hp, by simp⟩, hv⟩]
  rfl
/-- The sorter at work, out of where its rows lie. -/
theorem Env.ind {σ : Store} {c1 p : Ptr} {ht hs ha : Hdl} {ba kk : Nat} {t : List Int} {sh : List Bool} {sa : List Int} (E : Env σ c1 p ht hs ha ba kk t sh sa) {c2 : Ptr} {hh : Hdl} {bh : Nat} {hd' : List Int}
    (e2 : σ.ldSl c2 = some hh) (h : σ.Ints hh hd') (wh : σ.Wr hh) (rh : hh.row = some bh) (ab : ba ≠ bh) (n1 : p.row ≠ some bh) (n2 : c1.row ≠ some bh) (n3 : ht.row ≠ some bh) (n4 : hs.row ≠ some bh) (r2 : c2.row ≠ some ba) (r3 : c2.row ≠ some bh) :
    Ind σ c1 c2 p ht hs ha hh ba bh kk t sh (sa, hd') := by
  refine ⟨E.so, E.e1, e2, h, E.wa, wh, E.ra, rh, ab, fun b hb => ?_⟩
  obtain ⟨f1, f2, f3, f4⟩ := E.far
  rcases hb with rfl | rfl
  · exact ⟨f1, f2, r2, f3, f4⟩
  · exact ⟨n1, n2, r3, n3, n4⟩
theorem Env.of_ind {σ σ0 : Store} {c1 p : Ptr} {ht hs ha : Hdl} {ba kk : Nat} {t : List Int} {sh : List Bool} {sa : List Int} (E : Env σ0 c1 p ht hs ha ba kk t sh sa) {c2 : Ptr} {hh : Hdl} {bh : Nat} {st : Sai.St}
    (I : Ind σ c1 c2 p ht hs ha hh ba bh kk t sh st) (hp : σ.prot = σ0.prot) (hl : σ0.objs.length ≤ σ.objs.length) : Env σ c1 p ht hs ha ba kk t sh st.1 :=
  ⟨I.so, I.e1, I.wa, I.ra, by rw [hp]; exact Nat.le_trans E.pr hl, fun b hb => Nat.lt_of_lt_of_le (E.lt b hb) hl, E.far⟩
theorem induce_end {σ : Store} {c1 p : Ptr} {ht hs ha : Hdl} {ba kk b5 : Nat} {t : List Int} {sh : List Bool} {sa : List Int} (E : Env σ c1 p ht hs ha ba kk t sh sa) (hn : t.length < 2 ^ 62) (hk : kk * 8 ≤ 281474976710656) (hrng : ∀ x ∈ t, 0 ≤ x ∧ x < kk)
    (hsa : sa.length = t.length) (hr : Rng t sa) {v5 : AV} (h5 : σ.objs[b5]? = some (.cells [v5] true 1)) (p5 : σ.prot ≤ b5) (n0 : ba ≠ b5) (n1 : p.row ≠ some b5) (n2 : c1.row ≠ some b5) (n3 : ht.row ≠ some b5) (n4 : hs.row ≠ some b5)
    {st' : Sai.St} (h : Sai.pass3 t sh t.length (t.length - 1) (sa, tails t kk) = some st') :
    ∃ σ', Ev (fun k => contF Try.prog (gm Try.prog k) drawn k Try.f69 [1, 1, 1, 1, 1, 1, 1, 0, 1, 0] (AX.exit 4, [(5, .ptr (some (b5, 0))), (2, .ptr c1)], σ)) (.tuple [], σ') ∧ Env σ' c1 p ht hs ha ba kk t sh st'.1 ∧
      σ'.prot = σ.prot ∧ σ.objs.length ≤ σ'.objs.length ∧ ∀ c, c < σ.objs.length → c ≠ ba → c ≠ b5 → σ'.objs[c]? = σ.objs[c]? := by
  have b5l : b5 < σ.objs.length := (List.getElem?_eq_some_iff.1 h5).1
  have ne : ∀ {r : Option Nat}, (∀ b, r = some b → b < σ.objs.length) → r ≠ some σ.objs.length := fun h e => by have := h _ e; omega
  have lp := ne fun b hb => E.lt b (.inl hb)
  have lc := ne fun b hb => E.lt b (.inr (.inl hb))
  have lt' := ne fun b hb => E.lt b (.inr (.inr (.inl hb)))
  have ls := ne fun b hb => E.lt b (.inr (.inr (.inr (.inl hb))))
  have lba := E.lt ba (.inr (.inr (.inr (.inr rfl))))
  obtain ⟨σ1, ⟨k1, r1⟩, kp1, len1, hI1, hW1⟩ := buckets_spec E.so true hn hk hrng E.pr lt'
  obtain ⟨hh, hhe⟩ : ∃ hh : Hdl, hh = ⟨some (σ.objs.length, 0), kk, some kk⟩ := ⟨_, rfl⟩
  rw [← hhe] at r1 hI1 hW1
  have hhr : hh.row = some σ.objs.length := by rw [hhe]; rfl
  have E1 := E.kp kp1
  have h51 : σ1.objs[b5]? = some (.cells [v5] true 1) := (kp1.keep b5 b5l).trans h5
  have hst := st_box (v := .slice hh) h51 (by rw [kp1.prot]; exact p5) rfl
  have o2 := setO_off σ1 b5 (.cells [.slice hh] true 1) (by omega)
  generalize hσ2 : σ1.setO b5 (.cells [.slice hh] true 1) = σ2 at hst o2
  have hc2 : σ2.cell (some (b5, 0)) = some (.slice hh) := by
    rw [← hσ2]; simp only [Store.cell]; rw [setO_get σ1 b5 _ (by omega), if_pos rfl]; rfl
  have ra : ha.row ≠ some b5 := by rw [E.ra]; intro e; injection e with e; exact n0 e
  have rh : hh.row ≠ some b5 := by rw [hhr]; intro e; injection e with e; omega
  have E2 : Env σ2 c1 p ht hs ha ba kk t sh sa :=
    ⟨E1.so.off o2 n1 n3 n4 (Store.Sl.off E1.so.a o2 ra), (ldPtr_cell (cell_off o2 n2)).trans E1.e1, E1.wa.off o2 ra, E.ra, by rw [o2.prot, o2.len]; exact E1.pr, fun b hb => by rw [o2.len]; exact E1.lt b hb, E.far⟩
  have e2' : σ2.ldSl (some (b5, 0)) = some hh := by simp only [Store.ldSl, hc2]
  have I2 := E2.ind (c2 := some (b5, 0)) (bh := σ.objs.length) e2' (Store.Sl.off hI1 o2 rh) (hW1.off o2 rh) hhr (by omega) lp lc lt' ls (by simp [Ptr.row]; omega) (by simp [Ptr.row]; omega)
  obtain ⟨σ3, g1, I3, o3⟩ := pass3_loop hn t.length (t.length - 1) (sa, tails t kk) st' σ2 (by omega) (by omega) hsa I2 h hr
  refine ⟨σ3, ?_, E2.of_ind I3 o3.prot (by rw [o3.len]; exact Nat.le_refl _), by rw [o3.prot, o2.prot, kp1.prot], by rw [o3.len, o2.len]; exact kp1.len, fun c hc c1' c2' => ?_⟩
  · obtain ⟨k2, g2⟩ := loopF_ev g1
    refine ⟨max k1 k2, fun k hk => ?_⟩
    have r1 := r1 k (by omega)
    have g2 := g2 k (by omega)
    simp only at r1 g2 ⊢
    obtain ⟨x, hpx⟩ := E.so.nn
    have e1 := I2.e1
    have ea := I2.so.a_
    have la : ha.len = sa.length := I2.so.a.ilen
    rw [hpx] at e1 ea
    have w1 : IntKind.wrap .i64 ((ha.len : Int) - 1) = (t.length : Int) - 1 := by rw [wrap64 (by omega) (by omega)]; omega
    rw [f69_X1111111010_1]
    simp only [E.e1, Option.bind_some, r1, AV.asSl, hst, e1, ea, w1, g2, f69_X11111111110_1]
  · rw [o3.off c c1' (by omega), o2.off c c2', kp1.keep c hc]
end Go.Ab


/- induce: what follows the first pass. -/
namespace Go.Ab
open Go Go.Proofs Go.Ab.Wd Go.Ab.Bs Go.Ab.Sai
set_option linter.unusedVariables false
set_option linter.unusedSimpArgs false
theorem pass2_rng {t : List Int} {sh : List Bool} (m : Nat) : ∀ {i : Int} {st st' : Sai.St}, Sai.pass2 t sh m i st = some st' → Rng t st.1 → Rng t st'.1 ∧ st'.1.length = st.1.length := by
  induction m with
  | zero => intro i st st' h hr; simp only [Sai.pass2] at h; injection h with h; subst h; exact ⟨hr, rfl⟩
  | succ m ih =>
    intro i st st' h hr
    simp only [Sai.pass2] at h
    split at h
    · obtain ⟨s1, h1, h2⟩ := Option.bind_eq_some_iff.1 h
      obtain ⟨g1, g2⟩ := ih h2 (put_rng h1 hr)
      exact ⟨g1, g2.trans (put_len h1).1⟩
    · exact ih h hr
theorem induce_mid {σ : Store} {c1 p : Ptr} {ht hs ha : Hdl} {ba kk b5 : Nat} {t : List Int} {sh : List Bool} {sa : List Int} (E : Env σ c1 p ht hs ha ba kk t sh sa) (hn : t.length < 2 ^ 62) (hk : kk * 8 ≤ 281474976710656) (hrng : ∀ x ∈ t, 0 ≤ x ∧ x < kk)
    (hsa : sa.length = t.length) (hr : Rng t sa) {v5 : AV} (h5 : σ.objs[b5]? = some (.cells [v5] true 1)) (p5 : σ.prot ≤ b5) (n0 : ba ≠ b5) (n1 : p.row ≠ some b5) (n2 : c1.row ≠ some b5) (n3 : ht.row ≠ some b5) (n4 : hs.row ≠ some b5)
    {st1 st2 st3 : Sai.St} (h1 : Sai.put t sh (sa, heads t kk) (t.length - 1) = some st1) (h2 : Sai.pass2 t sh t.length 0 st1 = some st2) (h3 : Sai.pass3 t sh t.length (t.length - 1) (st2.1, tails t kk) = some st3) :
    ∃ σ', Ev (fun k => contF Try.prog (gm Try.prog k) drawn k Try.f69 [1, 1, 1, 0, 1, 0] (AX.normal, [(5, .ptr (some (b5, 0))), (2, .ptr c1)], σ)) (.tuple [], σ') ∧ Env σ' c1 p ht hs ha ba kk t sh st3.1 ∧
      σ'.prot = σ.prot ∧ σ.objs.length ≤ σ'.objs.length ∧ ∀ c, c < σ.objs.length → c ≠ ba → c ≠ b5 → σ'.objs[c]? = σ.objs[c]? := by
  have b5l : b5 < σ.objs.length := (List.getElem?_eq_some_iff.1 h5).1
  have ne : ∀ {r : Option Nat} (m : Nat), σ.objs.length ≤ m → (∀ b, r = some b → b < σ.objs.length) → r ≠ some m := fun m hm h e => by have := h _ e; omega
  have lba := E.lt ba (.inr (.inr (.inr (.inr rfl))))
  obtain ⟨σ1, ⟨k1, r1⟩, kp1, len1, hI1, hW1⟩ := buckets_spec E.so false hn hk hrng E.pr (ne _ (Nat.le_refl _) fun b hb => E.lt b (.inr (.inr (.inl hb))))
  obtain ⟨hh, hhe⟩ : ∃ hh : Hdl, hh = ⟨some (σ.objs.length, 0), kk, some kk⟩ := ⟨_, rfl⟩
  rw [← hhe] at r1 hI1 hW1
  have hhr : hh.row = some σ.objs.length := by rw [hhe]; rfl
  have E1 := E.kp kp1
  have hbox := box_spec E1.pr (.slice Hdl.nil) (.slice hh) rfl
  have kp2 : Kp σ1.objs.length σ1 (σ1.push [.slice hh] 1) := Kp.push _ _ (Nat.le_refl _)
  have E2 := E1.kp kp2
  have hc2 : (σ1.push [.slice hh] 1).cell (some (σ1.objs.length, 0)) = some (.slice hh) := push_cell _ _
  have e2' : (σ1.push [.slice hh] 1).ldSl (some (σ1.objs.length, 0)) = some hh := by simp only [Store.ldSl, hc2]
  have I2 := E2.ind (c2 := some (σ1.objs.length, 0)) (bh := σ.objs.length) e2' (Store.Sl.kp hI1 kp2) (hW1.kp kp2) hhr (by omega)
    (ne _ (Nat.le_refl _) fun b hb => E.lt b (.inl hb)) (ne _ (Nat.le_refl _) fun b hb => E.lt b (.inr (.inl hb))) (ne _ (Nat.le_refl _) fun b hb => E.lt b (.inr (.inr (.inl hb)))) (ne _ (Nat.le_refl _) fun b hb => E.lt b (.inr (.inr (.inr (.inl hb))))) (by simp [Ptr.row]; omega) (by simp [Ptr.row]; omega)
  obtain ⟨σ3, ⟨k3, r3⟩, I3, o3⟩ := put_spec I2 (show sa.length < 2 ^ 62 by omega) h1
  have l1 := (put_len h1).1
  have rg1 := put_rng h1 hr
  obtain ⟨σ4, g4, I4, o4⟩ := pass2_loop (c5 := some (b5, 0)) hn t.length 0 st1 st2 σ3 (by omega) (Int.le_refl _) (l1.trans hsa) I3 h2 (fun x hx => (rg1 x hx).2)
  have o34 := o3.trans o4
  obtain ⟨rg2, l2⟩ := pass2_rng _ h2 rg1
  have E4 := E2.of_ind I4 o34.prot (by rw [o34.len]; exact Nat.le_refl _)
  have h54 : σ4.objs[b5]? = some (.cells [v5] true 1) := by rw [o34.off b5 (Ne.symm n0) (by omega), kp2.keep b5 (by omega), kp1.keep b5 b5l]; exact h5
  have pr4 : σ4.prot = σ.prot := by rw [o34.prot, kp2.prot, kp1.prot]
  have len4 : σ4.objs.length = σ1.objs.length + 1 := by rw [o34.len]; simp [Store.push]
  obtain ⟨σ5, ⟨k5, r5⟩, E5, pr5, len5, off5⟩ := induce_end E4 hn hk hrng (l2.trans (l1.trans hsa)) rg2 h54 (by rw [pr4]; exact p5) n0 n1 n2 n3 n4 h3
  refine ⟨σ5, ?_, E5, pr5.trans pr4, by omega, fun c hc c1' c2' => ?_⟩
  · obtain ⟨k4, g4⟩ := loopF_ev g4
    refine ⟨k1 + k3 + k4 + k5, fun k hk => ?_⟩
    have r1 := r1 k (by omega)
    have r3 := r3 k (by omega)
    have g4 := g4 k (by omega)
    have r5 := r5 k (by omega)
    simp only at r1 r3 g4 r5 ⊢
    obtain ⟨x, hpx⟩ := E.so.nn
    have e1 := I2.e1
    have et := I2.so.t_
    have lt : ht.len = t.length := I2.so.t.ilen
    have e1' := I3.e1
    have ea := I3.so.a_
    have la : ha.len = st1.1.length := I3.so.a.ilen
    rw [hpx] at e1 et e1' ea
    have w1 : IntKind.wrap .i64 ((ht.len : Int) - 1) = (t.length : Int) - 1 := by rw [wrap64 (by omega) (by omega)]; omega
    have w2 : ((ha.len : Nat) : Int) = (t.length : Int) := by rw [la, l1]; exact congrArg _ hsa
    rw [f69_RC111010]
    simp only [E.e1, Option.bind_some, r1, AV.asSl, hbox, e1, et, w1, r3, e1', ea, w2, g4, r5]
  · rw [off5 c (by omega) c1' c2', o34.off c c1' (by omega), kp2.keep c (by omega), kp1.keep c hc]
end Go.Ab


/- induce, whole. -/
namespace Go.Ab
open Go Go.Proofs Go.Ab.Wd Go.Ab.Bs Go.Ab.Sai
set_option linter.unusedVariables false
set_option linter.unusedSimpArgs false
/-- A row is laid behind all others. -/
theorem kp_laid (σ : Store) (o : AObj) : Kp σ.objs.length σ { σ with objs := σ.objs ++ [o] } := ⟨rfl, by simp, fun b hb => by simp only []; rw [List.getElem?_append_left hb]⟩
theorem induce_run {σ : Store} {p : Ptr} {ht hs ha hl : Hdl} {ba kk : Nat} {t : List Int} {sh : List Bool} {sa lf sa' : List Int} (S : Sorter σ p ht hs ha kk t sh sa) (wa : σ.Wr ha) (ra : ha.row = some ba) (pr : σ.prot ≤ σ.objs.length)
    (far : p.row ≠ some ba ∧ ht.row ≠ some ba ∧ hs.row ≠ some ba ∧ hl.row ≠ some ba) (lt : ∀ b, p.row = some b ∨ ht.row = some b ∨ hs.row = some b ∨ hl.row = some b ∨ b = ba → b < σ.objs.length) (hn : t.length < 2 ^ 62) (hk : kk * 8 ≤ 281474976710656)
    (hrng : ∀ x ∈ t, 0 ≤ x ∧ x < kk) (hsa : sa.length = t.length) (hL : σ.Ints hl lf) (hlf : lf.length < 2 ^ 62) (h : Sai.induce t sh kk lf = some sa') :
    ∃ σ', Runs Try.prog 69 [.ptr p, .slice hl] σ (.tuple []) σ' ∧ Sorter σ' p ht hs ha kk t sh sa' ∧ σ'.Wr ha ∧ σ'.prot = σ.prot ∧ σ.objs.length ≤ σ'.objs.length ∧ ∀ c, c < σ.objs.length → c ≠ ba → σ'.objs[c]? = σ.objs[c]? := by
  obtain ⟨st1, h1, h⟩ := Option.bind_eq_some_iff.1 h
  obtain ⟨st2, h2, h⟩ := Option.bind_eq_some_iff.1 h
  obtain ⟨st3, h3, h⟩ := Option.bind_eq_some_iff.1 h
  obtain ⟨st4, h4, h⟩ := Option.map_eq_some_iff.1 h
  subst h
  obtain ⟨f1, f2, f3, f4⟩ := far
  have ne : ∀ {r : Option Nat} (m : Nat), σ.objs.length ≤ m → (∀ b, r = some b → b < σ.objs.length) → r ≠ some m := fun m hm h e => by have := h _ e; omega
  have lp : ∀ b, p.row = some b → b < σ.objs.length := fun b hb => lt b (.inl hb)
  have lt' : ∀ b, ht.row = some b → b < σ.objs.length := fun b hb => lt b (.inr (.inl hb))
  have ls : ∀ b, hs.row = some b → b < σ.objs.length := fun b hb => lt b (.inr (.inr (.inl hb)))
  have ll : ∀ b, hl.row = some b → b < σ.objs.length := fun b hb => lt b (.inr (.inr (.inr (.inl hb))))
  have lba : ba < σ.objs.length := lt ba (.inr (.inr (.inr (.inr rfl))))
  -- the closure's box
  have k1 : Kp σ.objs.length σ (σ.push [.ptr p] 1) := Kp.push _ _ (Nat.le_refl _)
  have len1 : (σ.push [.ptr p] 1).objs.length = σ.objs.length + 1 := by simp [Store.push]
  have ec1 : (σ.push [.ptr p] 1).ldPtr (some (σ.objs.length, 0)) = some p := by simp only [Store.ldPtr, push_cell]
  obtain ⟨σ1, hσ1⟩ : ∃ x, x = σ.push [.ptr p] 1 := ⟨_, rfl⟩
  rw [← hσ1] at k1 len1 ec1
  have S1 := S.kp k1
  have c1f : Ptr.row (some (σ.objs.length, 0)) ≠ some ba := by simp [Ptr.row]; omega
  obtain ⟨σ2, g2, S2, w2, o2⟩ := fill_loop (hl := hl) hn ra f1 c1f f2 f3 t.length 0 sa σ1 (by omega) (Int.le_refl _) hsa (fun j j0 j1 => by omega) S1 (wa.kp k1) ec1
  have len2 := o2.len
  have E2 : Env σ2 (some (σ.objs.length, 0)) p ht hs ha ba kk t sh (List.replicate t.length (-1)) := by
    refine ⟨S2, (ldPtr_cell (cell_off o2 c1f)).trans ec1, w2, ra, by rw [o2.prot, k1.prot]; omega, fun b hb => ?_, f1, c1f, f2, f3⟩
    rcases hb with hb | hb | hb | hb | hb
    · have := lp b hb; omega
    · simp [Ptr.row] at hb; omega
    · have := lt' b hb; omega
    · have := ls b hb; omega
    · omega
  -- the buckets' ends
  obtain ⟨σ3, ⟨k3, r3⟩, kp3, len3, hI3, hW3⟩ := buckets_spec E2.so true hn hk hrng E2.pr (ne _ (by omega) lt')
  obtain ⟨hh, hhe⟩ : ∃ hh : Hdl, hh = ⟨some (σ2.objs.length, 0), kk, some kk⟩ := ⟨_, rfl⟩
  rw [← hhe] at r3 hI3 hW3
  have hhr : hh.row = some σ2.objs.length := by rw [hhe]; rfl
  have E3 := E2.kp kp3
  have hbox := box_spec E3.pr (.slice Hdl.nil) (.slice hh) rfl
  have kp4 : Kp σ3.objs.length σ3 (σ3.push [.slice hh] 1) := Kp.push _ _ (Nat.le_refl _)
  have e4 : (σ3.push [.slice hh] 1).ldSl (some (σ3.objs.length, 0)) = some hh := by simp only [Store.ldSl, push_cell]
  have len4 : (σ3.push [.slice hh] 1).objs.length = σ3.objs.length + 1 := by simp [Store.push]
  obtain ⟨σ4, hσ4⟩ : ∃ x, x = σ3.push [.slice hh] 1 := ⟨_, rfl⟩
  rw [← hσ4] at hbox kp4 e4 len4
  have E4 := E3.kp kp4
  obtain ⟨k5, r5⟩ := backward_spec σ4 hl
  have kp5 : Kp σ4.objs.length σ4 (σ4.push [.slice hl] 1) := Kp.push _ _ (Nat.le_refl _)
  have e5 : (σ4.push [.slice hl] 1).ldSl (some (σ4.objs.length, 0)) = some hl := by simp only [Store.ldSl, push_cell]
  have len5 : (σ4.push [.slice hl] 1).objs.length = σ4.objs.length + 1 := by simp [Store.push]
  obtain ⟨σ5, hσ5⟩ : ∃ x, x = σ4.push [.slice hl] 1 := ⟨_, rfl⟩
  rw [← hσ5] at r5 kp5 e5 len5
  have E5 := E4.kp kp5
  -- the loop over slices.Backward
  have kp6 := kp_laid σ5 (robj (some (σ.objs.length, 0)) (some (σ3.objs.length, 0)) .ready)
  have hy6 : ({ σ5 with objs := σ5.objs ++ [robj (some (σ.objs.length, 0)) (some (σ3.objs.length, 0)) .ready] } : Store).objs[σ5.objs.length]? = some (robj (some (σ.objs.length, 0)) (some (σ3.objs.length, 0)) .ready) := by simp
  have len6 : ({ σ5 with objs := σ5.objs ++ [robj (some (σ.objs.length, 0)) (some (σ3.objs.length, 0)) .ready] } : Store).objs.length = σ5.objs.length + 1 := by simp
  obtain ⟨σ6, hσ6⟩ : ∃ x, x = ({ σ5 with objs := σ5.objs ++ [robj (some (σ.objs.length, 0)) (some (σ3.objs.length, 0)) .ready] } : Store) := ⟨_, rfl⟩
  rw [← hσ6] at kp6 hy6 len6
  have E6 := E5.kp kp6
  have k36 : Kp σ3.objs.length σ3 σ6 := kp4.trans ((kp5.trans (kp6.mono (by omega))).mono (by omega))
  have k26 : Kp σ2.objs.length σ2 σ6 := kp3.trans (k36.mono (by omega))
  have k46 : Kp σ4.objs.length σ4 σ6 := kp5.trans (kp6.mono (by omega))
  have I6 : Ind σ6 (some (σ.objs.length, 0)) (some (σ3.objs.length, 0)) p ht hs ha hh ba σ2.objs.length kk t sh (List.replicate t.length (-1), tails t kk) :=
    E6.ind (c2 := some (σ3.objs.length, 0)) (bh := σ2.objs.length)
      ((ldSl_cell (cell_kp k46 (by intro b hb; simp [Ptr.row] at hb; omega))).trans e4) (Store.Sl.kp hI3 k36) (hW3.kp k36) hhr (by omega)
      (ne _ (by omega) lp) (by simp [Ptr.row]; omega) (ne _ (by omega) lt') (ne _ (by omega) ls) (by simp [Ptr.row]; omega) (by simp [Ptr.row]; omega)
  have e6 : σ6.ldSl (some (σ4.objs.length, 0)) = some hl := (ldSl_cell (cell_kp kp6 (by intro b hb; simp [Ptr.row] at hb; omega))).trans e5
  have hL6 : σ6.Ints hl lf := hL.keep fun b o hb => by
    have hr : hl.row = some b := by simp [Hdl.row, hb]
    have hb' := ll b hr
    rw [k26.keep b (by omega), o2.off b (fun e => f4 (by rw [hr, e])), k1.keep b hb']
  obtain ⟨σ7, r7, I7, o7⟩ := pass1_spec I6 hn hlf (by simp) h1 e6 hL6 (by
      intro b hb
      rcases hb with rfl | rfl
      · exact ⟨by simp [Ptr.row]; omega, f4⟩
      · exact ⟨by simp [Ptr.row]; omega, ne _ (by omega) ll⟩) hy6 (by rw [k26.prot, o2.prot, k1.prot]; omega)
    (ne _ (by omega) lp) (by simp [Ptr.row]; omega) (by simp [Ptr.row]; omega) (ne _ (by omega) lt') (ne _ (by omega) ls) (by omega) (by omega)
  have hy7 : σ7.objs[σ5.objs.length]? = some (robj (some (σ.objs.length, 0)) (some (σ3.objs.length, 0)) .ready) := (o7.off _ (by omega) (by omega)).trans hy6
  obtain ⟨k7, g7⟩ := range_ev (P := Try.prog) (g := 60) (a := []) (b := [.ptr (some (σ4.objs.length, 0))]) (σ := σ5) (σ' := σ7) (by rw [← hσ6]; exact r7) hy7
  have o8 := setO_off σ7 σ5.objs.length .dead (by have := o7.len; omega)
  obtain ⟨σ8, hσ8⟩ : ∃ x, x = σ7.setO σ5.objs.length .dead := ⟨_, rfl⟩
  rw [← hσ8] at o8
  have len7 := o7.len
  have len8 := o8.len
  have I8 := I7.aside o8 (ne _ (by omega) lp) (by simp [Ptr.row]; omega) (by simp [Ptr.row]; omega) (ne _ (by omega) lt') (ne _ (by omega) ls) (by omega) (by omega)
  have E8 := E6.of_ind I8 (o8.prot.trans o7.prot) (by omega)
  have h58 : σ8.objs[σ3.objs.length]? = some (.cells [.slice hh] true 1) := by
    rw [o8.off _ (by omega), o7.off _ (by omega) (by omega), k46.keep _ (by omega), hσ4]
    simp [Store.push]
  have pr8 : σ8.prot = σ.prot := by rw [o8.prot, o7.prot, k26.prot, o2.prot, k1.prot]
  have d1 : st1.1.length = t.length ∧ Rng t st1.1 := by
    have key : ∀ (l : List Int) (s s' : Sai.St), Sai.pass1 t l s = some s' → s.1.length = t.length → Rng t s.1 → s'.1.length = t.length ∧ Rng t s'.1 := by
      intro l
      induction l with
      | nil => intro s s' h h1 h2; simp only [Sai.pass1] at h; injection h with h; subst h; exact ⟨h1, h2⟩
      | cons x l ih =>
        intro s s' h h1 h2
        simp only [Sai.pass1] at h
        obtain ⟨s1, a1, a2⟩ := Option.bind_eq_some_iff.1 h
        exact ih s1 s' a2 ((down_len a1).1.trans h1) (down_rng a1 h2)
    refine key _ _ _ h1 (by simp) fun x hx => ?_
    have := (List.mem_replicate.1 hx)
    omega
  obtain ⟨σ9, ⟨k9, g9⟩, E9, pr9, len9, off9⟩ := induce_mid E8 hn hk hrng d1.1 d1.2 h58 (by omega) (by omega) (ne _ (by omega) lp) (by simp [Ptr.row]; omega) (ne _ (by omega) lt') (ne _ (by omega) ls) h2 h3 h4
  refine ⟨σ9, Runs.intro (fn := Try.f69) (by kernel_rfl) (by kernel_rfl) ?_, E9.so, E9.wa, pr9.trans pr8, by omega, fun c hc c1 => ?_⟩
  · obtain ⟨k2, g2⟩ := loopF_ev g2
    refine ⟨k2 + k3 + k5 + k7 + k9, fun k hk' => ?_⟩
    have g2 := g2 k (by omega)
    have r3 := r3 k (by omega)
    have r5 := r5 k (by omega)
    have g7 := g7 k (by omega)
    have g9 := g9 k (by omega)
    simp only at g2 r3 r5 g7 g9
    obtain ⟨x, hpx⟩ := S.nn
    have ea := S1.a_
    have la : ha.len = sa.length := S.a.ilen
    have w : ((ha.len : Nat) : Int) = (t.length : Int) := by rw [la, hsa]
    rw [hpx] at ea
    show evBody Try.prog (gm Try.prog k) drawn k Try.f69 [.ptr p, .slice hl] σ = _
    rw [f69_eq, ← hσ1]
    simp only [ec1, hpx, Option.bind_some, ea]
    rw [w, g2]
    simp only [Option.bind_some]
    rw [f69_X1010_1]
    simp only [E2.e1, Option.bind_some, r3, AV.asSl, hbox, r5, AV.asFn]
    refine (congrArg (fun z => Option.bind z _) g7).trans ?_
    simp only [Option.bind_some, ← hσ8]
    exact g9
  · rw [off9 c (by omega) c1 (by omega), o8.off c (by omega), o7.off c c1 (by omega), k26.keep c (by omega), o2.off c c1, k1.keep c hc]
end Go.Ab


/- The array of a list's suffixes, reckoned: each put among the others. -/
namespace Go.Ab.Bs
open Go.Ab.Wd
set_option linter.unusedVariables false
set_option linter.unusedSimpArgs false
instance decLlt : ∀ a b : List Int, Decidable (llt a b)
  | [], [] => .isFalse (by simp [llt])
  | [], _ :: _ => .isTrue (by simp [llt])
  | _ :: _, [] => .isFalse (by simp [llt])
  | x :: xs, y :: ys =>
    if h : x < y then .isTrue (.inl h) else if h' : x = y then
      match decLlt xs ys with
      | .isTrue k => .isTrue (.inr ⟨h', k⟩)
      | .isFalse k => .isFalse fun e => e.elim h (fun e => k e.2)
    else .isFalse fun e => e.elim h (fun e => h' e.1)
instance decSl (t : List Int) (p q : Int) : Decidable (sl t p q) := decLlt _ _
/-- So many of a list, sorted, are less than p. -/
structure Srt (t l : List Int) (n : Int) : Prop where
  rng : ∀ p ∈ l, 0 ≤ p ∧ p < n
  ord : l.Pairwise (sl t)
  all : ∀ p : Int, 0 ≤ p → p < n → p ∈ l
theorem Srt.nd {t l : List Int} {n : Int} (h : Srt t l n) : l.Nodup := by
  unfold List.Nodup
  refine h.ord.imp ?_
  intro a b hs e
  rw [e] at hs
  exact sl_irrefl t b hs
theorem Srt.len {t l : List Int} {n : Int} (h : Srt t l n) (hn : 0 ≤ n) : (l.length : Int) = n := by
  have h1 := nodup_sub_len h.nd (m := places n.toNat) (fun p hp => mem_places.2 (by have := h.rng p hp; omega))
  have h2 := nodup_sub_len (nodup_places n.toNat) (m := l) (fun p hp => by have := mem_places.1 hp; exact h.all p this.1 (by omega))
  rw [places_length] at h1 h2
  omega
theorem Srt.isSA {t l : List Int} (h : Srt t l t.length) : IsSA t l := ⟨⟨by have := h.len (by omega); omega, h.rng, h.nd⟩, h.ord⟩
theorem Srt.ins {t l : List Int} {p : Int} (h : Srt t l p) (p0 : 0 ≤ p) (p1 : p < t.length) (i : Nat) (hi : i ≤ l.length) (h1 : ∀ j : Int, 0 ≤ j → j < i → sl t (rd l j) p) (h2 : ∀ j : Int, i ≤ j → j < l.length → ¬ sl t (rd l j) p) :
    Srt t (l.take i ++ p :: l.drop i) (p + 1) := by
  have hm : ∀ q, q ∈ l.take i ++ p :: l.drop i ↔ q ∈ l ∨ q = p := by
    intro q
    rw [List.mem_append, List.mem_cons]
    have : q ∈ l ↔ q ∈ l.take i ∨ q ∈ l.drop i := by rw [← List.mem_append, List.take_append_drop]
    rw [this]
    constructor
    · rintro (h | h | h)
      · exact .inl (.inl h)
      · exact .inr h
      · exact .inl (.inr h)
    · rintro ((h | h) | h)
      · exact .inl h
      · exact .inr (.inr h)
      · exact .inr (.inl h)
  refine ⟨fun q hq => ?_, ?_, fun q q0 q1 => ?_⟩
  · rcases (hm q).1 hq with hq | rfl
    · have := h.rng q hq; omega
    · omega
  · have hlt : ∀ a ∈ l.take i, sl t a p := by
      intro a ha
      obtain ⟨j, hj, rfl⟩ := List.getElem_of_mem ha
      simp only [List.length_take] at hj
      have := h1 j (by omega) (by omega)
      rw [rd_getElem (by omega)] at this
      rw [List.getElem_take]
      exact this
    have hgt : ∀ a ∈ l.drop i, sl t p a := by
      intro a ha
      obtain ⟨j, hj, rfl⟩ := List.getElem_of_mem ha
      simp only [List.length_drop] at hj
      have hn := h2 ((i + j : Nat) : Int) (by omega) (by omega)
      rw [rd_getElem (by omega)] at hn
      rw [List.getElem_drop]
      have hr := h.rng _ (List.getElem_mem (show i + j < l.length by omega))
      rcases sl_tri (t := t) (p := l[i + j]) (q := p) hr.1 (by omega) p0 p1 (by omega) with hs | hs
      · exact absurd hs hn
      · exact hs
    rw [List.pairwise_append]
    refine ⟨h.ord.sublist (List.take_sublist _ _), List.pairwise_cons.2 ⟨hgt, h.ord.sublist (List.drop_sublist _ _)⟩, fun a ha b hb => ?_⟩
    rcases List.mem_cons.1 hb with rfl | hb
    · exact hlt a ha
    · exact sl_trans (hlt a ha) (hgt b hb)
  · rw [hm]
    by_cases e : q = p
    · exact .inr e
    · exact .inl (h.all q q0 (by omega))
/-- How many of a sorted list's first ones are less than p. -/
def lessN (t : List Int) (p : Int) : List Int → Nat
  | [] => 0
  | a :: l => if sl t a p then lessN t p l + 1 else 0
theorem lessN_spec (t : List Int) (p : Int) : ∀ l : List Int, l.Pairwise (sl t) → lessN t p l ≤ l.length ∧ (∀ j : Int, 0 ≤ j → j < lessN t p l → sl t (rd l j) p) ∧ ∀ j : Int, lessN t p l ≤ j → j < l.length → ¬ sl t (rd l j) p
  | [], _ => ⟨by simp [lessN], fun j _ h => by simp [lessN] at h; omega, fun j _ h => by simp at h; omega⟩
  | a :: l, hm => by
    obtain ⟨hi, h1, h2⟩ := lessN_spec t p l (List.pairwise_cons.1 hm).2
    have hs : ∀ j : Int, 1 ≤ j → rd (a :: l) j = rd l (j - 1) := by
      intro j hj
      unfold rd
      rw [show j.toNat = (j - 1).toNat + 1 by omega]
      simp
    simp only [lessN]
    by_cases c : sl t a p
    · rw [if_pos c]
      refine ⟨by simp; omega, fun j j0 j1 => ?_, fun j j0 j1 => ?_⟩
      · by_cases e : j = 0
        · rw [e]; exact c
        · rw [hs j (by omega)]; exact h1 (j - 1) (by omega) (by omega)
      · rw [hs j (by omega)]; exact h2 (j - 1) (by omega) (by simp at j1; omega)
    · rw [if_neg c]
      refine ⟨by simp, fun j _ _ => by omega, fun j j0 j1 hx => ?_⟩
      by_cases e : j = 0
      · rw [e] at hx; exact c hx
      · have hmem : rd (a :: l) j ∈ l := by rw [hs j (by omega)]; exact rd_mem (by omega) (by simp at j1; omega)
        exact c (sl_trans ((List.pairwise_cons.1 hm).1 _ hmem) hx)
def saUpto (t : List Int) : Nat → List Int
  | 0 => []
  | n + 1 => let l := saUpto t n; let i := lessN t n l; l.take i ++ (n : Int) :: l.drop i
theorem srt_upto (t : List Int) : ∀ n : Nat, n ≤ t.length → Srt t (saUpto t n) n
  | 0, _ => ⟨fun p hp => by simp [saUpto] at hp, .nil, fun p _ _ => by omega⟩
  | n + 1, hn => by
    have h := srt_upto t n (by omega)
    obtain ⟨hi, h1, h2⟩ := lessN_spec t n _ h.ord
    exact h.ins (by omega) (by omega) _ hi h1 h2
/-- The array of a list's suffixes. -/
def saOf (t : List Int) : List Int := saUpto t t.length
theorem saOf_spec (t : List Int) : IsSA t (saOf t) := (srt_upto t t.length (Nat.le_refl _)).isSA
theorem saOf_eq {t sa : List Int} (h : IsSA t sa) : saOf t = sa := IsSA.uniq (saOf_spec t) h
end Go.Ab.Bs


/- What the sorter does, plainly: names of pieces, short places, the left ones; sorting whole. -/
namespace Go.Ab.Sai
open Go.Ab.Wd Go.Ab.Bs
set_option linter.unusedVariables false
set_option linter.unusedSimpArgs false
def lfB (short : List Bool) (p : Int) : Bool := decide (0 < p) && (rdOf false short p && !rdOf false short (p - 1))
theorem lfB_iff (short : List Bool) (p : Int) : lfB short p = true ↔ Lf short p := by simp [lfB, Lf, S]
def sm (t : List Int) (short : List Bool) (a b : Int) : Nat → Int → Bool
  | 0, _ => false
  | m + 1, i =>
    if a + i < t.length ∧ b + i < t.length ∧ rd t (a + i) = rd t (b + i) ∧ S short (a + i) = S short (b + i) then
      if 0 < i ∧ (lfB short (a + i) = true ∨ lfB short (b + i) = true) then lfB short (a + i) && lfB short (b + i) else sm t short a b m (i + 1)
    else false
theorem code_iff (t : List Int) (short : List Bool) (p q : Int) : code t short p = code t short q ↔ rd t p = rd t q ∧ S short p = S short q := by
  constructor
  · exact code_eq
  · rintro ⟨h1, h2⟩; unfold code; rw [h1, h2]
theorem sm_spec {t : List Int} {short : List Bool} (sh : Short t short) {a b : Int} (a0 : 0 ≤ a) (b0 : 0 ≤ b) (hne : a ≠ b) : ∀ (m : Nat) (i : Int), 0 ≤ i → a + i ≤ t.length → b + i ≤ t.length → (t.length : Int) < max a b + i + m →
    (sm t short a b m i = true ↔ if i = 0 then B1 t short a = B1 t short b else A1 t short (a + i) = A1 t short (b + i))
  | 0, i, i0, ha, hb, hm => by omega
  | m + 1, i, i0, ha, hb, hm => by
    have ih := sm_spec sh a0 b0 hne m (i + 1) (by omega)
    simp only [sm]
    rw [if_neg (show ¬ i + 1 = 0 by omega)] at ih
    have key : ∀ x y : Int, x = a + i → y = b + i → (x < t.length → y < t.length → (code t short x = code t short y ↔ rd t x = rd t y ∧ S short x = S short y)) := fun x y _ _ _ _ => code_iff t short x y
    obtain ⟨x, hx⟩ : ∃ x, a + i = x := ⟨_, rfl⟩
    obtain ⟨y, hy⟩ : ∃ y, b + i = y := ⟨_, rfl⟩
    rw [show a + (i + 1) = x + 1 by omega, show b + (i + 1) = y + 1 by omega] at ih
    simp only [hx, hy] at ha hb ⊢
    have hnn : ∀ {p : Int}, p < t.length → A1 t short p ≠ [] := fun {p} hp => by
      by_cases hl : Lf short p
      · rw [A1_left hp hl]; simp
      · rw [A1_other hp hl]; simp
    have hhd : ∀ {p : Int}, p < t.length → (A1 t short p).head? = some (code t short p) := fun {p} hp => by
      by_cases hl : Lf short p
      · rw [A1_left hp hl]; simp
      · rw [A1_other hp hl]; simp
    by_cases i00 : i = 0
    · rw [if_pos i00]
      have ea : x = a := by omega
      have eb : y = b := by omega
      rw [← ea, ← eb] at ih ⊢
      by_cases cx : x < t.length
      · by_cases cy : y < t.length
        · rw [B1_cons cx, B1_cons cy]
          by_cases ce : rd t x = rd t y ∧ S short x = S short y
          · rw [if_pos ⟨cx, cy, ce⟩, if_neg (by omega), ih (by omega) (by omega) (by omega), List.cons.injEq, (code_iff t short x y).2 ce]
            simp
          · rw [if_neg (by rintro ⟨_, _, h⟩; exact ce h), List.cons.injEq, code_iff]
            simp [ce]
        · have : y = t.length := by omega
          rw [if_neg (by rintro ⟨_, h, _⟩; exact cy h), B1_cons cx]
          unfold B1
          rw [if_neg cy]
          simp
      · rw [if_neg (by rintro ⟨h, _⟩; exact cx h)]
        have cy : y < t.length := by omega
        rw [B1_cons cy]
        unfold B1
        rw [if_neg cx]
        simp
    · rw [if_neg i00]
      by_cases cx : x < t.length
      · by_cases cy : y < t.length
        · by_cases ce : rd t x = rd t y ∧ S short x = S short y
          · rw [if_pos ⟨cx, cy, ce⟩]
            have hcode := (code_iff t short x y).2 ce
            have hlast : ∀ p q : Int, q < t.length → S short p = true → S short p = S short q → A1 t short (q + 1) ≠ [] := fun p q hq h1 h2 h3 => by
              have : ¬ q + 1 < t.length := fun h => hnn h h3
              have e : q = t.length - 1 := by omega
              rw [h1, e, sh.last] at h2
              cases h2
            by_cases l1 : Lf short x
            · have b1 := (lfB_iff short x).2 l1
              by_cases l2 : Lf short y
              · have b2 := (lfB_iff short y).2 l2
                rw [if_pos ⟨by omega, .inl b1⟩, b1, b2, A1_left cx l1, A1_left cy l2, hcode]
                simp
              · have b2 : lfB short y = false := by rw [Bool.eq_false_iff]; exact fun h => l2 ((lfB_iff short y).1 h)
                rw [if_pos ⟨by omega, .inl b1⟩, b1, b2, A1_left cx l1, A1_other cy l2, hcode]
                have := hlast x y cy l1.2.1 ce.2
                simp [Ne.symm this]
            · have b1 : lfB short x = false := by rw [Bool.eq_false_iff]; exact fun h => l1 ((lfB_iff short x).1 h)
              by_cases l2 : Lf short y
              · have b2 := (lfB_iff short y).2 l2
                rw [if_pos ⟨by omega, .inr b2⟩, b1, b2, A1_other cx l1, A1_left cy l2, hcode]
                have := hlast y x cx l2.2.1 ce.2.symm
                simp [this]
              · have b2 : lfB short y = false := by rw [Bool.eq_false_iff]; exact fun h => l2 ((lfB_iff short y).1 h)
                rw [if_neg (by rw [b1, b2]; simp), ih (by omega) (by omega) (by omega), A1_other cx l1, A1_other cy l2, hcode]
                simp
          · rw [if_neg (by rintro ⟨_, _, h⟩; exact ce h)]
            have : A1 t short x ≠ A1 t short y := fun e => by
              have h1 := hhd cx
              rw [e, hhd cy] at h1
              injection h1 with h1
              exact ce ((code_iff t short x y).1 h1.symm)
            simp [this]
        · rw [if_neg (by rintro ⟨_, h, _⟩; exact cy h), A1_end (show (t.length : Int) ≤ y by omega)]
          have := hnn cx
          simp [this]
      · rw [if_neg (by rintro ⟨h, _⟩; exact cx h), A1_end (show (t.length : Int) ≤ x by omega)]
        have cy : y < t.length := by omega
        have := hnn cy
        simp [Ne.symm this]
/-! ### which places are short -/
def shF : List Int → List Bool
  | [] => []
  | [_] => [false]
  | x :: y :: r => (decide (x < y) || (decide (x = y) && (shF (y :: r)).headD false)) :: shF (y :: r)
theorem shF_length : ∀ t : List Int, (shF t).length = t.length
  | [] => rfl
  | [_] => rfl
  | x :: y :: r => by simp [shF, shF_length (y :: r)]
theorem S_cons_zero (b : Bool) (l : List Bool) : S (b :: l) 0 = b := by simp [S, rdOf]
theorem S_cons_succ (b : Bool) (l : List Bool) {p : Int} (hp : 0 ≤ p) : S (b :: l) (p + 1) = S l p := by
  unfold S rdOf
  rw [show (p + 1).toNat = p.toNat + 1 by omega]
  simp
theorem shF_head (t : List Int) : S (shF t) 0 = (shF t).headD false := by cases h : shF t <;> simp [S, rdOf]
theorem rd_cons_zero (x : Int) (l : List Int) : rd (x :: l) 0 = x := by simp [rd]
theorem rd_cons_succ (x : Int) (l : List Int) {p : Int} (hp : 0 ≤ p) : rd (x :: l) (p + 1) = rd l p := by
  unfold rd
  rw [show (p + 1).toNat = p.toNat + 1 by omega]
  simp
theorem shF_short : ∀ t : List Int, 0 < t.length → Short t (shF t)
  | [], h => absurd h (by simp)
  | [x], _ => ⟨rfl, by simp [shF, S, rdOf], fun p p0 p1 => by simp at p1; omega⟩
  | x :: y :: r, _ => by
    have ih := shF_short (y :: r) (by simp)
    refine ⟨shF_length _, ?_, fun p p0 p1 => ?_⟩
    · have e : ((x :: y :: r).length : Int) - 1 = (((y :: r).length : Int) - 1) + 1 := by simp
      rw [e, shF, S_cons_succ _ _ (by simp)]
      exact ih.last
    · by_cases h : p = 0
      · subst h
        rw [shF, S_cons_zero, show (0 : Int) + 1 = 0 + 1 from rfl, S_cons_succ _ _ (by omega), shF_head, rd_cons_zero, rd_cons_succ _ _ (by omega), rd_cons_zero]
      · obtain ⟨q, rfl⟩ : ∃ q, p = q + 1 := ⟨p - 1, by omega⟩
        have := ih.step q (by omega) (by simp at p1 ⊢; omega)
        rw [shF, S_cons_succ _ _ (by omega), rd_cons_succ _ _ (by omega), rd_cons_succ _ _ (by omega), S_cons_succ _ _ (by omega)]
        exact this
/-- Short from j on, nothing ahead. -/
def shU (t : List Int) (j : Nat) : List Bool := List.replicate j false ++ shF (t.drop j)
theorem shU_zero (t : List Int) : shU t 0 = shF t := by simp [shU]
theorem shU_last {t : List Int} (h : 0 < t.length) : shU t (t.length - 1) = List.replicate t.length false := by
  obtain ⟨m, hm⟩ : ∃ m, t.length = m + 1 := ⟨t.length - 1, by omega⟩
  have : t.drop (t.length - 1) = [t[t.length - 1]] := by
    rw [List.drop_eq_getElem_cons (by omega), List.drop_eq_nil_of_le (by omega)]
  unfold shU
  rw [this, shF, hm]
  simp [List.replicate_succ']
theorem S_shU {t : List Int} {j : Nat} {p : Int} (hp : (j : Int) ≤ p) : S (shU t j) p = S (shF (t.drop j)) (p - j) := by
  unfold S rdOf shU
  rw [List.getD_eq_getElem?_getD, List.getD_eq_getElem?_getD, List.getElem?_append_right (by simp; omega)]
  congr 2
  simp
theorem shU_step {t : List Int} {j : Nat} (hj : j + 1 < t.length) : (shU t (j + 1)).set j (decide (rd t j < rd t (j + 1)) || (decide (rd t j = rd t (j + 1)) && S (shU t (j + 1)) (j + 1))) = shU t j := by
  have e1 : t.drop j = t[j] :: t[j + 1] :: t.drop (j + 2) := by rw [List.drop_eq_getElem_cons (by omega), List.drop_eq_getElem_cons (by omega)]
  have e2 : t.drop (j + 1) = t[j + 1] :: t.drop (j + 2) := by rw [List.drop_eq_getElem_cons (by omega)]
  have h1 : rd t j = t[j] := rd_getElem (by omega)
  have h2 : rd t ((j : Int) + 1) = t[j + 1] := by have := rd_getElem (l := t) (i := j + 1) (by omega); rw [← this]; congr 1
  rw [S_shU (by omega), show ((j : Int) + 1 - ((j + 1 : Nat) : Int)) = 0 by omega, shF_head, h1, h2]
  unfold shU
  rw [List.replicate_succ', List.append_assoc, List.set_append_right _ _ (by simp), List.length_replicate, Nat.sub_self, e1, shF, e2]
  simp
def lefU (short : List Bool) (j : Nat) : List Int := (places j).filter fun p => lfB short p
theorem places_succ (j : Nat) : places (j + 1) = places j ++ [(j : Int)] := by simp [places, List.range_succ]
theorem lefU_yes {short : List Bool} {j : Nat} (h : lfB short j = true) : lefU short (j + 1) = lefU short j ++ [(j : Int)] := by
  unfold lefU; rw [places_succ, List.filter_append]; simp [h]
theorem lefU_no {short : List Bool} {j : Nat} (h : lfB short j = false) : lefU short (j + 1) = lefU short j := by
  unfold lefU; rw [places_succ, List.filter_append]; simp [h]
theorem lefU_length (short : List Bool) (j : Nat) : (lefU short j).length ≤ j := by
  have := List.length_filter_le (fun p => lfB short p) (places j)
  rw [places_length] at this
  exact this

theorem lefU_mem {short : List Bool} {j : Nat} {p : Int} : p ∈ lefU short j ↔ (0 ≤ p ∧ p < j) ∧ Lf short p := by
  unfold lefU; rw [List.mem_filter, mem_places, lfB_iff]
theorem places_asc (n : Nat) : (places n).Pairwise (· < ·) := by
  unfold places; rw [List.pairwise_map]; exact List.pairwise_lt_range.imp fun h => by simpa using h
theorem lefU_asc (t : List Int) (short : List Bool) : Asc t short (lefU short t.length) :=
  ⟨⟨(nodup_places _).filter _, fun p => by rw [lefU_mem]⟩, (places_asc _).filter _⟩
theorem lefU_lt {short : List Bool} {n : Nat} (h : 0 < n) : (lefU short n).length < n := by
  have h1 := nodup_sub_len (l := 0 :: lefU short n) (m := places n) (List.nodup_cons.2 ⟨fun h => by
    have := (lefU_mem.1 h).2.1; omega, (nodup_places _).filter _⟩) (fun p hp => by
      rcases List.mem_cons.1 hp with rfl | hp
      · exact mem_places.2 ⟨by omega, by omega⟩
      · exact mem_places.2 (lefU_mem.1 hp).1)
  rw [places_length, List.length_cons] at h1
  omega
def smB (t : List Int) (short : List Bool) (a b : Int) : Bool := sm t short a b (t.length + 1) 0
/-- Sorting, plainly. -/
theorem sort_plain {t : List Int} {kk : Nat} (hpos : 0 < t.length) (hrng : ∀ x ∈ t, 0 ≤ x ∧ x < kk) :
    ∃ sa1 nm top, induce t (shF t) kk (lefU (shF t) t.length) = some sa1 ∧ IsPerm t.length sa1 ∧ name (lfB (shF t)) (smB t (shF t)) sa1 (List.replicate t.length 0) (-1) (-1) = (nm, top) ∧ nm.length = t.length ∧ -1 ≤ top ∧ top < t.length ∧
      (∀ x ∈ (lefU (shF t) t.length).map (rd nm), 0 ≤ x ∧ x ≤ top) ∧ induce t (shF t) kk ((saOf ((lefU (shF t) t.length).map (rd nm))).map (rd (lefU (shF t) t.length))) = some (saOf t) := by
  have sh := shF_short t hpos
  have asc := lefU_asc t (shF t)
  obtain ⟨sa1, e1, hp, ho⟩ := first_pass hpos hrng sh asc.toLefts
  have hord : sa1.Pairwise (fun p q => le (B1 t (shF t) p) (B1 t (shF t) q)) := by
    rw [List.pairwise_iff_getElem]
    intro i j hi hj hij
    have := ho i j (by omega) (by omega) (by have := hp.len; omega)
    rwa [rd_getElem hi, rd_getElem hj] at this
  obtain ⟨nm, top, last, e2, inv, ht⟩ := name_spec (t := t) (short := shF t) (lfB (shF t)) (smB t (shF t)) (fun p _ _ => lfB_iff _ p) (fun p q p0 p1 q0 q1 _ _ hne => by
      have := sm_spec sh p0 q0 hne (t.length + 1) 0 (Int.le_refl _) (by omega) (by omega) (by omega)
      rwa [if_pos rfl] at this) sa1 [] (List.replicate t.length 0) (-1) (-1) (fun p hp' => hp.rng p (by simpa using hp')) (by simpa using hp.nd) (by simpa using hord)
      ⟨by simp, by simp, by simp, .inl ⟨by omega, rfl, by simp⟩, by omega⟩
  rw [List.nil_append] at inv
  have hn : Names t (shF t) nm top := ⟨fun p p0 p1 hl => inv.rng p (hp.mem p0 p1) hl, fun p q p0 p1 q0 q1 hlp hlq => inv.lt p (hp.mem p0 p1) q (hp.mem q0 q1) hlp hlq⟩
  obtain ⟨sa2, e3, hsa⟩ := second_pass hpos hrng sh asc hn (saOf_spec _)
  rw [saOf_eq hsa]
  refine ⟨sa1, nm, top, e1, hp, e2, inv.len, inv.top_, by have := hp.len; omega, fun x hx => ?_, e3⟩
  obtain ⟨p, hp', rfl⟩ := List.mem_map.1 hx
  have := lefU_mem.1 hp'
  exact hn.rng p this.1.1 this.1.2 this.2
end Go.Ab.Sai


/- same. -/
namespace Go.Ab
open Go Go.Proofs Go.Ab.Wd Go.Ab.Bs Go.Ab.Sai
set_option linter.unusedVariables false
set_option linter.unusedSimpArgs false
set_option maxHeartbeats 1000000 in
theorem same_loop {σ : Store} {p : Ptr} {ht hs ha : Hdl} {kk : Nat} {t : List Int} {sh : List Bool} {sa : List Int} (S : Sorter σ p ht hs ha kk t sh sa) (hn : t.length < 2 ^ 61) (hl : sh.length = t.length) {a b : Int} (a0 : 0 ≤ a) (b0 : 0 ≤ b) (m : Nat) :
    ∀ i : Int, 0 ≤ i → a + i ≤ t.length → b + i ≤ t.length → (t.length : Int) < max a b + i + m →
      EvI (fun k s => stepF Try.prog (gm Try.prog k) drawn k Try.f70 [1, 1, 0] [7, 2, 1, 0] s) ([.int .i64 i, .int .i64 b, .int .i64 a, .ptr p], σ) (AX.ret, [(6, .bool (sm t sh a b m i))], σ) := by
  induction m with
  | zero => intro i i0 ia ib im; omega
  | succ m ih =>
    intro i i0 ia ib im
    obtain ⟨x, rfl⟩ := S.nn
    have w1 : IntKind.wrap .i64 (a + i) = a + i := wrap64 (by omega) (by omega)
    have w2 : IntKind.wrap .i64 (b + i) = b + i := wrap64 (by omega) (by omega)
    have w3 : IntKind.wrap .i64 (i + 1) = i + 1 := wrap64 (by omega) (by omega)
    have lt := S.t.ilen
    have ls := S.s.blen
    have eq := fun (Γ : Gam) k => f70_L110 Γ k σ i b a (some x)
    by_cases c1 : a + i < t.length
    · by_cases c2 : b + i < t.length
      · obtain ⟨k1, r1⟩ := left_spec S (show 0 ≤ a + i by omega) (by omega) (by omega)
        obtain ⟨k2, r2⟩ := left_spec S (show 0 ≤ b + i by omega) (by omega) (by omega)
        have n1 : 0 ≤ a + i := by omega
        have n2 : 0 ≤ b + i := by omega
        have i1 := ih (i + 1) (by omega) (by omega) (by omega) (by omega)
        have hA : lft sh (a + i) = lfB sh (a + i) := rfl
        have hB : lft sh (b + i) = lfB sh (b + i) := rfl
        rw [hA] at r1
        rw [hB] at r2
        have main : ∀ k, k1 + k2 ≤ k → stepF Try.prog (gm Try.prog k) drawn k Try.f70 [1, 1, 0] [7, 2, 1, 0] ([.int .i64 i, .int .i64 b, .int .i64 a, .ptr (some x)], σ) =
            if rd t (a + i) = rd t (b + i) ∧ Sai.S sh (a + i) = Sai.S sh (b + i) then
              if 0 < i ∧ (lfB sh (a + i) = true ∨ lfB sh (b + i) = true) then some (.inr (AX.ret, [(6, .bool (lfB sh (a + i) && lfB sh (b + i)))], σ)) else some (.inl ([.int .i64 (i + 1), .int .i64 b, .int .i64 a, .ptr (some x)], σ))
            else some (.inr (AX.ret, [(6, .bool false)], σ)) := by
          intro k hk
          have r1 := r1 k (by omega)
          have r2 := r2 k (by omega)
          simp only at r1 r2
          have hta := S.t.rd (show 0 ≤ a + i by omega) c1
          have htb := S.t.rd (show 0 ≤ b + i by omega) c2
          have hsa := S.s.rd (show 0 ≤ a + i by omega) (by omega)
          have hsb := S.s.rd (show 0 ≤ b + i by omega) (by omega)
          rw [eq]
          have eS : ∀ q, Sai.S sh q = rdOf false sh q := fun _ => rfl
          rw [eS, eS]
          by_cases c3 : rd t (a + i) = rd t (b + i)
          · cases h3 : rdOf false sh (a + i) <;> cases h4 : rdOf false sh (b + i) <;> rw [h3] at hsa <;> rw [h4] at hsb
            all_goals try (simp only [Option.bind_some, decide_eq_true_eq, decide_eq_false_iff_not, Bool.not_eq_true', Bool.not_true, Bool.not_false, Bool.false_eq_true, Bool.true_eq_false, Bool.not_eq_eq_eq_not, beq_self_eq_true, beqFT, beqTF, decide_true, decide_false, not_false_eq_true, not_true_eq_false, ne_eq, true_and, and_true, false_and, and_false, and_self, if_true, if_false, ite_true, ite_false, Bool.and_true, Bool.and_false, Bool.true_and, Bool.false_and, Bool.or_true, Bool.true_or, Bool.or_false, Bool.false_or, or_true, true_or, or_false, false_or, or_self, AV.asInt, AV.asBool, AV.asSl, AV.asPtr, AV.asFn, AV.asStr, AV.asMap, AV.asIfc, AV.item, List.length_cons, List.length_nil, List.getElem?_cons_zero, List.getElem?_cons_succ, Nat.zero_add, S.t_, S.s_, w1, w2, w3, hta, htb, hsa, hsb, lt, ls, c1, c2, n1, n2, c3, hl]<;> done)
            all_goals
              by_cases c5 : 0 < i
              · cases h1 : lfB sh (a + i) <;> cases h2 : lfB sh (b + i) <;> rw [h1] at r1 <;> rw [h2] at r2 <;>
                simp only [Option.bind_some, decide_eq_true_eq, decide_eq_false_iff_not, Bool.not_eq_true', Bool.not_true, Bool.not_false, Bool.false_eq_true, Bool.true_eq_false, Bool.not_eq_eq_eq_not, beq_self_eq_true, beqFT, beqTF, decide_true, decide_false, not_false_eq_true, not_true_eq_false, ne_eq, true_and, and_true, false_and, and_false, and_self, if_true, if_false, ite_true, ite_false, Bool.and_true, Bool.and_false, Bool.true_and, Bool.false_and, Bool.or_true, Bool.true_or, Bool.or_false, Bool.false_or, or_true, true_or, or_false, false_or, or_self, AV.asInt, AV.asBool, AV.asSl, AV.asPtr, AV.asFn, AV.asStr, AV.asMap, AV.asIfc, AV.item, List.length_cons, List.length_nil, List.getElem?_cons_zero, List.getElem?_cons_succ, Nat.zero_add, S.t_, S.s_, w1, w2, w3, hta, htb, hsa, hsb, lt, ls, c1, c2, n1, n2, c3, c5, r1, r2, hl, or_true, true_or, or_false, or_self]
              · simp only [Option.bind_some, decide_eq_true_eq, decide_eq_false_iff_not, Bool.not_eq_true', Bool.not_true, Bool.not_false, Bool.false_eq_true, Bool.true_eq_false, Bool.not_eq_eq_eq_not, beq_self_eq_true, beqFT, beqTF, decide_true, decide_false, not_false_eq_true, not_true_eq_false, ne_eq, true_and, and_true, false_and, and_false, and_self, if_true, if_false, ite_true, ite_false, Bool.and_true, Bool.and_false, Bool.true_and, Bool.false_and, Bool.or_true, Bool.true_or, Bool.or_false, Bool.false_or, or_true, true_or, or_false, false_or, or_self, AV.asInt, AV.asBool, AV.asSl, AV.asPtr, AV.asFn, AV.asStr, AV.asMap, AV.asIfc, AV.item, List.length_cons, List.length_nil, List.getElem?_cons_zero, List.getElem?_cons_succ, Nat.zero_add, S.t_, S.s_, w1, w2, w3, hta, htb, hsa, hsb, lt, ls, c1, c2, n1, n2, c3, c5, hl]
          · simp only [Option.bind_some, decide_eq_true_eq, decide_eq_false_iff_not, Bool.not_eq_true', Bool.not_true, Bool.not_false, Bool.false_eq_true, Bool.true_eq_false, Bool.not_eq_eq_eq_not, beq_self_eq_true, beqFT, beqTF, decide_true, decide_false, not_false_eq_true, not_true_eq_false, ne_eq, true_and, and_true, false_and, and_false, and_self, if_true, if_false, ite_true, ite_false, Bool.and_true, Bool.and_false, Bool.true_and, Bool.false_and, Bool.or_true, Bool.true_or, Bool.or_false, Bool.false_or, or_true, true_or, or_false, false_or, or_self, AV.asInt, AV.asBool, AV.asSl, AV.asPtr, AV.asFn, AV.asStr, AV.asMap, AV.asIfc, AV.item, List.length_cons, List.length_nil, List.getElem?_cons_zero, List.getElem?_cons_succ, Nat.zero_add, S.t_, S.s_, w1, w2, w3, hta, htb, hsa, hsb, lt, ls, c1, c2, n1, n2, c3, hl]
        by_cases d1 : rd t (a + i) = rd t (b + i) ∧ Sai.S sh (a + i) = Sai.S sh (b + i)
        · by_cases d2 : 0 < i ∧ (lfB sh (a + i) = true ∨ lfB sh (b + i) = true)
          · have : sm t sh a b (m + 1) i = (lfB sh (a + i) && lfB sh (b + i)) := by simp only [sm]; rw [if_pos ⟨c1, c2, d1⟩, if_pos d2]
            rw [this]
            exact EvI.done ⟨k1 + k2, fun k hk => by simp only [main k hk]; rw [if_pos d1, if_pos d2]⟩
          · have : sm t sh a b (m + 1) i = sm t sh a b m (i + 1) := by simp only [sm]; rw [if_pos ⟨c1, c2, d1⟩, if_neg d2]
            rw [this]
            exact EvI.step ⟨k1 + k2, fun k hk => by simp only [main k hk]; rw [if_pos d1, if_neg d2]⟩ i1
        · have : sm t sh a b (m + 1) i = false := by simp only [sm]; rw [if_neg (by rintro ⟨_, _, h⟩; exact d1 h)]
          rw [this]
          exact EvI.done ⟨k1 + k2, fun k hk => by simp only [main k hk]; rw [if_neg d1]⟩
      · have : sm t sh a b (m + 1) i = false := by simp only [sm]; rw [if_neg (by rintro ⟨_, h, _⟩; exact c2 h)]
        rw [this]
        refine EvI.done (Ev.of fun k => ?_)
        rw [eq]
        simp [S.t_, w1, w2, lt, c1, c2]
    · have : sm t sh a b (m + 1) i = false := by simp only [sm]; rw [if_neg (by rintro ⟨h, _⟩; exact c1 h)]
      rw [this]
      refine EvI.done (Ev.of fun k => ?_)
      rw [eq]
      simp [S.t_, w1, w2, lt, c1]
theorem same_spec {σ : Store} {p : Ptr} {ht hs ha : Hdl} {kk : Nat} {t : List Int} {sh : List Bool} {sa : List Int} (S : Sorter σ p ht hs ha kk t sh sa) (hn : t.length < 2 ^ 61) (hl : sh.length = t.length) {a b : Int} (a0 : 0 ≤ a) (a1 : a < t.length) (b0 : 0 ≤ b) (b1 : b < t.length) :
    Runs Try.prog 70 [.ptr p, .int .i64 a, .int .i64 b] σ (.bool (smB t sh a b)) σ := by
  refine Runs.intro (fn := Try.f70) (by kernel_rfl) (by kernel_rfl) ?_
  refine (Ev.bind (loopF_ev (same_loop S hn hl a0 b0 (t.length + 1) 0 (Int.le_refl _) (by omega) (by omega) (by omega))) (Ev.of fun k => f70_X110_1 (gm Try.prog k) k σ _)).congr fun k => ?_
  rw [f70_eq]
end Go.Ab


/- sort: its loops. -/
namespace Go.Ab
open Go Go.Proofs Go.Ab.Wd Go.Ab.Bs Go.Ab.Sai
set_option linter.unusedVariables false
set_option linter.unusedSimpArgs false
theorem Store.Row.ld_ints {σ : Store} {b : Nat} {l : List Int} (r : σ.Row b 1 (intsL l)) {i : Int} (h0 : 0 ≤ i) (h1 : i < l.length) {len : Nat} {cp : Option Nat} : σ.ldInt .i64 (Hdl.idx ⟨some (b, 0), len, cp⟩ i 1) = some (rd l i) := by
  have : σ.Ints ⟨some (b, 0), l.length, cp⟩ l := r.sl (by simp)
  have := this.rd h0 h1
  simpa [Hdl.idx] using this
abbrev hdS (N n : Nat) : Hdl := ⟨some (N, 0), n, some n⟩
/-- The sorter's own rows, from N on. -/
structure SS (σ0 σ : Store) (h : Hdl) (kk : Nat) (t : List Int) (sh : List Bool) (sa : List Int) : Prop where
  kp : Kp σ0.objs.length σ0 σ
  ht : σ0.Ints h t
  rs : σ.Row σ0.objs.length 1 (boolsL sh)
  rg : σ.Row (σ0.objs.length + 2) 4 [.slice h, .int .i64 kk, .slice (hdS σ0.objs.length t.length), .slice (hdS (σ0.objs.length + 1) t.length)]
  a : σ.Ints (hdS (σ0.objs.length + 1) t.length) sa
  wa : σ.Wr (hdS (σ0.objs.length + 1) t.length)
  ls : sh.length = t.length
  la : sa.length = t.length
  pr : σ0.prot ≤ σ0.objs.length
  hh : ∀ b, h.row = some b → b < σ0.objs.length
section
variable {σ0 σ σ' : Store} {h : Hdl} {kk : Nat} {t : List Int} {sh : List Bool} {sa : List Int}
theorem SS.len (S : SS σ0 σ h kk t sh sa) : σ0.objs.length + 3 ≤ σ.objs.length := by have := S.rg.lt; omega
theorem SS.prot (S : SS σ0 σ h kk t sh sa) : σ.prot ≤ σ0.objs.length := by rw [S.kp.prot]; exact S.pr
theorem SS.sorter (S : SS σ0 σ h kk t sh sa) : Sorter σ (some (σ0.objs.length + 2, 0)) h (hdS σ0.objs.length t.length) (hdS (σ0.objs.length + 1) t.length) kk t sh sa := by
  have c := S.rg.cell
  refine ⟨⟨_, rfl⟩, ?_, ?_, ?_, ?_, Store.Sl.kp S.ht S.kp, S.rs.sl (by simp [S.ls]), S.a⟩
  · simp [Store.ldSl, Ptr.add, c]
  · simp [Store.ldInt, Ptr.add, c]
  · simp [Store.ldSl, Ptr.add, c]
  · simp [Store.ldSl, Ptr.add, c]
theorem SS.keep (S : SS σ0 σ h kk t sh sa) {n : Nat} (hn : σ0.objs.length + 3 ≤ n) (k : Kp n σ σ') : SS σ0 σ' h kk t sh sa := by
  refine ⟨S.kp.then k (by omega), S.ht, S.rs.kp k (by omega), S.rg.kp k (by omega), S.a.keep fun b o e => k.keep b ?_, ?_, S.ls, S.la, S.pr, S.hh⟩
  · simp [hdS] at e; omega
  · obtain ⟨b, o, cs, h1, h2, h3⟩ := S.wa
    have : b < n := by simp [hdS] at h1; omega
    exact ⟨b, o, cs, h1, (k.keep b this).trans h2, by rw [k.prot]; exact h3⟩
/-- The short places. -/
theorem short_loop (hn : t.length < 2 ^ 61) (m : Nat) : ∀ (σ : Store), m < t.length → SS σ0 σ h kk t (shU t m) sa → 
    ∃ σ', EvI (fun k s => stepF Try.prog (gm Try.prog k) drawn k Try.f48 [1, 1, 1, 1, 0, 1, 0] [7, 6, 5, 0] s) ([.int .i64 (m - 1), .ptr (some (σ0.objs.length + 2, 0)), .int .i64 t.length, .slice h], σ)
        (AX.exit 0, [(6, .ptr (some (σ0.objs.length + 2, 0))), (5, .int .i64 t.length), (0, .slice h)], σ') ∧ SS σ0 σ' h kk t (shF t) sa ∧ σ'.objs.length = σ.objs.length := by
  induction m with
  | zero =>
    intro σ hm S
    rw [shU_zero] at S
    exact ⟨σ, EvI.done (Ev.of fun k => by rw [f48_L1111010]; simp), S, rfl⟩
  | succ m ih =>
    intro σ hm S
    have So := S.sorter
    have es := So.s_
    have ht := So.t
    have lt := ht.ilen
    have ls := S.ls
    have i0 : (0 : Int) ≤ m := by omega
    have r1 := ht.rd i0 (by omega)
    have r2 := ht.rd (show (0 : Int) ≤ m + 1 by omega) (by omega)
    have r3 := So.s.rd (show (0 : Int) ≤ m + 1 by omega) (by omega)
    have st := fun x => st_bools (x := x) (len := t.length) (cp := some t.length) S.rs S.prot i0 (by omega)
    have w1 : IntKind.wrap .i64 ((m : Int) + 1) = m + 1 := wrap64 (by omega) (by omega)
    have w2 : IntKind.wrap .i64 ((m : Int) - 1) = m - 1 := wrap64 (by omega) (by omega)
    have S' : ∀ x, SS σ0 (σ.setO σ0.objs.length (.cells (boolsL ((shU t (m + 1)).set m x)) true 1)) h kk t ((shU t (m + 1)).set m x) sa := by
      intro x
      have hl := S.rs.lt
      refine ⟨S.kp.setO (Nat.le_refl _), S.ht, Store.Row.setO_eq hl, S.rg.setO_ne (by omega), S.a.keep fun b o e => ?_, ?_, by simpa using S.ls, S.la, S.pr, S.hh⟩
      · simp [hdS] at e
        show (σ.objs.set _ _)[b]? = _; rw [List.getElem?_set, if_neg (by omega)]
      · exact S.wa.off (setO_off σ _ _ hl) (by simp [Hdl.row, hdS])
    obtain ⟨σ', g1, g2, g3⟩ := ih _ (by omega) (by have := S' (decide (rd t m < rd t (m + 1)) || (decide (rd t m = rd t (m + 1)) && Sai.S (shU t (m + 1)) (m + 1))); rwa [shU_step (by omega)] at this)
    refine ⟨σ', EvI.step (Ev.of fun k => ?_) g1, g2, by simpa using g3⟩
    have c1 : (m : Int) < t.length := by omega
    have c2 : (m : Int) + 1 < t.length := by omega
    have c3 : (0 : Int) ≤ m + 1 := by omega
    rw [← shU_step (by omega)]
    have e1 : ((m + 1 : Nat) : Int) - 1 = m := by omega
    have eS : Sai.S (shU t (m + 1)) (m + 1) = rdOf false (shU t (m + 1)) (m + 1) := rfl
    have es' : σ.ldSl (Ptr.add (some (σ0.objs.length + 2, 0)) 2) = some (hdS σ0.objs.length t.length) := es
    rw [f48_L1111010, e1, eS]
    by_cases d1 : rd t m < rd t (m + 1)
    · simp only [Option.bind_some, decide_eq_true_eq, decide_eq_false_iff_not, Bool.not_eq_true', Bool.not_true, Bool.not_false, Bool.false_eq_true, Bool.true_eq_false, Bool.not_eq_eq_eq_not, beq_self_eq_true, beqFT, beqTF, decide_true, decide_false, not_false_eq_true, not_true_eq_false, ne_eq, true_and, and_true, false_and, and_false, and_self, if_true, if_false, ite_true, ite_false, Bool.and_true, Bool.and_false, Bool.true_and, Bool.false_and, Bool.or_true, Bool.true_or, Bool.or_false, Bool.false_or, or_true, true_or, or_false, false_or, or_self, AV.asInt, AV.asBool, AV.asSl, AV.asPtr, AV.asFn, AV.asStr, AV.asMap, AV.asIfc, AV.item, List.length_cons, List.length_nil, List.getElem?_cons_zero, List.getElem?_cons_succ, Nat.zero_add, es', r1, r2, r3, st, w1, w2, lt, c1, c2, c3, i0, d1, Int.toNat_natCast]
    · by_cases d2 : rd t m = rd t (m + 1)
      · simp only [Option.bind_some, decide_eq_true_eq, decide_eq_false_iff_not, Bool.not_eq_true', Bool.not_true, Bool.not_false, Bool.false_eq_true, Bool.true_eq_false, Bool.not_eq_eq_eq_not, beq_self_eq_true, beqFT, beqTF, decide_true, decide_false, not_false_eq_true, not_true_eq_false, ne_eq, true_and, and_true, false_and, and_false, and_self, if_true, if_false, ite_true, ite_false, Bool.and_true, Bool.and_false, Bool.true_and, Bool.false_and, Bool.or_true, Bool.true_or, Bool.or_false, Bool.false_or, or_true, true_or, or_false, false_or, or_self, AV.asInt, AV.asBool, AV.asSl, AV.asPtr, AV.asFn, AV.asStr, AV.asMap, AV.asIfc, AV.item, List.length_cons, List.length_nil, List.getElem?_cons_zero, List.getElem?_cons_succ, Nat.zero_add, es', r1, r2, r3, st, w1, w2, lt, c1, c2, c3, i0, d2, Int.lt_irrefl, Int.toNat_natCast]
      · simp only [Option.bind_some, decide_eq_true_eq, decide_eq_false_iff_not, Bool.not_eq_true', Bool.not_true, Bool.not_false, Bool.false_eq_true, Bool.true_eq_false, Bool.not_eq_eq_eq_not, beq_self_eq_true, beqFT, beqTF, decide_true, decide_false, not_false_eq_true, not_true_eq_false, ne_eq, true_and, and_true, false_and, and_false, and_self, if_true, if_false, ite_true, ite_false, Bool.and_true, Bool.and_false, Bool.true_and, Bool.false_and, Bool.or_true, Bool.true_or, Bool.or_false, Bool.false_or, or_true, true_or, or_false, false_or, or_self, AV.asInt, AV.asBool, AV.asSl, AV.asPtr, AV.asFn, AV.asStr, AV.asMap, AV.asIfc, AV.item, List.length_cons, List.length_nil, List.getElem?_cons_zero, List.getElem?_cons_succ, Nat.zero_add, es', r1, r2, r3, st, w1, w2, lt, c1, c2, c3, i0, d1, d2, Int.toNat_natCast]
/-- The left places. -/
theorem left_loop (hn : t.length < 2 ^ 41) (S : SS σ0 σ h kk t sh sa) : ∃ hl σ', EvI (fun k s => stepF Try.prog (gm Try.prog k) drawn k Try.f48 [1, 1, 1, 1, 1, 1, 0, 1, 0] [83, 82, 8, 6, 5] s)
      ([.int .i64 0, .int .i64 t.length, .slice Hdl.nil, .ptr (some (σ0.objs.length + 2, 0)), .int .i64 t.length], σ) (AX.exit 2, [(8, .slice hl), (6, .ptr (some (σ0.objs.length + 2, 0))), (5, .int .i64 t.length)], σ') ∧
      SS σ0 σ' h kk t sh sa ∧ GrowI σ' σ.objs.length hl (lefU sh t.length) ∧ Kp σ.objs.length σ σ' := by
  have key := EvI.up (f := fun k s => stepF Try.prog (gm Try.prog k) drawn k Try.f48 [1, 1, 1, 1, 1, 1, 0, 1, 0] [83, 82, 8, 6, 5] s) t.length
    (fun i s => ∃ hl σ1, s = ([.int .i64 i, .int .i64 t.length, .slice hl, .ptr (some (σ0.objs.length + 2, 0)), .int .i64 t.length], σ1) ∧ SS σ0 σ1 h kk t sh sa ∧ GrowI σ1 σ.objs.length hl (lefU sh i) ∧ Kp σ.objs.length σ σ1)
    (fun r => ∃ hl σ', r = (AX.exit 2, [(8, .slice hl), (6, .ptr (some (σ0.objs.length + 2, 0))), (5, .int .i64 t.length)], σ') ∧ SS σ0 σ' h kk t sh sa ∧ GrowI σ' σ.objs.length hl (lefU sh t.length) ∧ Kp σ.objs.length σ σ')
    (by
      rintro i s hi ⟨hl, σ1, rfl, S1, g, k1⟩
      have hlen := S1.len
      have hpr := S1.prot
      have i1 : (i : Int) < t.length := by omega
      have w1 : IntKind.wrap .i64 ((i : Int) + 1) = (i + 1 : Nat) := wrap64 (by omega) (by omega)
      obtain ⟨k0, r0⟩ := left_spec S1.sorter (show (0 : Int) ≤ i by omega) (by have := S1.ls; omega) (by have := S1.ls; omega)
      have hA : lft sh i = lfB sh i := rfl
      rw [hA] at r0
      cases hb : lfB sh i with
      | false =>
        rw [hb] at r0
        refine ⟨_, ⟨k0, fun k hk => ?_⟩, hl, σ1, rfl, S1, by rw [lefU_no hb]; exact g, k1⟩
        have r0 := r0 k hk
        simp only at r0
        simp only [f48_L111111010]
        simp only [Option.bind_some, decide_eq_true_eq, decide_eq_false_iff_not, Bool.not_eq_true', Bool.not_true, Bool.not_false, Bool.false_eq_true, Bool.true_eq_false, Bool.not_eq_eq_eq_not, beq_self_eq_true, beqFT, beqTF, decide_true, decide_false, not_false_eq_true, not_true_eq_false, ne_eq, true_and, and_true, false_and, and_false, and_self, if_true, if_false, ite_true, ite_false, Bool.and_true, Bool.and_false, Bool.true_and, Bool.false_and, Bool.or_true, Bool.true_or, Bool.or_false, Bool.false_or, or_true, true_or, or_false, false_or, or_self, AV.asInt, AV.asBool, AV.asSl, AV.asPtr, AV.asFn, AV.asStr, AV.asMap, AV.asIfc, AV.item, List.length_cons, List.length_nil, List.getElem?_cons_zero, List.getElem?_cons_succ, Nat.zero_add, i1, r0, w1]
      | true =>
        rw [hb] at r0
        have := lefU_length sh i
        obtain ⟨hl', σ2, e2, k2, g2⟩ := g.app (by have := k1.prot; have := S.prot; have := S.len; omega) k1.len (i : Int) (by omega)
        refine ⟨_, ⟨k0, fun k hk => ?_⟩, hl', σ2, rfl, S1.keep (by have := S.len; omega) k2, by rw [lefU_yes hb]; exact g2, k1.trans k2⟩
        have r0 := r0 k hk
        simp only at r0
        simp only [f48_L111111010]
        simp only [Option.bind_some, decide_eq_true_eq, decide_eq_false_iff_not, Bool.not_eq_true', Bool.not_true, Bool.not_false, Bool.false_eq_true, Bool.true_eq_false, Bool.not_eq_eq_eq_not, beq_self_eq_true, beqFT, beqTF, decide_true, decide_false, not_false_eq_true, not_true_eq_false, ne_eq, true_and, and_true, false_and, and_false, and_self, if_true, if_false, ite_true, ite_false, Bool.and_true, Bool.and_false, Bool.true_and, Bool.false_and, Bool.or_true, Bool.true_or, Bool.or_false, Bool.false_or, or_true, true_or, or_false, false_or, or_self, AV.asInt, AV.asBool, AV.asSl, AV.asPtr, AV.asFn, AV.asStr, AV.asMap, AV.asIfc, AV.item, List.length_cons, List.length_nil, List.getElem?_cons_zero, List.getElem?_cons_succ, Nat.zero_add, i1, r0, w1, read1, e2])
    (by
      rintro s ⟨hl, σ1, rfl, S1, g, k1⟩
      exact ⟨_, Ev.of fun k => by simp only [f48_L111111010]; simp only [Option.bind_some, decide_eq_true_eq, decide_eq_false_iff_not, Bool.not_eq_true', Bool.not_true, Bool.not_false, Bool.false_eq_true, Bool.true_eq_false, Bool.not_eq_eq_eq_not, beq_self_eq_true, beqFT, beqTF, decide_true, decide_false, not_false_eq_true, not_true_eq_false, ne_eq, true_and, and_true, false_and, and_false, and_self, if_true, if_false, ite_true, ite_false, Bool.and_true, Bool.and_false, Bool.true_and, Bool.false_and, Bool.or_true, Bool.true_or, Bool.or_false, Bool.false_or, or_true, true_or, or_false, false_or, or_self, AV.asInt, AV.asBool, AV.asSl, AV.asPtr, AV.asFn, AV.asStr, AV.asMap, AV.asIfc, AV.item, List.length_cons, List.length_nil, List.getElem?_cons_zero, List.getElem?_cons_succ, Nat.zero_add, Int.lt_irrefl], hl, σ1, rfl, S1, g, k1⟩)
    (s := ([.int .i64 0, .int .i64 t.length, .slice Hdl.nil, .ptr (some (σ0.objs.length + 2, 0)), .int .i64 t.length], σ)) ⟨Hdl.nil, σ, rfl, S, Grow.nil _ _ _, Kp.refl _ _⟩
  obtain ⟨r, e, hl, σ', rfl, h1, h2, h3⟩ := key
  exact ⟨hl, σ', e, h1, h2, h3⟩
end
end Go.Ab


/- sort: the later loops. -/
namespace Go.Ab
open Go Go.Proofs Go.Ab.Wd Go.Ab.Bs Go.Ab.Sai
set_option linter.unusedVariables false
set_option linter.unusedSimpArgs false
theorem drop_rd {l : List Int} {i : Nat} (h : i < l.length) : l.drop i = rd l i :: l.drop (i + 1) := by rw [List.drop_eq_getElem_cons h, rd_getElem h]
theorem take_rd {l : List Int} {i : Nat} (h : i < l.length) : l.take (i + 1) = l.take i ++ [rd l i] := by rw [List.take_add_one, rd_getElem h]; simp [h]
section
variable {σ0 σ σ' : Store} {h : Hdl} {kk : Nat} {t : List Int} {sh : List Bool} {sa : List Int}
/-- The names. -/
theorem name_loop (hn : t.length < 2 ^ 41) (S : SS σ0 σ h kk t sh sa) (hsa : ∀ x ∈ sa, 0 ≤ x ∧ x < t.length) {hl : Hdl} {nmF : List Int} {topF : Int} (hF : name (lfB sh) (smB t sh) sa (List.replicate t.length 0) (-1) (-1) = (nmF, topF)) :
    ∃ σ', EvI (fun k s => stepF Try.prog (gm Try.prog k) drawn k Try.f48 [1, 1, 1, 1, 1, 1, 1, 1, 1, 1, 0, 1, 0] [104, 103, 102, 12, 11, 10, 8, 6] s)
      ([.int .i64 0, .int .i64 t.length, .slice (hdS (σ0.objs.length + 1) t.length), .int .i64 (-1), .int .i64 (-1), .slice (hdS σ.objs.length t.length), .slice hl, .ptr (some (σ0.objs.length + 2, 0))], σ.push (intsL (List.replicate t.length 0)) 1)
      (AX.exit 4, [(11, .int .i64 topF), (10, .slice (hdS σ.objs.length t.length)), (8, .slice hl), (6, .ptr (some (σ0.objs.length + 2, 0)))], σ') ∧
      Kp σ.objs.length σ σ' ∧ σ'.Row σ.objs.length 1 (intsL nmF) := by
  have key := EvI.up (f := fun k s => stepF Try.prog (gm Try.prog k) drawn k Try.f48 [1, 1, 1, 1, 1, 1, 1, 1, 1, 1, 0, 1, 0] [104, 103, 102, 12, 11, 10, 8, 6] s) t.length
    (fun i s => ∃ last top nm σ1, s = ([.int .i64 i, .int .i64 t.length, .slice (hdS (σ0.objs.length + 1) t.length), .int .i64 last, .int .i64 top, .slice (hdS σ.objs.length t.length), .slice hl, .ptr (some (σ0.objs.length + 2, 0))], σ1) ∧
      Kp σ.objs.length σ σ1 ∧ σ1.Row σ.objs.length 1 (intsL nm) ∧ nm.length = t.length ∧ name (lfB sh) (smB t sh) (sa.drop i) nm top last = (nmF, topF) ∧ -1 ≤ top ∧ top < i ∧ -1 ≤ last ∧ last < t.length)
    (fun r => ∃ σ', r = (AX.exit 4, [(11, .int .i64 topF), (10, .slice (hdS σ.objs.length t.length)), (8, .slice hl), (6, .ptr (some (σ0.objs.length + 2, 0)))], σ') ∧ Kp σ.objs.length σ σ' ∧ σ'.Row σ.objs.length 1 (intsL nmF))
    (by
      rintro i s hi ⟨last, top, nm, σ1, rfl, k1, rn, ln, hN, t0, t1, l0, l1⟩
      have hlen := S.len
      have S1 := S.keep hlen k1
      have hpr := S1.prot
      have la := S.la
      have i0 : (0 : Int) ≤ i := by omega
      have i1 : (i : Int) < t.length := by omega
      have w1 : IntKind.wrap .i64 ((i : Int) + 1) = (i + 1 : Nat) := wrap64 (by omega) (by omega)
      have w2 : IntKind.wrap .i64 (top + 1) = top + 1 := wrap64 (by omega) (by omega)
      have ra := S1.sorter.a.rd i0 (by omega)
      obtain ⟨x, hx⟩ : ∃ x, rd sa i = x := ⟨_, rfl⟩
      obtain ⟨x0, x1⟩ := hsa _ (rd_mem i0 (show (i : Int) < sa.length by omega))
      rw [drop_rd (by omega), hx] at hN
      rw [hx] at ra x0 x1
      have st := fun y => st_ints (x := y) (len := t.length) (cp := some t.length) rn (by omega) x0 (by omega)
      have next : ∀ y, Kp σ.objs.length σ (σ1.setO σ.objs.length (.cells (intsL (nm.set x.toNat y)) true 1)) ∧ (σ1.setO σ.objs.length (.cells (intsL (nm.set x.toNat y)) true 1)).Row σ.objs.length 1 (intsL (nm.set x.toNat y)) ∧ (nm.set x.toNat y).length = t.length :=
        fun y => ⟨k1.setO (Nat.le_refl _), Store.Row.setO_eq rn.lt, by simpa using ln⟩
      obtain ⟨k0, r0⟩ := left_spec S1.sorter x0 (by have := S1.ls; omega) (by have := S1.ls; omega)
      have hA : lft sh x = lfB sh x := rfl
      rw [hA] at r0
      simp only [name] at hN
      cases hb : lfB sh x with
      | false =>
        rw [hb, if_neg (by simp)] at hN
        rw [hb] at r0
        refine ⟨_, ⟨k0, fun k hk => ?_⟩, last, top, nm, σ1, rfl, k1, rn, ln, hN, t0, by omega, l0, l1⟩
        have r0 := r0 k hk
        simp only at r0
        simp only [f48_L1111111111010]
        simp only [Option.bind_some, decide_eq_true_eq, decide_eq_false_iff_not, Bool.not_eq_true', Bool.not_true, Bool.not_false, Bool.false_eq_true, Bool.true_eq_false, Bool.not_eq_eq_eq_not, beq_self_eq_true, beqFT, beqTF, decide_true, decide_false, not_false_eq_true, not_true_eq_false, ne_eq, true_and, and_true, false_and, and_false, and_self, if_true, if_false, ite_true, ite_false, Bool.and_true, Bool.and_false, Bool.true_and, Bool.false_and, Bool.or_true, Bool.true_or, Bool.or_false, Bool.false_or, or_true, true_or, or_false, false_or, or_self, AV.asInt, AV.asBool, AV.asSl, AV.asPtr, AV.asFn, AV.asStr, AV.asMap, AV.asIfc, AV.item, List.length_cons, List.length_nil, List.getElem?_cons_zero, List.getElem?_cons_succ, Nat.zero_add, i0, i1, ra, r0, w1]
      | true =>
        rw [hb, if_pos rfl] at hN
        rw [hb] at r0
        by_cases c1 : last < 0
        · rw [if_pos (.inl c1)] at hN
          obtain ⟨n1, n2, n3⟩ := next (top + 1)
          refine ⟨_, ⟨k0, fun k hk => ?_⟩, x, top + 1, _, _, rfl, n1, n2, n3, hN, by omega, by omega, by omega, x1⟩
          have r0 := r0 k hk
          simp only at r0
          simp only [f48_L1111111111010]
          simp only [Option.bind_some, decide_eq_true_eq, decide_eq_false_iff_not, Bool.not_eq_true', Bool.not_true, Bool.not_false, Bool.false_eq_true, Bool.true_eq_false, Bool.not_eq_eq_eq_not, beq_self_eq_true, beqFT, beqTF, decide_true, decide_false, not_false_eq_true, not_true_eq_false, ne_eq, true_and, and_true, false_and, and_false, and_self, if_true, if_false, ite_true, ite_false, Bool.and_true, Bool.and_false, Bool.true_and, Bool.false_and, Bool.or_true, Bool.true_or, Bool.or_false, Bool.false_or, or_true, true_or, or_false, false_or, or_self, AV.asInt, AV.asBool, AV.asSl, AV.asPtr, AV.asFn, AV.asStr, AV.asMap, AV.asIfc, AV.item, List.length_cons, List.length_nil, List.getElem?_cons_zero, List.getElem?_cons_succ, Nat.zero_add, i0, i1, ra, r0, w1, w2, c1, x0, x1, st]
        · obtain ⟨k2, r2⟩ := same_spec S1.sorter (by omega) S.ls (show 0 ≤ last by omega) l1 x0 x1
          cases hs : smB t sh last x with
          | false =>
            rw [if_pos (.inr hs)] at hN
            rw [hs] at r2
            obtain ⟨n1, n2, n3⟩ := next (top + 1)
            refine ⟨_, ⟨k0 + k2, fun k hk => ?_⟩, x, top + 1, _, _, rfl, n1, n2, n3, hN, by omega, by omega, by omega, x1⟩
            have r0 := r0 k (by omega)
            have r2 := r2 k (by omega)
            simp only at r0 r2
            simp only [f48_L1111111111010]
            simp only [Option.bind_some, decide_eq_true_eq, decide_eq_false_iff_not, Bool.not_eq_true', Bool.not_true, Bool.not_false, Bool.false_eq_true, Bool.true_eq_false, Bool.not_eq_eq_eq_not, beq_self_eq_true, beqFT, beqTF, decide_true, decide_false, not_false_eq_true, not_true_eq_false, ne_eq, true_and, and_true, false_and, and_false, and_self, if_true, if_false, ite_true, ite_false, Bool.and_true, Bool.and_false, Bool.true_and, Bool.false_and, Bool.or_true, Bool.true_or, Bool.or_false, Bool.false_or, or_true, true_or, or_false, false_or, or_self, AV.asInt, AV.asBool, AV.asSl, AV.asPtr, AV.asFn, AV.asStr, AV.asMap, AV.asIfc, AV.item, List.length_cons, List.length_nil, List.getElem?_cons_zero, List.getElem?_cons_succ, Nat.zero_add, i0, i1, ra, r0, r2, w1, w2, c1, x0, x1, st]
          | true =>
            rw [if_neg (by rintro (h | h); exact c1 h; rw [hs] at h; cases h)] at hN
            rw [hs] at r2
            obtain ⟨n1, n2, n3⟩ := next top
            refine ⟨_, ⟨k0 + k2, fun k hk => ?_⟩, x, top, _, _, rfl, n1, n2, n3, hN, by omega, by omega, by omega, x1⟩
            have r0 := r0 k (by omega)
            have r2 := r2 k (by omega)
            simp only at r0 r2
            simp only [f48_L1111111111010]
            simp only [Option.bind_some, decide_eq_true_eq, decide_eq_false_iff_not, Bool.not_eq_true', Bool.not_true, Bool.not_false, Bool.false_eq_true, Bool.true_eq_false, Bool.not_eq_eq_eq_not, beq_self_eq_true, beqFT, beqTF, decide_true, decide_false, not_false_eq_true, not_true_eq_false, ne_eq, true_and, and_true, false_and, and_false, and_self, if_true, if_false, ite_true, ite_false, Bool.and_true, Bool.and_false, Bool.true_and, Bool.false_and, Bool.or_true, Bool.true_or, Bool.or_false, Bool.false_or, or_true, true_or, or_false, false_or, or_self, AV.asInt, AV.asBool, AV.asSl, AV.asPtr, AV.asFn, AV.asStr, AV.asMap, AV.asIfc, AV.item, List.length_cons, List.length_nil, List.getElem?_cons_zero, List.getElem?_cons_succ, Nat.zero_add, i0, i1, ra, r0, r2, w1, w2, c1, x0, x1, st])
    (by
      rintro s ⟨last, top, nm, σ1, rfl, k1, rn, ln, hN, t0, t1, l0, l1⟩
      have la := S.la
      rw [List.drop_eq_nil_of_le (by omega), name] at hN
      injection hN with e1 e2
      subst e1 e2
      exact ⟨_, Ev.of fun k => by simp only [f48_L1111111111010]; simp only [Option.bind_some, decide_eq_true_eq, decide_eq_false_iff_not, Bool.not_eq_true', Bool.not_true, Bool.not_false, Bool.false_eq_true, Bool.true_eq_false, Bool.not_eq_eq_eq_not, beq_self_eq_true, beqFT, beqTF, decide_true, decide_false, not_false_eq_true, not_true_eq_false, ne_eq, true_and, and_true, false_and, and_false, and_self, if_true, if_false, ite_true, ite_false, Bool.and_true, Bool.and_false, Bool.true_and, Bool.false_and, Bool.or_true, Bool.true_or, Bool.or_false, Bool.false_or, or_true, true_or, or_false, false_or, or_self, AV.asInt, AV.asBool, AV.asSl, AV.asPtr, AV.asFn, AV.asStr, AV.asMap, AV.asIfc, AV.item, List.length_cons, List.length_nil, List.getElem?_cons_zero, List.getElem?_cons_succ, Nat.zero_add, Int.lt_irrefl], σ1, rfl, k1, rn⟩)
    (s := ([.int .i64 0, .int .i64 t.length, .slice (hdS (σ0.objs.length + 1) t.length), .int .i64 (-1), .int .i64 (-1), .slice (hdS σ.objs.length t.length), .slice hl, .ptr (some (σ0.objs.length + 2, 0))], σ.push (intsL (List.replicate t.length 0)) 1))
    ⟨-1, -1, _, _, rfl, Kp.push _ _ (Nat.le_refl _), Store.Row.new, by simp, by rw [List.drop_zero]; exact hF, by omega, by omega, by omega, by omega⟩
  obtain ⟨r, e, σ', rfl, h1, h2⟩ := key
  exact ⟨σ', e, h1, h2⟩
/-- Numbers taken out of one row by another's. -/
theorem less_loop {hl hm : Hdl} {lf nm : List Int} {top : Int} {q : Ptr} (hL : σ.Ints hl lf) (hM : σ.Ints hm nm) (hp : σ.prot ≤ σ.objs.length) (hn : lf.length < 2 ^ 41) (hr : ∀ x ∈ lf, 0 ≤ x ∧ x < nm.length) :
    ∃ h' σ', EvI (fun k s => stepF Try.prog (gm Try.prog k) drawn k Try.f48 [1, 1, 1, 1, 1, 1, 1, 1, 1, 1, 1, 1, 0, 1, 0] [131, 130, 129, 15, 11, 10, 8, 6] s)
      ([.int .i64 0, .int .i64 lf.length, .slice hl, .slice Hdl.nil, .int .i64 top, .slice hm, .slice hl, .ptr q], σ) (AX.exit 6, [(15, .slice h'), (11, .int .i64 top), (8, .slice hl), (6, .ptr q)], σ') ∧ Kp σ.objs.length σ σ' ∧ GrowI σ' σ.objs.length h' (lf.map (rd nm)) := by
  have key := EvI.up (f := fun k s => stepF Try.prog (gm Try.prog k) drawn k Try.f48 [1, 1, 1, 1, 1, 1, 1, 1, 1, 1, 1, 1, 0, 1, 0] [131, 130, 129, 15, 11, 10, 8, 6] s) lf.length
    (fun i s => ∃ h' σ1, s = ([.int .i64 i, .int .i64 lf.length, .slice hl, .slice h', .int .i64 top, .slice hm, .slice hl, .ptr q], σ1) ∧ Kp σ.objs.length σ σ1 ∧ GrowI σ1 σ.objs.length h' ((lf.take i).map (rd nm)))
    (fun r => ∃ h' σ', r = (AX.exit 6, [(15, .slice h'), (11, .int .i64 top), (8, .slice hl), (6, .ptr q)], σ') ∧ Kp σ.objs.length σ σ' ∧ GrowI σ' σ.objs.length h' (lf.map (rd nm)))
    (by
      rintro i s hi ⟨h', σ1, rfl, k1, g⟩
      have i0 : (0 : Int) ≤ i := by omega
      have i1 : (i : Int) < lf.length := by omega
      have w1 : IntKind.wrap .i64 ((i : Int) + 1) = (i + 1 : Nat) := wrap64 (by omega) (by omega)
      have ll := hL.ilen
      have lm := hM.ilen
      have r1 := Store.Ints.rd (Store.Sl.kp hL k1) i0 i1
      obtain ⟨x0, x1⟩ := hr _ (rd_mem i0 i1)
      have r2 := Store.Ints.rd (Store.Sl.kp hM k1) x0 x1
      obtain ⟨h2, σ2, e2, k2, g2⟩ := g.app (by have := k1.prot; omega) k1.len (rd nm (rd lf i)) (by simp; omega)
      refine ⟨_, Ev.of fun k => ?_, h2, σ2, rfl, k1.trans k2, by rw [take_rd (by omega), List.map_append]; exact g2⟩
      simp only [f48_L111111111111010]
      simp only [Option.bind_some, decide_eq_true_eq, decide_eq_false_iff_not, Bool.not_eq_true', Bool.not_true, Bool.not_false, Bool.false_eq_true, Bool.true_eq_false, Bool.not_eq_eq_eq_not, beq_self_eq_true, beqFT, beqTF, decide_true, decide_false, not_false_eq_true, not_true_eq_false, ne_eq, true_and, and_true, false_and, and_false, and_self, if_true, if_false, ite_true, ite_false, Bool.and_true, Bool.and_false, Bool.true_and, Bool.false_and, Bool.or_true, Bool.true_or, Bool.or_false, Bool.false_or, or_true, true_or, or_false, false_or, or_self, AV.asInt, AV.asBool, AV.asSl, AV.asPtr, AV.asFn, AV.asStr, AV.asMap, AV.asIfc, AV.item, List.length_cons, List.length_nil, List.getElem?_cons_zero, List.getElem?_cons_succ, Nat.zero_add, i0, i1, ll, lm, r1, r2, x0, x1, w1, read1, e2])
    (by
      rintro s ⟨h', σ1, rfl, k1, g⟩
      rw [List.take_length] at g
      exact ⟨_, Ev.of fun k => by simp only [f48_L111111111111010]; simp only [Option.bind_some, decide_eq_true_eq, decide_eq_false_iff_not, Bool.not_eq_true', Bool.not_true, Bool.not_false, Bool.false_eq_true, Bool.true_eq_false, Bool.not_eq_eq_eq_not, beq_self_eq_true, beqFT, beqTF, decide_true, decide_false, not_false_eq_true, not_true_eq_false, ne_eq, true_and, and_true, false_and, and_false, and_self, if_true, if_false, ite_true, ite_false, Bool.and_true, Bool.and_false, Bool.true_and, Bool.false_and, Bool.or_true, Bool.true_or, Bool.or_false, Bool.false_or, or_true, true_or, or_false, false_or, or_self, AV.asInt, AV.asBool, AV.asSl, AV.asPtr, AV.asFn, AV.asStr, AV.asMap, AV.asIfc, AV.item, List.length_cons, List.length_nil, List.getElem?_cons_zero, List.getElem?_cons_succ, Nat.zero_add, Int.lt_irrefl], h', σ1, rfl, k1, g⟩)
    (s := ([.int .i64 0, .int .i64 lf.length, .slice hl, .slice Hdl.nil, .int .i64 top, .slice hm, .slice hl, .ptr q], σ)) ⟨_, _, rfl, Kp.refl _ _, Grow.nil _ _ _⟩
  obtain ⟨r, e, h', σ', rfl, h1, h2⟩ := key
  exact ⟨h', σ', e, h1, h2⟩
theorem some_loop {hl hm : Hdl} {lf nm : List Int} {q : Ptr} (hL : σ.Ints hl lf) (hM : σ.Ints hm nm) (hp : σ.prot ≤ σ.objs.length) (hn : lf.length < 2 ^ 41) (hr : ∀ x ∈ lf, 0 ≤ x ∧ x < nm.length) :
    ∃ h' σ', EvI (fun k s => stepF Try.prog (gm Try.prog k) drawn k Try.f48 [1, 1, 1, 1, 1, 1, 1, 1, 1, 1, 1, 1, 1, 1, 0, 1, 0] [148, 147, 146, 18, 8, 6] s)
      ([.int .i64 0, .int .i64 lf.length, .slice hl, .slice Hdl.nil, .slice hm, .ptr q], σ) (AX.exit 8, [(18, .slice h'), (6, .ptr q)], σ') ∧ Kp σ.objs.length σ σ' ∧ GrowI σ' σ.objs.length h' (lf.map (rd nm)) := by
  have key := EvI.up (f := fun k s => stepF Try.prog (gm Try.prog k) drawn k Try.f48 [1, 1, 1, 1, 1, 1, 1, 1, 1, 1, 1, 1, 1, 1, 0, 1, 0] [148, 147, 146, 18, 8, 6] s) lf.length
    (fun i s => ∃ h' σ1, s = ([.int .i64 i, .int .i64 lf.length, .slice hl, .slice h', .slice hm, .ptr q], σ1) ∧ Kp σ.objs.length σ σ1 ∧ GrowI σ1 σ.objs.length h' ((lf.take i).map (rd nm)))
    (fun r => ∃ h' σ', r = (AX.exit 8, [(18, .slice h'), (6, .ptr q)], σ') ∧ Kp σ.objs.length σ σ' ∧ GrowI σ' σ.objs.length h' (lf.map (rd nm)))
    (by
      rintro i s hi ⟨h', σ1, rfl, k1, g⟩
      have i0 : (0 : Int) ≤ i := by omega
      have i1 : (i : Int) < lf.length := by omega
      have w1 : IntKind.wrap .i64 ((i : Int) + 1) = (i + 1 : Nat) := wrap64 (by omega) (by omega)
      have ll := hL.ilen
      have lm := hM.ilen
      have r1 := Store.Ints.rd (Store.Sl.kp hL k1) i0 i1
      obtain ⟨x0, x1⟩ := hr _ (rd_mem i0 i1)
      have r2 := Store.Ints.rd (Store.Sl.kp hM k1) x0 x1
      obtain ⟨h2, σ2, e2, k2, g2⟩ := g.app (by have := k1.prot; omega) k1.len (rd nm (rd lf i)) (by simp; omega)
      refine ⟨_, Ev.of fun k => ?_, h2, σ2, rfl, k1.trans k2, by rw [take_rd (by omega), List.map_append]; exact g2⟩
      simp only [f48_L11111111111111010]
      simp only [Option.bind_some, decide_eq_true_eq, decide_eq_false_iff_not, Bool.not_eq_true', Bool.not_true, Bool.not_false, Bool.false_eq_true, Bool.true_eq_false, Bool.not_eq_eq_eq_not, beq_self_eq_true, beqFT, beqTF, decide_true, decide_false, not_false_eq_true, not_true_eq_false, ne_eq, true_and, and_true, false_and, and_false, and_self, if_true, if_false, ite_true, ite_false, Bool.and_true, Bool.and_false, Bool.true_and, Bool.false_and, Bool.or_true, Bool.true_or, Bool.or_false, Bool.false_or, or_true, true_or, or_false, false_or, or_self, AV.asInt, AV.asBool, AV.asSl, AV.asPtr, AV.asFn, AV.asStr, AV.asMap, AV.asIfc, AV.item, List.length_cons, List.length_nil, List.getElem?_cons_zero, List.getElem?_cons_succ, Nat.zero_add, i0, i1, ll, lm, r1, r2, x0, x1, w1, read1, e2])
    (by
      rintro s ⟨h', σ1, rfl, k1, g⟩
      rw [List.take_length] at g
      exact ⟨_, Ev.of fun k => by simp only [f48_L11111111111111010]; simp only [Option.bind_some, decide_eq_true_eq, decide_eq_false_iff_not, Bool.not_eq_true', Bool.not_true, Bool.not_false, Bool.false_eq_true, Bool.true_eq_false, Bool.not_eq_eq_eq_not, beq_self_eq_true, beqFT, beqTF, decide_true, decide_false, not_false_eq_true, not_true_eq_false, ne_eq, true_and, and_true, false_and, and_false, and_self, if_true, if_false, ite_true, ite_false, Bool.and_true, Bool.and_false, Bool.true_and, Bool.false_and, Bool.or_true, Bool.true_or, Bool.or_false, Bool.false_or, or_true, true_or, or_false, false_or, or_self, AV.asInt, AV.asBool, AV.asSl, AV.asPtr, AV.asFn, AV.asStr, AV.asMap, AV.asIfc, AV.item, List.length_cons, List.length_nil, List.getElem?_cons_zero, List.getElem?_cons_succ, Nat.zero_add, Int.lt_irrefl], h', σ1, rfl, k1, g⟩)
    (s := ([.int .i64 0, .int .i64 lf.length, .slice hl, .slice Hdl.nil, .slice hm, .ptr q], σ)) ⟨_, _, rfl, Kp.refl _ _, Grow.nil _ _ _⟩
  obtain ⟨r, e, h', σ', rfl, h1, h2⟩ := key
  exact ⟨h', σ', e, h1, h2⟩
end
end Go.Ab


/- sort, whole; Array. -/
namespace Go.Ab
open Go Go.Proofs Go.Ab.Wd Go.Ab.Bs Go.Ab.Sai
set_option linter.unusedVariables false
set_option linter.unusedSimpArgs false
theorem saOf_len (t : List Int) : (saOf t).length = t.length := (saOf_spec t).perm.len
theorem saOf_rng {t : List Int} {x : Int} (h : x ∈ saOf t) : 0 ≤ x ∧ x < t.length := (saOf_spec t).perm.rng x h
theorem Grow.row {σ : Store} {n : Nat} {h : Hdl} {es : Nat} {l : List AV} (g : Grow σ n h es l) : ∀ b, h.row = some b → n ≤ b ∧ b < σ.objs.length := fun b e => by
  cases ha : h.a with
  | none => simp [Hdl.row, ha] at e
  | some bo => obtain ⟨c, o⟩ := bo; simp [Hdl.row, ha] at e; subst e; exact g.rowLt c o ha
theorem sort_run (n : Nat) : ∀ (t : List Int) (kk : Nat) (h : Hdl) (σ : Store), t.length ≤ n → t.length ≤ 4194304 → kk ≤ 4194304 → (∀ x ∈ t, 0 ≤ x ∧ x < kk) → σ.Ints h t → σ.prot ≤ σ.objs.length → (∀ b, h.row = some b → b < σ.objs.length) →
    ∃ σ', Runs Try.prog 48 [.slice h, .int .i64 kk] σ (.slice (hdS (σ.objs.length + 1) t.length)) σ' ∧ Kp σ.objs.length σ σ' ∧ σ.objs.length + 3 ≤ σ'.objs.length ∧ σ'.Ints (hdS (σ.objs.length + 1) t.length) (saOf t) ∧ σ'.Wr (hdS (σ.objs.length + 1) t.length) := by
  induction n using Nat.strongRecOn with
  | ind n IH =>
  intro t kk h σ hn hmax hk hrng hT hpr hh
  have lh := hT.ilen
  -- the sorter's rows
  obtain ⟨σ1, hσ1⟩ : ∃ x, x = ((σ.push (boolsL (List.replicate t.length false)) 1).push (intsL (List.replicate t.length 0)) 1).push [.slice h, .int .i64 kk, .slice (hdS σ.objs.length t.length), .slice (hdS (σ.objs.length + 1) t.length)] 4 := ⟨_, rfl⟩
  have len1 : σ1.objs.length = σ.objs.length + 3 := by rw [hσ1]; simp
  have k1 : Kp σ.objs.length σ σ1 := by
    rw [hσ1]; exact ((Kp.push _ _ (Nat.le_refl _)).push' (by simp)).push' (by simp; omega)
  have r0 : σ1.Row σ.objs.length 1 (boolsL (List.replicate t.length false)) := by rw [hσ1]; exact Store.Row.new.push.push
  have r1 : σ1.Row (σ.objs.length + 1) 1 (intsL (List.replicate t.length 0)) := by
    rw [hσ1]; have := (Store.Row.new (σ := σ.push (boolsL (List.replicate t.length false)) 1) (es := 1) (l := intsL (List.replicate t.length 0))).push (l' := [.slice h, .int .i64 kk, .slice (hdS σ.objs.length t.length), .slice (hdS (σ.objs.length + 1) t.length)]) (es' := 4)
    simpa using this
  have r2 : σ1.Row (σ.objs.length + 2) 4 [.slice h, .int .i64 kk, .slice (hdS σ.objs.length t.length), .slice (hdS (σ.objs.length + 1) t.length)] := by
    rw [hσ1]; have := (Store.Row.new (σ := (σ.push (boolsL (List.replicate t.length false)) 1).push (intsL (List.replicate t.length 0)) 1) (es := 4) (l := [.slice h, .int .i64 kk, .slice (hdS σ.objs.length t.length), .slice (hdS (σ.objs.length + 1) t.length)]))
    simpa using this
  have S1 : SS σ σ1 h kk t (List.replicate t.length false) (List.replicate t.length 0) := ⟨k1, hT, r0, r2, r1.sl (by simp), ⟨_, 0, _, rfl, r1, by rw [k1.prot]; omega⟩, by simp, by simp, hpr, hh⟩
  have start : ∀ (Γ : Gam) (k : Nat), evBody Try.prog Γ drawn k Try.f48 [.slice h, .int .i64 kk] σ = if (t.length : Int) = 0 then (σ1.ldSl (some (σ.objs.length + 2, 3))).bind fun x => some (.slice x, σ1) else
      Option.bind (loopF Try.prog Γ drawn k Try.f48 [1, 1, 1, 1, 0, 1, 0] [7, 6, 5, 0] ([.int .i64 (IntKind.wrap .i64 ((t.length : Int) - 2)), .ptr (some (σ.objs.length + 2, 0)), .int .i64 t.length, .slice h], σ1)) (contF Try.prog Γ drawn k Try.f48 [1, 1, 1, 1, 0, 1, 0]) := by
    intro Γ k
    rw [f48_eq]
    simp only [lh, Int.toNat_natCast, mkCells_bool, mkCells_int, push_len, ← hσ1, Ptr.add, Option.map_some, decide_eq_true_eq, show σ.objs.length + 1 + 1 = σ.objs.length + 2 from rfl, Nat.zero_add]
    rw [if_pos (by omega), if_pos (by omega)]
  by_cases h0 : t.length = 0
  · have ht0 : t = [] := List.eq_nil_of_length_eq_zero h0
    subst ht0
    refine ⟨σ1, Runs.intro (fn := Try.f48) (by kernel_rfl) (by kernel_rfl) (Ev.of fun k => ?_), k1, by omega, S1.a, S1.wa⟩
    rw [start, if_pos (by simp)]
    have : σ1.ldSl (some (σ.objs.length + 2, 3)) = some (hdS (σ.objs.length + 1) ([] : List Int).length) := S1.sorter.a_
    rw [this]; rfl
  · have hpos : 0 < t.length := by omega
    obtain ⟨sa1, nm, top, p1, p2, p3, p4, p5, p6, p7, p8⟩ := sort_plain hpos hrng
    have q61 : t.length < 2 ^ 61 := by omega
    have q62 : t.length < 2 ^ 62 := by omega
    have q41 : t.length < 2 ^ 41 := by omega
    have qk : kk * 8 ≤ 281474976710656 := by omega
    obtain ⟨σ2, g2, S2, len2⟩ := short_loop q61 (t.length - 1) σ1 (by omega) (by rw [shU_last hpos]; exact S1)
    obtain ⟨hl, σ3, g3, S3, G3, k3⟩ := left_loop q41 S2
    have len3 := k3.len
    have a3 := fun b hb => (G3.row b hb)
    obtain ⟨σ4, ⟨n4, g4⟩, So4, w4, pr4, len4, off4⟩ := induce_run (ba := σ.objs.length + 1) (lf := lefU (shF t) t.length) S3.sorter S3.wa rfl (by have := S3.prot; have := S3.len; omega)
      ⟨by simp [Ptr.row], fun e => by have := hh (σ.objs.length + 1) e; omega, by simp [Hdl.row], fun e => by have := a3 (σ.objs.length + 1) e; omega⟩
      (by
        intro b hb
        rcases hb with hb | hb | hb | hb | hb
        · simp [Ptr.row] at hb; omega
        · have := hh _ hb; omega
        · simp [Hdl.row] at hb; omega
        · exact (a3 b hb).2
        · omega) q62 qk hrng S3.la G3.ints (by have := lefU_length (shF t) t.length; omega) p1
    have S4 : SS σ σ4 h kk t (shF t) sa1 := ⟨⟨pr4.trans S3.kp.prot, by omega, fun c hc => (off4 c (by omega) (by omega)).trans (S3.kp.keep c hc)⟩, hT, (off4 _ (by omega) (by omega)).trans S3.rs, (off4 _ (by omega) (by omega)).trans S3.rg, So4.a, w4, S3.ls, by have := p2.len; omega, hpr, hh⟩
    have G4 : GrowI σ4 σ2.objs.length hl (lefU (shF t) t.length) := G3.keep fun b o e => off4 b (G3.rowLt b o e).2 (by have := (G3.rowLt b o e).1; omega)
    obtain ⟨σ5, g5, k5, r5⟩ := name_loop (hl := hl) q41 S4 (fun x hx => p2.rng x hx) p3
    have len5 := k5.len
    have S5 := S4.keep (by omega) k5
    have G5 := G4.kp k5
    have M5 : σ5.Ints (hdS σ4.objs.length t.length) nm := r5.sl (by simp [p4])
    have lfr : ∀ x ∈ lefU (shF t) t.length, 0 ≤ x ∧ x < nm.length := fun x hx => by have := (lefU_mem.1 hx).1; omega
    have lfl := lefU_lt (short := shF t) hpos
    have ll5 := G5.ints.ilen
    obtain ⟨h6, σ6, g6, k6, G6⟩ := less_loop (top := top) (q := some (σ.objs.length + 2, 0)) G5.ints M5 (by have := S5.prot; omega) (by omega) lfr
    have S6 := S5.keep (by omega) k6
    have len6 := k6.len
    have w6 : IntKind.wrap .i64 (top + 1) = ((top + 1).toNat : Nat) := by rw [wrap64 (by omega) (by omega)]; omega
    obtain ⟨σ7, ⟨n7, g7⟩, k7, len7, I7, _⟩ := IH ((lefU (shF t) t.length).map (rd nm)).length (by simp; omega) ((lefU (shF t) t.length).map (rd nm)) (top + 1).toNat h6 σ6 (Nat.le_refl _) (by simp; omega) (by omega)
      (fun x hx => by have := p7 x hx; omega) G6.ints (by have := S6.prot; omega) (fun b hb => (G6.row b hb).2)
    have S7 := S6.keep (by omega) k7
    have G7 := (G5.kp k6).kp k7
    have ll7 := G7.ints.ilen
    obtain ⟨h8, σ8, g8, k8, G8⟩ := some_loop (q := some (σ.objs.length + 2, 0)) I7 G7.ints (by have := S7.prot; omega) (by rw [saOf_len]; simp; omega) (fun x hx => by have := saOf_rng hx; simpa using this)
    have S8 := S7.keep (by omega) k8
    have len8 := k8.len
    have a8 := fun b hb => (G8.row b hb)
    obtain ⟨σ9, ⟨n9, g9⟩, So9, w9, pr9, len9, off9⟩ := induce_run (ba := σ.objs.length + 1) S8.sorter S8.wa rfl (by have := S8.prot; have := S8.len; omega)
      ⟨by simp [Ptr.row], fun e => by have := hh (σ.objs.length + 1) e; omega, by simp [Hdl.row], fun e => by have := a8 (σ.objs.length + 1) e; omega⟩
      (by
        intro b hb
        rcases hb with hb | hb | hb | hb | hb
        · simp [Ptr.row] at hb; omega
        · have := hh _ hb; omega
        · simp [Hdl.row] at hb; omega
        · exact (a8 b hb).2
        · omega) q62 qk hrng S8.la G8.ints (by rw [List.length_map, saOf_len]; simp; omega) p8
    refine ⟨σ9, Runs.intro (fn := Try.f48) (by kernel_rfl) (by kernel_rfl) ?_, ⟨pr9.trans S8.kp.prot, by omega, fun c hc => (off9 c (by omega) (by omega)).trans (S8.kp.keep c hc)⟩, by omega, So9.a, w9⟩
    obtain ⟨n2, g2⟩ := loopF_ev g2
    obtain ⟨n3, g3⟩ := loopF_ev g3
    obtain ⟨n5, g5⟩ := loopF_ev g5
    obtain ⟨n6, g6⟩ := loopF_ev g6
    obtain ⟨n8, g8⟩ := loopF_ev g8
    refine ⟨n2 + n3 + n4 + n5 + n6 + n7 + n8 + n9, fun k hk => ?_⟩
    have g2 := g2 k (by omega)
    have g3 := g3 k (by omega)
    have g4 := g4 k (by omega)
    have g5 := g5 k (by omega)
    have g6 := g6 k (by omega)
    have g7 := g7 k (by omega)
    have g8 := g8 k (by omega)
    have g9 := g9 k (by omega)
    simp only at g2 g3 g4 g5 g6 g7 g8 g9
    have ew : IntKind.wrap .i64 ((t.length : Int) - 2) = ((t.length - 1 : Nat) : Int) - 1 := by rw [wrap64 (by omega) (by omega)]; omega
    have ea4 : (σ4.push (intsL (List.replicate t.length 0)) 1).ldSl (Ptr.add (some (σ.objs.length + 2, 0)) 3) = some (hdS (σ.objs.length + 1) t.length) := (S4.keep (Nat.le_refl _) (Kp.push _ _ (by have := S4.len; omega))).sorter.a_
    have ea9 : σ9.ldSl (Ptr.add (some (σ.objs.length + 2, 0)) 3) = some (hdS (σ.objs.length + 1) t.length) := So9.a_
    have b1 : (0 : Int) ≤ t.length := by omega
    have b2 : (t.length : Int) * ((8 : Nat) : Int) ≤ 281474976710656 := by omega
    simp only [start, ew]
    rw [if_neg (by omega), g2]
    simp only [Option.bind_some]
    rw [f48_X1111010_1, lh, g3]
    simp only [Option.bind_some]
    rw [f48_X111111010_1, g4]
    simp only [Option.bind_some, decide_eq_true_eq, decide_eq_false_iff_not, Bool.not_eq_true', Bool.not_true, Bool.not_false, Bool.false_eq_true, Bool.true_eq_false, Bool.not_eq_eq_eq_not, beq_self_eq_true, beqFT, beqTF, decide_true, decide_false, not_false_eq_true, not_true_eq_false, ne_eq, true_and, and_true, false_and, and_false, and_self, if_true, if_false, ite_true, ite_false, Bool.and_true, Bool.and_false, Bool.true_and, Bool.false_and, Bool.or_true, Bool.true_or, Bool.or_false, Bool.false_or, or_true, true_or, or_false, false_or, or_self, AV.asInt, AV.asBool, AV.asSl, AV.asPtr, AV.asFn, AV.asStr, AV.asMap, AV.asIfc, AV.item, List.length_cons, List.length_nil, List.getElem?_cons_zero, List.getElem?_cons_succ, Nat.zero_add, Int.toNat_natCast, mkCells_int, b1, b2, Int.le_refl, ea4, g5]
    rw [f48_X1111111111010_1, ll5, g6]
    simp only [Option.bind_some]
    rw [f48_X111111111111010_1, w6, g7]
    simp only [Option.bind_some, decide_eq_true_eq, decide_eq_false_iff_not, Bool.not_eq_true', Bool.not_true, Bool.not_false, Bool.false_eq_true, Bool.true_eq_false, Bool.not_eq_eq_eq_not, beq_self_eq_true, beqFT, beqTF, decide_true, decide_false, not_false_eq_true, not_true_eq_false, ne_eq, true_and, and_true, false_and, and_false, and_self, if_true, if_false, ite_true, ite_false, Bool.and_true, Bool.and_false, Bool.true_and, Bool.false_and, Bool.or_true, Bool.true_or, Bool.or_false, Bool.false_or, or_true, true_or, or_false, false_or, or_self, AV.asInt, AV.asBool, AV.asSl, AV.asPtr, AV.asFn, AV.asStr, AV.asMap, AV.asIfc, AV.item, List.length_cons, List.length_nil, List.getElem?_cons_zero, List.getElem?_cons_succ, Nat.zero_add]
    have e7 : (((hdS (σ6.objs.length + 1) ((lefU (shF t) t.length).map (rd nm)).length).len : Nat) : Int) = ((saOf ((lefU (shF t) t.length).map (rd nm))).length : Nat) := by rw [saOf_len]
    rw [e7, g8]
    simp only [Option.bind_some]
    rw [f48_X11111111111111010_1, g9]
    simp only [Option.bind_some, decide_eq_true_eq, decide_eq_false_iff_not, Bool.not_eq_true', Bool.not_true, Bool.not_false, Bool.false_eq_true, Bool.true_eq_false, Bool.not_eq_eq_eq_not, beq_self_eq_true, beqFT, beqTF, decide_true, decide_false, not_false_eq_true, not_true_eq_false, ne_eq, true_and, and_true, false_and, and_false, and_self, if_true, if_false, ite_true, ite_false, Bool.and_true, Bool.and_false, Bool.true_and, Bool.false_and, Bool.or_true, Bool.true_or, Bool.or_false, Bool.false_or, or_true, true_or, or_false, false_or, or_self, AV.asInt, AV.asBool, AV.asSl, AV.asPtr, AV.asFn, AV.asStr, AV.asMap, AV.asIfc, AV.item, List.length_cons, List.length_nil, List.getElem?_cons_zero, List.getElem?_cons_succ, Nat.zero_add, ea9]
end Go.Ab


/- Lists compared; what of a list has a property; which lists are right. -/
namespace Go.Ab
open Go Go.Proofs Go.Ab.Wd Go.Ab.Bs Go.Ab.Sai
set_option linter.unusedVariables false
set_option linter.unusedSimpArgs false
theorem wsucc {i n : Nat} (hi : i < n) (hn : n < 2 ^ 62) : IntKind.wrap .i64 ((i : Int) + 1) = (i + 1 : Nat) := wrap64 (by omega) (by omega)
/-! ### slices.ContainsFunc -/
theorem indexFunc_run {σ : Store} {h : Hdl} {l : List Int} {g : FuncId} {a c : List AV} {p : Int → Bool} (hl : σ.Ints h l) (hn : l.length < 2 ^ 62) (hp : ∀ x ∈ l, Runs Try.prog g (a ++ [.int .i64 x] ++ c) σ (.bool (p x)) σ) :
    ∃ i : Int, Runs Try.prog 67 [.slice h, .func g a c] σ (.int .i64 i) σ ∧ decide (0 ≤ i) = l.any p := by
  have ll := hl.ilen
  obtain ⟨r, e, q⟩ := EvI.upX (f := fun k s => stepF Try.prog (gm Try.prog k) drawn k Try.f67 [1, 0, 1, 0] [8, 7, 1, 0] s) l.length
    (fun i s => s = ([.int .i64 i, .int .i64 l.length, .func g a c, .slice h], σ) ∧ ∀ x ∈ l.take i, p x = false)
    (fun r => (∃ i : Nat, r = (AX.ret, [(4, .int .i64 i)], σ) ∧ l.any p = true) ∨ (r = (AX.exit 0, [], σ) ∧ l.any p = false))
    (by
      rintro i s hi ⟨rfl, hq⟩
      have i0 : (0 : Int) ≤ i := by omega
      have i1 : (i : Int) < l.length := by omega
      have w := wsucc hi hn
      obtain ⟨k0, r0⟩ := hp _ (rd_mem i0 i1)
      cases e : p (rd l i) with
      | false =>
        rw [e] at r0
        refine .inl ⟨_, ⟨k0, fun k hk => ?_⟩, rfl, fun x hx => ?_⟩
        · have r0 := r0 k hk
          simp only at r0
          simp only [f67_L1010]; simp only [Option.bind_some, decide_eq_true_eq, decide_eq_false_iff_not, Bool.not_eq_true', Bool.not_true, Bool.not_false, Bool.false_eq_true, Bool.true_eq_false, Bool.not_eq_eq_eq_not, beq_self_eq_true, beqFT, beqTF, decide_true, decide_false, not_false_eq_true, not_true_eq_false, ne_eq, true_and, and_true, false_and, and_false, and_self, if_true, if_false, ite_true, ite_false, Bool.and_true, Bool.and_false, Bool.true_and, Bool.false_and, Bool.or_true, Bool.true_or, Bool.or_false, Bool.false_or, or_true, true_or, or_false, false_or, or_self, AV.asInt, AV.asBool, AV.asSl, AV.asPtr, AV.asFn, AV.asStr, AV.asMap, AV.asIfc, AV.item, List.length_cons, List.length_nil, List.getElem?_cons_zero, List.getElem?_cons_succ, Nat.zero_add, ll, i0, i1, hl.rd i0 i1, r0, w]
        · rw [take_rd hi] at hx
          rcases List.mem_append.1 hx with hx | hx
          · exact hq x hx
          · rw [List.mem_singleton] at hx; rw [hx]; exact e
      | true =>
        rw [e] at r0
        refine .inr ⟨_, ⟨k0, fun k hk => ?_⟩, .inl ⟨i, rfl, List.any_eq_true.2 ⟨_, rd_mem i0 i1, e⟩⟩⟩
        have r0 := r0 k hk
        simp only at r0
        simp only [f67_L1010]; simp only [Option.bind_some, decide_eq_true_eq, decide_eq_false_iff_not, Bool.not_eq_true', Bool.not_true, Bool.not_false, Bool.false_eq_true, Bool.true_eq_false, Bool.not_eq_eq_eq_not, beq_self_eq_true, beqFT, beqTF, decide_true, decide_false, not_false_eq_true, not_true_eq_false, ne_eq, true_and, and_true, false_and, and_false, and_self, if_true, if_false, ite_true, ite_false, Bool.and_true, Bool.and_false, Bool.true_and, Bool.false_and, Bool.or_true, Bool.true_or, Bool.or_false, Bool.false_or, or_true, true_or, or_false, false_or, or_self, AV.asInt, AV.asBool, AV.asSl, AV.asPtr, AV.asFn, AV.asStr, AV.asMap, AV.asIfc, AV.item, List.length_cons, List.length_nil, List.getElem?_cons_zero, List.getElem?_cons_succ, Nat.zero_add, ll, i0, i1, hl.rd i0 i1, r0, w])
    (by
      rintro s ⟨rfl, hq⟩
      refine ⟨_, Ev.of fun k => by simp only [f67_L1010]; simp only [Option.bind_some, decide_eq_true_eq, decide_eq_false_iff_not, Bool.not_eq_true', Bool.not_true, Bool.not_false, Bool.false_eq_true, Bool.true_eq_false, Bool.not_eq_eq_eq_not, beq_self_eq_true, beqFT, beqTF, decide_true, decide_false, not_false_eq_true, not_true_eq_false, ne_eq, true_and, and_true, false_and, and_false, and_self, if_true, if_false, ite_true, ite_false, Bool.and_true, Bool.and_false, Bool.true_and, Bool.false_and, Bool.or_true, Bool.true_or, Bool.or_false, Bool.false_or, or_true, true_or, or_false, false_or, or_self, AV.asInt, AV.asBool, AV.asSl, AV.asPtr, AV.asFn, AV.asStr, AV.asMap, AV.asIfc, AV.item, List.length_cons, List.length_nil, List.getElem?_cons_zero, List.getElem?_cons_succ, Nat.zero_add, Int.lt_irrefl], .inr ⟨rfl, ?_⟩⟩
      rw [List.take_length] at hq
      rw [Bool.eq_false_iff]; intro h
      obtain ⟨x, hx, hp⟩ := List.any_eq_true.1 h
      rw [hq x hx] at hp; cases hp)
    (Nat.zero_le _) (s := ([.int .i64 0, .int .i64 l.length, .func g a c, .slice h], σ)) ⟨rfl, by simp⟩
  rcases q with ⟨i, rfl, q⟩ | ⟨rfl, q⟩
  · refine ⟨i, Runs.intro (fn := Try.f67) (by kernel_rfl) (by kernel_rfl) ((Ev.bind (loopF_ev e) (Ev.of fun k => f67_X1010_1 (gm Try.prog k) k σ _)).congr fun k => by rw [f67_eq, ll]), ?_⟩
    rw [q]; simp
  · refine ⟨-1, Runs.intro (fn := Try.f67) (by kernel_rfl) (by kernel_rfl) ((Ev.bind (loopF_ev e) (Ev.of fun k => f67_X1010_2 (gm Try.prog k) k σ)).congr fun k => by rw [f67_eq, ll]), ?_⟩
    rw [q]; rfl
theorem containsFunc_run {σ : Store} {h : Hdl} {l : List Int} {g : FuncId} {a c : List AV} {p : Int → Bool} (hl : σ.Ints h l) (hn : l.length < 2 ^ 62) (hp : ∀ x ∈ l, Runs Try.prog g (a ++ [.int .i64 x] ++ c) σ (.bool (p x)) σ) :
    Runs Try.prog 46 [.slice h, .func g a c] σ (.bool (l.any p)) σ := by
  obtain ⟨i, ⟨k0, r⟩, e⟩ := indexFunc_run hl hn hp
  refine Runs.intro (fn := Try.f46) (by kernel_rfl) (by kernel_rfl) ⟨k0, fun k hk => ?_⟩
  have r := r k hk
  simp only at r
  simp only [f46_eq]
  simp only [Option.bind_some, decide_eq_true_eq, decide_eq_false_iff_not, Bool.not_eq_true', Bool.not_true, Bool.not_false, Bool.false_eq_true, Bool.true_eq_false, Bool.not_eq_eq_eq_not, beq_self_eq_true, beqFT, beqTF, decide_true, decide_false, not_false_eq_true, not_true_eq_false, ne_eq, true_and, and_true, false_and, and_false, and_self, if_true, if_false, ite_true, ite_false, Bool.and_true, Bool.and_false, Bool.true_and, Bool.false_and, Bool.or_true, Bool.true_or, Bool.or_false, Bool.false_or, or_true, true_or, or_false, false_or, or_self, AV.asInt, AV.asBool, AV.asSl, AV.asPtr, AV.asFn, AV.asStr, AV.asMap, AV.asIfc, AV.item, List.length_cons, List.length_nil, List.getElem?_cons_zero, List.getElem?_cons_succ, Nat.zero_add, r, e]
/-! ### slices.Compare -/
end Go.Ab


/- Array; Right; Less; Least. -/
namespace Go.Ab
open Go Go.Proofs Go.Ab.Wd Go.Ab.Bs Go.Ab.Sai
set_option linter.unusedVariables false
set_option linter.unusedSimpArgs false
/-- May a list be sorted? -/
def okT (t : List Int) (al : Int) : Bool := decide (0 ≤ al) && decide (al ≤ 4194304) && decide (t.length ≤ 4194304) && !(t.any fun c => decide (c < 0) || decide (al ≤ c))
theorem okT_iff {t : List Int} {al : Int} : okT t al = true ↔ 0 ≤ al ∧ al ≤ 4194304 ∧ t.length ≤ 4194304 ∧ ∀ x ∈ t, 0 ≤ x ∧ x < al := by
  simp only [okT, Bool.and_eq_true, decide_eq_true_eq, Bool.not_eq_true', List.any_eq_false, Bool.or_eq_true, and_assoc]
  refine and_congr_right fun _ => and_congr_right fun _ => and_congr_right fun _ => ?_
  exact ⟨fun h x hx => by have := h x hx; omega, fun h x hx => by have := h x hx; omega⟩
theorem array_c1_run {σ : Store} {b : Nat} {al : Int} (h : σ.ldInt .i64 (some (b, 0)) = some al) (x : Int) : Runs Try.prog 47 [.int .i64 x, .ptr (some (b, 0))] σ (.bool (decide (x < 0) || decide (al ≤ x))) σ := by
  refine Runs.intro (fn := Try.f47) (by kernel_rfl) (by kernel_rfl) (Ev.of fun k => ?_)
  rw [f47_eq]
  by_cases c : x < 0
  · simp [c]
  · simp [c, h]
theorem array_run {σ : Store} {h : Hdl} {t : List Int} {al : Int} (hT : σ.Ints h t) (hH : σ.Has h) (hp : σ.prot ≤ σ.objs.length) (hn : t.length < 2 ^ 62) :
    ∃ ho σ', Runs Try.prog 27 [.slice h, .int .i64 al] σ (.tuple [.slice ho, .int .i64 (if okT t al = true then 0 else 2)]) σ' ∧ Kp σ.objs.length σ σ' ∧ σ'.Ints ho (if okT t al = true then saOf t else []) ∧ σ'.Has ho ∧ ∀ b, ho.row = some b → σ.objs.length ≤ b := by
  have ll := hT.ilen
  obtain ⟨σ1, h1⟩ : ∃ x, x = σ.push [.int .i64 al] 1 := ⟨_, rfl⟩
  have k1 : Kp σ.objs.length σ σ1 := by rw [h1]; exact Kp.push _ _ (Nat.le_refl _)
  have e1 : σ1.ldInt .i64 (some (σ.objs.length, 0)) = some al := by rw [h1]; simp only [Store.ldInt, push_cell]; simp
  have hT1 : σ1.Ints h t := Store.Sl.kp hT k1
  have bad : okT t al = false → (∃ k0, ∀ k, k0 ≤ k → evBody Try.prog (gm Try.prog k) drawn k Try.f27 [.slice h, .int .i64 al] σ = some (.tuple [.slice Hdl.nil, .int .i64 2], σ1)) →
      ∃ ho σ', Runs Try.prog 27 [.slice h, .int .i64 al] σ (.tuple [.slice ho, .int .i64 (if okT t al = true then 0 else 2)]) σ' ∧ Kp σ.objs.length σ σ' ∧ σ'.Ints ho (if okT t al = true then saOf t else []) ∧ σ'.Has ho ∧ ∀ b, ho.row = some b → σ.objs.length ≤ b := by
    intro hb hr
    rw [if_neg (by rw [hb]; simp), if_neg (by rw [hb]; simp)]
    exact ⟨Hdl.nil, σ1, Runs.intro (fn := Try.f27) (by kernel_rfl) (by kernel_rfl) hr, k1, ints_nil _, Store.Has.nil _, fun b hb => by simp [Hdl.row, Hdl.nil] at hb⟩
  by_cases c1 : al < 0
  · exact bad (by simp [okT]; omega) ⟨0, fun k _ => by rw [f27_eq, ← h1]; simp only [Option.bind_some, decide_eq_true_eq, decide_eq_false_iff_not, Bool.not_eq_true', Bool.not_true, Bool.not_false, Bool.false_eq_true, Bool.true_eq_false, Bool.not_eq_eq_eq_not, beq_self_eq_true, beqFT, beqTF, decide_true, decide_false, not_false_eq_true, not_true_eq_false, ne_eq, true_and, and_true, false_and, and_false, and_self, if_true, if_false, ite_true, ite_false, Bool.and_true, Bool.and_false, Bool.true_and, Bool.false_and, Bool.or_true, Bool.true_or, Bool.or_false, Bool.false_or, or_true, true_or, or_false, false_or, or_self, AV.asInt, AV.asBool, AV.asSl, AV.asPtr, AV.asFn, AV.asStr, AV.asMap, AV.asIfc, AV.item, List.length_cons, List.length_nil, List.getElem?_cons_zero, List.getElem?_cons_succ, Nat.zero_add, e1, c1]⟩
  by_cases c2 : 4194304 < al
  · exact bad (by simp [okT]; omega) ⟨0, fun k _ => by rw [f27_eq, ← h1]; simp only [Option.bind_some, decide_eq_true_eq, decide_eq_false_iff_not, Bool.not_eq_true', Bool.not_true, Bool.not_false, Bool.false_eq_true, Bool.true_eq_false, Bool.not_eq_eq_eq_not, beq_self_eq_true, beqFT, beqTF, decide_true, decide_false, not_false_eq_true, not_true_eq_false, ne_eq, true_and, and_true, false_and, and_false, and_self, if_true, if_false, ite_true, ite_false, Bool.and_true, Bool.and_false, Bool.true_and, Bool.false_and, Bool.or_true, Bool.true_or, Bool.or_false, Bool.false_or, or_true, true_or, or_false, false_or, or_self, AV.asInt, AV.asBool, AV.asSl, AV.asPtr, AV.asFn, AV.asStr, AV.asMap, AV.asIfc, AV.item, List.length_cons, List.length_nil, List.getElem?_cons_zero, List.getElem?_cons_succ, Nat.zero_add, e1, c1, c2]⟩
  by_cases c3 : 4194304 < t.length
  · have c3' : (4194304 : Int) < t.length := by omega
    exact bad (by simp [okT]; omega) ⟨0, fun k _ => by rw [f27_eq, ← h1]; simp only [Option.bind_some, decide_eq_true_eq, decide_eq_false_iff_not, Bool.not_eq_true', Bool.not_true, Bool.not_false, Bool.false_eq_true, Bool.true_eq_false, Bool.not_eq_eq_eq_not, beq_self_eq_true, beqFT, beqTF, decide_true, decide_false, not_false_eq_true, not_true_eq_false, ne_eq, true_and, and_true, false_and, and_false, and_self, if_true, if_false, ite_true, ite_false, Bool.and_true, Bool.and_false, Bool.true_and, Bool.false_and, Bool.or_true, Bool.true_or, Bool.or_false, Bool.false_or, or_true, true_or, or_false, false_or, or_self, AV.asInt, AV.asBool, AV.asSl, AV.asPtr, AV.asFn, AV.asStr, AV.asMap, AV.asIfc, AV.item, List.length_cons, List.length_nil, List.getElem?_cons_zero, List.getElem?_cons_succ, Nat.zero_add, e1, c1, c2, ll, c3']⟩
  have c3' : ¬ (4194304 : Int) < t.length := by omega
  obtain ⟨k2, r2⟩ := containsFunc_run (g := 47) (a := []) (c := [.ptr (some (σ.objs.length, 0))]) hT1 hn (fun x _ => array_c1_run e1 x)
  by_cases c4 : (t.any fun c => decide (c < 0) || decide (al ≤ c)) = true
  · rw [c4] at r2
    refine bad (by simp only [okT, c4]; simp) ⟨k2, fun k hk => ?_⟩
    have r2 := r2 k hk
    simp only at r2
    rw [f27_eq, ← h1]; simp only [Option.bind_some, decide_eq_true_eq, decide_eq_false_iff_not, Bool.not_eq_true', Bool.not_true, Bool.not_false, Bool.false_eq_true, Bool.true_eq_false, Bool.not_eq_eq_eq_not, beq_self_eq_true, beqFT, beqTF, decide_true, decide_false, not_false_eq_true, not_true_eq_false, ne_eq, true_and, and_true, false_and, and_false, and_self, if_true, if_false, ite_true, ite_false, Bool.and_true, Bool.and_false, Bool.true_and, Bool.false_and, Bool.or_true, Bool.true_or, Bool.or_false, Bool.false_or, or_true, true_or, or_false, false_or, or_self, AV.asInt, AV.asBool, AV.asSl, AV.asPtr, AV.asFn, AV.asStr, AV.asMap, AV.asIfc, AV.item, List.length_cons, List.length_nil, List.getElem?_cons_zero, List.getElem?_cons_succ, Nat.zero_add, e1, c1, c2, ll, c3', r2]
  · have c4' : (t.any fun c => decide (c < 0) || decide (al ≤ c)) = false := by simpa using c4
    have hok : okT t al = true := by simp only [okT, c4']; simp; omega
    obtain ⟨g1, g2, g3, g4⟩ := okT_iff.1 hok
    rw [if_pos hok, if_pos hok]
    obtain ⟨σ2, ⟨k3, r3⟩, k, l3, i3, w3⟩ := sort_run t.length t al.toNat h σ1 (Nat.le_refl _) g3 (by omega) (fun x hx => by have := g4 x hx; omega) hT1 (by rw [k1.prot]; have := k1.len; omega) (fun b hb => Nat.lt_of_lt_of_le (hH b hb) k1.len)
    rw [show ((al.toNat : Nat) : Int) = al by omega] at r3
    refine ⟨_, σ2, Runs.intro (fn := Try.f27) (by kernel_rfl) (by kernel_rfl) ⟨k2 + k3, fun k hk => ?_⟩, k1.all k, i3, fun b hb => by simp [Hdl.row] at hb; omega, fun b hb => by simp [Hdl.row] at hb; have := k1.len; omega⟩
    have r2 := r2 k (by omega)
    have r3 := r3 k (by omega)
    simp only [c4'] at r2 r3
    simp only [f27_eq, ← h1]; simp only [Option.bind_some, decide_eq_true_eq, decide_eq_false_iff_not, Bool.not_eq_true', Bool.not_true, Bool.not_false, Bool.false_eq_true, Bool.true_eq_false, Bool.not_eq_eq_eq_not, beq_self_eq_true, beqFT, beqTF, decide_true, decide_false, not_false_eq_true, not_true_eq_false, ne_eq, true_and, and_true, false_and, and_false, and_self, if_true, if_false, ite_true, ite_false, Bool.and_true, Bool.and_false, Bool.true_and, Bool.false_and, Bool.or_true, Bool.true_or, Bool.or_false, Bool.false_or, or_true, true_or, or_false, false_or, or_self, AV.asInt, AV.asBool, AV.asSl, AV.asPtr, AV.asFn, AV.asStr, AV.asMap, AV.asIfc, AV.item, List.length_cons, List.length_nil, List.getElem?_cons_zero, List.getElem?_cons_succ, Nat.zero_add, e1, c1, c2, ll, c3', r2, r3]
/-! ### Right -/
/-! ### Less -/
theorem less_run {σ : Store} {h : Hdl} {t : List Int} (hT : σ.Ints h t) (hn : t.length < 2 ^ 61) {a b : Int} (a0 : 0 ≤ a) (a1 : a ≤ t.length) (b0 : 0 ≤ b) (b1 : b ≤ t.length) :
    Runs Try.prog 37 [.slice h, .int .i64 a, .int .i64 b] σ (.bool (decide (sl t a b))) σ := by
  have ll := hT.ilen
  have key : ∀ (m : Nat) (a b : Int), 0 ≤ a → a ≤ t.length → 0 ≤ b → b ≤ t.length → (t.length : Int) - a = m → ∃ r : LX, EvI (fun k s => stepF Try.prog (gm Try.prog k) drawn k Try.f37 [1, 0, 0] [2, 1, 0] s) ([.int .i64 b, .int .i64 a, .slice h], σ) r ∧
      ∀ k, contF Try.prog (gm Try.prog k) drawn k Try.f37 [1, 0, 0] r = some (.bool (decide (sl t a b)), σ) := by
    intro m
    induction m with
    | zero =>
      intro a b a0 a1 b0 b1 hm
      have ea : a = t.length := by omega
      subst ea
      refine ⟨(AX.exit 0, [(2, .int .i64 b), (1, .int .i64 t.length), (0, .slice h)], σ), EvI.done (Ev.of fun k => by simp only [f37_L100]; simp only [Option.bind_some, decide_eq_true_eq, decide_eq_false_iff_not, Bool.not_eq_true', Bool.not_true, Bool.not_false, Bool.false_eq_true, Bool.true_eq_false, Bool.not_eq_eq_eq_not, beq_self_eq_true, beqFT, beqTF, decide_true, decide_false, not_false_eq_true, not_true_eq_false, ne_eq, true_and, and_true, false_and, and_false, and_self, if_true, if_false, ite_true, ite_false, Bool.and_true, Bool.and_false, Bool.true_and, Bool.false_and, Bool.or_true, Bool.true_or, Bool.or_false, Bool.false_or, or_true, true_or, or_false, false_or, or_self, AV.asInt, AV.asBool, AV.asSl, AV.asPtr, AV.asFn, AV.asStr, AV.asMap, AV.asIfc, AV.item, List.length_cons, List.length_nil, List.getElem?_cons_zero, List.getElem?_cons_succ, Nat.zero_add, ll, Int.lt_irrefl]), fun k => ?_⟩
      rw [f37_X100_2]
      by_cases c : b < t.length
      · have := sl_end (t := t) (Int.le_refl _) b0 c
        simp only [Option.bind_some, decide_eq_true_eq, decide_eq_false_iff_not, Bool.not_eq_true', Bool.not_true, Bool.not_false, Bool.false_eq_true, Bool.true_eq_false, Bool.not_eq_eq_eq_not, beq_self_eq_true, beqFT, beqTF, decide_true, decide_false, not_false_eq_true, not_true_eq_false, ne_eq, true_and, and_true, false_and, and_false, and_self, if_true, if_false, ite_true, ite_false, Bool.and_true, Bool.and_false, Bool.true_and, Bool.false_and, Bool.or_true, Bool.true_or, Bool.or_false, Bool.false_or, or_true, true_or, or_false, false_or, or_self, AV.asInt, AV.asBool, AV.asSl, AV.asPtr, AV.asFn, AV.asStr, AV.asMap, AV.asIfc, AV.item, List.length_cons, List.length_nil, List.getElem?_cons_zero, List.getElem?_cons_succ, Nat.zero_add, ll, c, this]
      · have := not_sl_end (t := t) (p := (t.length : Int)) (q := b) (by omega)
        simp only [Option.bind_some, decide_eq_true_eq, decide_eq_false_iff_not, Bool.not_eq_true', Bool.not_true, Bool.not_false, Bool.false_eq_true, Bool.true_eq_false, Bool.not_eq_eq_eq_not, beq_self_eq_true, beqFT, beqTF, decide_true, decide_false, not_false_eq_true, not_true_eq_false, ne_eq, true_and, and_true, false_and, and_false, and_self, if_true, if_false, ite_true, ite_false, Bool.and_true, Bool.and_false, Bool.true_and, Bool.false_and, Bool.or_true, Bool.true_or, Bool.or_false, Bool.false_or, or_true, true_or, or_false, false_or, or_self, AV.asInt, AV.asBool, AV.asSl, AV.asPtr, AV.asFn, AV.asStr, AV.asMap, AV.asIfc, AV.item, List.length_cons, List.length_nil, List.getElem?_cons_zero, List.getElem?_cons_succ, Nat.zero_add, ll, c, this]
    | succ m ih =>
      intro a b a0 a1 b0 b1 hm
      have c1 : a < t.length := by omega
      by_cases c2 : b < t.length
      · have hs := sl_step a0 c1 b0 c2
        by_cases c3 : rd t a = rd t b
        · obtain ⟨r, e, q⟩ := ih (a + 1) (b + 1) (by omega) (by omega) (by omega) (by omega) (by omega)
          have w1 : IntKind.wrap .i64 (a + 1) = a + 1 := wrap64 (by omega) (by omega)
          have w2 : IntKind.wrap .i64 (b + 1) = b + 1 := wrap64 (by omega) (by omega)
          refine ⟨r, EvI.step (Ev.of fun k => by simp only [f37_L100]; simp only [Option.bind_some, decide_eq_true_eq, decide_eq_false_iff_not, Bool.not_eq_true', Bool.not_true, Bool.not_false, Bool.false_eq_true, Bool.true_eq_false, Bool.not_eq_eq_eq_not, beq_self_eq_true, beqFT, beqTF, decide_true, decide_false, not_false_eq_true, not_true_eq_false, ne_eq, true_and, and_true, false_and, and_false, and_self, if_true, if_false, ite_true, ite_false, Bool.and_true, Bool.and_false, Bool.true_and, Bool.false_and, Bool.or_true, Bool.true_or, Bool.or_false, Bool.false_or, or_true, true_or, or_false, false_or, or_self, AV.asInt, AV.asBool, AV.asSl, AV.asPtr, AV.asFn, AV.asStr, AV.asMap, AV.asIfc, AV.item, List.length_cons, List.length_nil, List.getElem?_cons_zero, List.getElem?_cons_succ, Nat.zero_add, ll, c1, c2, a0, b0, hT.rd a0 c1, hT.rd b0 c2, c3, w1, w2]) e, fun k => ?_⟩
          rw [q]
          have : sl t a b ↔ sl t (a + 1) (b + 1) := by rw [hs, c3]; simp
          simp only [this]
        · refine ⟨(AX.ret, [(6, .bool (decide (rd t a < rd t b)))], σ), EvI.done (Ev.of fun k => by simp only [f37_L100]; simp only [Option.bind_some, decide_eq_true_eq, decide_eq_false_iff_not, Bool.not_eq_true', Bool.not_true, Bool.not_false, Bool.false_eq_true, Bool.true_eq_false, Bool.not_eq_eq_eq_not, beq_self_eq_true, beqFT, beqTF, decide_true, decide_false, not_false_eq_true, not_true_eq_false, ne_eq, true_and, and_true, false_and, and_false, and_self, if_true, if_false, ite_true, ite_false, Bool.and_true, Bool.and_false, Bool.true_and, Bool.false_and, Bool.or_true, Bool.true_or, Bool.or_false, Bool.false_or, or_true, true_or, or_false, false_or, or_self, AV.asInt, AV.asBool, AV.asSl, AV.asPtr, AV.asFn, AV.asStr, AV.asMap, AV.asIfc, AV.item, List.length_cons, List.length_nil, List.getElem?_cons_zero, List.getElem?_cons_succ, Nat.zero_add, ll, c1, c2, a0, b0, hT.rd a0 c1, hT.rd b0 c2, c3]), fun k => ?_⟩
          rw [f37_X100_1]
          have : sl t a b ↔ rd t a < rd t b := by rw [hs]; simp [c3]
          simp only [this]
      · refine ⟨(AX.exit 0, [(2, .int .i64 b), (1, .int .i64 a), (0, .slice h)], σ), EvI.done (Ev.of fun k => by simp only [f37_L100]; simp only [Option.bind_some, decide_eq_true_eq, decide_eq_false_iff_not, Bool.not_eq_true', Bool.not_true, Bool.not_false, Bool.false_eq_true, Bool.true_eq_false, Bool.not_eq_eq_eq_not, beq_self_eq_true, beqFT, beqTF, decide_true, decide_false, not_false_eq_true, not_true_eq_false, ne_eq, true_and, and_true, false_and, and_false, and_self, if_true, if_false, ite_true, ite_false, Bool.and_true, Bool.and_false, Bool.true_and, Bool.false_and, Bool.or_true, Bool.true_or, Bool.or_false, Bool.false_or, or_true, true_or, or_false, false_or, or_self, AV.asInt, AV.asBool, AV.asSl, AV.asPtr, AV.asFn, AV.asStr, AV.asMap, AV.asIfc, AV.item, List.length_cons, List.length_nil, List.getElem?_cons_zero, List.getElem?_cons_succ, Nat.zero_add, ll, c1, c2]), fun k => ?_⟩
        rw [f37_X100_2]
        have c4 : ¬ a = t.length := by omega
        have := not_sl_end (t := t) (p := a) (q := b) (by omega)
        simp only [Option.bind_some, decide_eq_true_eq, decide_eq_false_iff_not, Bool.not_eq_true', Bool.not_true, Bool.not_false, Bool.false_eq_true, Bool.true_eq_false, Bool.not_eq_eq_eq_not, beq_self_eq_true, beqFT, beqTF, decide_true, decide_false, not_false_eq_true, not_true_eq_false, ne_eq, true_and, and_true, false_and, and_false, and_self, if_true, if_false, ite_true, ite_false, Bool.and_true, Bool.and_false, Bool.true_and, Bool.false_and, Bool.or_true, Bool.true_or, Bool.or_false, Bool.false_or, or_true, true_or, or_false, false_or, or_self, AV.asInt, AV.asBool, AV.asSl, AV.asPtr, AV.asFn, AV.asStr, AV.asMap, AV.asIfc, AV.item, List.length_cons, List.length_nil, List.getElem?_cons_zero, List.getElem?_cons_succ, Nat.zero_add, ll, c4, this]
  obtain ⟨r, e, q⟩ := key (t.length - a).toNat a b a0 a1 b0 b1 (by omega)
  refine Runs.intro (fn := Try.f37) (by kernel_rfl) (by kernel_rfl) ?_
  exact (Ev.bind (loopF_ev e) (Ev.of q)).congr fun k => by rw [f37_eq]
/-! ### Least -/
theorem intsL_drop (l : List Int) (n : Nat) : (intsL l).drop n = intsL (l.drop n) := by simp [intsL, List.map_drop]
theorem intsL_take (l : List Int) (n : Nat) : (intsL l).take n = intsL (l.take n) := by simp [intsL, List.map_take]
end Go.Ab


/- The reference's array. -/
namespace Go.Ab
open Go Go.Proofs Go.Ab.Wd Go.Ab.Bs Go.Ab.Sai
set_option linter.unusedVariables false
set_option linter.unusedSimpArgs false
theorem set_mid {l : List Int} {i : Nat} (h0 : 0 < i) (h : i ≤ l.length) (x : Int) : (l.take i ++ x :: l.drop i).set i (rd (l.take i ++ x :: l.drop i) ((i : Int) - 1)) = l.take (i - 1) ++ rd l ((i : Int) - 1) :: l.drop (i - 1) := by
  obtain ⟨j, rfl⟩ : ∃ j, i = j + 1 := ⟨i - 1, by omega⟩
  have e1 : rd (l.take (j + 1) ++ x :: l.drop (j + 1)) (((j + 1 : Nat) : Int) - 1) = rd l j := by
    rw [rd_append_left (by omega) (by simp; omega), show ((j + 1 : Nat) : Int) - 1 = (j : Int) by omega, rd_getElem (by simp; omega), rd_getElem (by omega)]
    simp
  rw [e1, List.set_append_right _ _ (by simp; omega), List.length_take, Nat.min_eq_left h, Nat.sub_self, List.set_cons_zero, take_rd (by omega), show ((j + 1 : Nat) : Int) - 1 = (j : Int) by omega, show j + 1 - 1 = j by omega, drop_rd (l := l) (i := j) (by omega)]
  simp
theorem set_at {l : List Int} {i : Nat} (h : i ≤ l.length) (x y : Int) : (l.take i ++ x :: l.drop i).set i y = l.take i ++ y :: l.drop i := by
  rw [List.set_append_right _ _ (by simp; omega), List.length_take, Nat.min_eq_left h, Nat.sub_self, List.set_cons_zero]
section
variable {σ0 : Store} {ht : Hdl} {t : List Int}
theorem ref9_find (hT : σ0.Ints ht t) (hn : t.length < 2 ^ 41) {σ : Store} (k0 : Kp σ0.objs.length σ0 σ) {n : Nat} {h : Hdl} {p : Nat} (hp : p < t.length) (g : GrowI σ n h (saUpto t p)) {a b : Int} :
    EvI (fun k s => stepF Try.prog (gm Try.prog k) drawn k Try.f15 [1, 1, 0, 1, 0, 0, 1, 1, 0, 0, 1, 1, 0, 0] [9, 8, 5, 4, 3, 0] s)
      ([.int .i64 a, .int .i64 b, .int .i64 0, .int .i64 p, .slice h, .slice ht], σ) (AX.exit 2, [(9, .int .i64 a), (8, .int .i64 b), (5, .int .i64 (lessN t p (saUpto t p))), (4, .int .i64 p), (3, .slice h), (0, .slice ht)], σ) := by
  have S := srt_upto t p (by omega)
  have lo : ((saUpto t p).length : Int) = p := S.len (by omega)
  have ll := g.ints.ilen
  have hT1 : σ.Ints ht t := Store.Sl.kp hT k0
  obtain ⟨r, e, q⟩ := EvI.upX (f := fun k s => stepF Try.prog (gm Try.prog k) drawn k Try.f15 [1, 1, 0, 1, 0, 0, 1, 1, 0, 0, 1, 1, 0, 0] [9, 8, 5, 4, 3, 0] s) (saUpto t p).length
    (fun i s => s = ([.int .i64 a, .int .i64 b, .int .i64 i, .int .i64 p, .slice h, .slice ht], σ) ∧ lessN t p (saUpto t p) = i + lessN t p ((saUpto t p).drop i))
    (fun r => r = (AX.exit 2, [(9, .int .i64 a), (8, .int .i64 b), (5, .int .i64 (lessN t p (saUpto t p))), (4, .int .i64 p), (3, .slice h), (0, .slice ht)], σ))
    (by
      rintro i s hi ⟨rfl, hq⟩
      have i0 : (0 : Int) ≤ i := by omega
      have i1 : (i : Int) < (saUpto t p).length := by omega
      have w : IntKind.wrap .i64 ((i : Int) + 1) = (i + 1 : Nat) := wrap64 (by omega) (by omega)
      have rx := S.rng _ (rd_mem i0 i1)
      obtain ⟨k1, r1⟩ := less_run hT1 (by omega) (a := rd (saUpto t p) i) (b := p) rx.1 (by omega) (by omega) (by omega)
      rw [drop_rd hi, lessN] at hq
      by_cases c : sl t (rd (saUpto t p) i) p
      · rw [if_pos c] at hq
        refine .inl ⟨_, ⟨k1, fun k hk => ?_⟩, rfl, by omega⟩
        have r1 := r1 k hk
        simp only [c, decide_true] at r1
        simp only [f15_L11010011001100]; simp only [Option.bind_some, decide_eq_true_eq, decide_eq_false_iff_not, Bool.not_eq_true', Bool.not_true, Bool.not_false, Bool.false_eq_true, Bool.true_eq_false, Bool.not_eq_eq_eq_not, beq_self_eq_true, beqFT, beqTF, decide_true, decide_false, not_false_eq_true, not_true_eq_false, ne_eq, true_and, and_true, false_and, and_false, and_self, if_true, if_false, ite_true, ite_false, Bool.and_true, Bool.and_false, Bool.true_and, Bool.false_and, Bool.or_true, Bool.true_or, Bool.or_false, Bool.false_or, or_true, true_or, or_false, false_or, or_self, AV.asInt, AV.asBool, AV.asSl, AV.asPtr, AV.asFn, AV.asStr, AV.asMap, AV.asIfc, AV.item, List.length_cons, List.length_nil, List.getElem?_cons_zero, List.getElem?_cons_succ, Nat.zero_add, ll, i0, i1, g.ints.rd i0 i1, r1, w]
      · rw [if_neg c] at hq
        refine .inr ⟨_, ⟨k1, fun k hk => ?_⟩, rfl⟩
        have r1 := r1 k hk
        simp only [c, decide_false] at r1
        simp only [f15_L11010011001100]; simp only [Option.bind_some, decide_eq_true_eq, decide_eq_false_iff_not, Bool.not_eq_true', Bool.not_true, Bool.not_false, Bool.false_eq_true, Bool.true_eq_false, Bool.not_eq_eq_eq_not, beq_self_eq_true, beqFT, beqTF, decide_true, decide_false, not_false_eq_true, not_true_eq_false, ne_eq, true_and, and_true, false_and, and_false, and_self, if_true, if_false, ite_true, ite_false, Bool.and_true, Bool.and_false, Bool.true_and, Bool.false_and, Bool.or_true, Bool.true_or, Bool.or_false, Bool.false_or, or_true, true_or, or_false, false_or, or_self, AV.asInt, AV.asBool, AV.asSl, AV.asPtr, AV.asFn, AV.asStr, AV.asMap, AV.asIfc, AV.item, List.length_cons, List.length_nil, List.getElem?_cons_zero, List.getElem?_cons_succ, Nat.zero_add, ll, i0, i1, g.ints.rd i0 i1, r1, hq, Nat.add_zero])
    (by
      rintro s ⟨rfl, hq⟩
      rw [List.drop_length, lessN, Nat.add_zero] at hq
      refine ⟨_, Ev.of fun k => by simp only [f15_L11010011001100]; simp only [Option.bind_some, decide_eq_true_eq, decide_eq_false_iff_not, Bool.not_eq_true', Bool.not_true, Bool.not_false, Bool.false_eq_true, Bool.true_eq_false, Bool.not_eq_eq_eq_not, beq_self_eq_true, beqFT, beqTF, decide_true, decide_false, not_false_eq_true, not_true_eq_false, ne_eq, true_and, and_true, false_and, and_false, and_self, if_true, if_false, ite_true, ite_false, Bool.and_true, Bool.and_false, Bool.true_and, Bool.false_and, Bool.or_true, Bool.true_or, Bool.or_false, Bool.false_or, or_true, true_or, or_false, false_or, or_self, AV.asInt, AV.asBool, AV.asSl, AV.asPtr, AV.asFn, AV.asStr, AV.asMap, AV.asIfc, AV.item, List.length_cons, List.length_nil, List.getElem?_cons_zero, List.getElem?_cons_succ, Nat.zero_add, ll, Int.lt_irrefl, hq], rfl⟩)
    (Nat.zero_le _) (s := ([.int .i64 a, .int .i64 b, .int .i64 0, .int .i64 p, .slice h, .slice ht], σ)) ⟨rfl, by simp⟩
  subst q; exact e
theorem ref9_shift {σ : Store} {n : Nat} {h : Hdl} {o : List Int} {at_ : Nat} {a b p : Int} (hpr : σ.prot ≤ n) (ho : o.length < 2 ^ 41) (ha : at_ ≤ o.length) (m : Nat) : ∀ (σ1 : Store) (x : Int), at_ + m ≤ o.length → Kp n σ σ1 → GrowI σ1 n h (o.take (at_ + m) ++ x :: o.drop (at_ + m)) →
    ∃ σ2 y, EvI (fun k s => stepF Try.prog (gm Try.prog k) drawn k Try.f15 [1, 1, 0, 1, 0, 0, 1, 1, 0, 0, 1, 1, 1, 1, 0, 1, 0] [9, 8, 6, 5, 4, 3, 0] s)
      ([.int .i64 a, .int .i64 b, .int .i64 (at_ + m : Nat), .int .i64 at_, .int .i64 p, .slice h, .slice ht], σ1) (AX.exit 4, [(9, .int .i64 a), (8, .int .i64 b), (5, .int .i64 at_), (4, .int .i64 p), (3, .slice h), (0, .slice ht)], σ2) ∧
      Kp n σ σ2 ∧ GrowI σ2 n h (o.take at_ ++ y :: o.drop at_) := by
  induction m with
  | zero =>
    intro σ1 x hm k1 g
    exact ⟨σ1, x, EvI.done (Ev.of fun k => by simp only [f15_L11010011001111010]; simp only [Option.bind_some, decide_eq_true_eq, decide_eq_false_iff_not, Bool.not_eq_true', Bool.not_true, Bool.not_false, Bool.false_eq_true, Bool.true_eq_false, Bool.not_eq_eq_eq_not, beq_self_eq_true, beqFT, beqTF, decide_true, decide_false, not_false_eq_true, not_true_eq_false, ne_eq, true_and, and_true, false_and, and_false, and_self, if_true, if_false, ite_true, ite_false, Bool.and_true, Bool.and_false, Bool.true_and, Bool.false_and, Bool.or_true, Bool.true_or, Bool.or_false, Bool.false_or, or_true, true_or, or_false, false_or, or_self, AV.asInt, AV.asBool, AV.asSl, AV.asPtr, AV.asFn, AV.asStr, AV.asMap, AV.asIfc, AV.item, List.length_cons, List.length_nil, List.getElem?_cons_zero, List.getElem?_cons_succ, Nat.zero_add, Nat.add_zero, Int.lt_irrefl]), k1, g⟩
  | succ m ih =>
    intro σ1 x hm k1 g
    have ll := g.ints.ilen
    have lL : (o.take (at_ + (m + 1)) ++ x :: o.drop (at_ + (m + 1))).length = o.length + 1 := by simp; omega
    have w : IntKind.wrap .i64 (((at_ + (m + 1) : Nat) : Int) - 1) = ((at_ + m : Nat) : Int) := by rw [wrap64 (by omega) (by omega)]; omega
    have c1 : (at_ : Int) < (at_ + (m + 1) : Nat) := by omega
    have c2 : (0 : Int) ≤ (at_ + m : Nat) := by omega
    have c3 : ((at_ + m : Nat) : Int) < h.len := by omega
    have c4 : (0 : Int) ≤ (at_ + (m + 1) : Nat) := by omega
    have c5 : ((at_ + (m + 1) : Nat) : Int) < h.len := by omega
    have r1 := g.ints.rd c2 (by omega)
    obtain ⟨σ2, e2, k2, g2, _⟩ := growN_st (k := .i64) g (by rw [k1.prot]; exact hpr) c4 (by omega) (rd (o.take (at_ + (m + 1)) ++ x :: o.drop (at_ + (m + 1))) ((at_ + m : Nat) : Int))
    have sm := set_mid (l := o) (i := at_ + (m + 1)) (by omega) hm x
    rw [show ((at_ + (m + 1) : Nat) : Int) - 1 = ((at_ + m : Nat) : Int) by omega, show at_ + (m + 1) - 1 = at_ + m by omega] at sm
    rw [show ((at_ + (m + 1) : Nat) : Int).toNat = at_ + (m + 1) by omega, sm] at g2
    obtain ⟨σ3, y, e3, k3, g3⟩ := ih σ2 _ (by omega) (k1.trans k2) g2
    exact ⟨σ3, y, EvI.step (Ev.of fun k => by simp only [f15_L11010011001111010]; simp only [Option.bind_some, decide_eq_true_eq, decide_eq_false_iff_not, Bool.not_eq_true', Bool.not_true, Bool.not_false, Bool.false_eq_true, Bool.true_eq_false, Bool.not_eq_eq_eq_not, beq_self_eq_true, beqFT, beqTF, decide_true, decide_false, not_false_eq_true, not_true_eq_false, ne_eq, true_and, and_true, false_and, and_false, and_self, if_true, if_false, ite_true, ite_false, Bool.and_true, Bool.and_false, Bool.true_and, Bool.false_and, Bool.or_true, Bool.true_or, Bool.or_false, Bool.false_or, or_true, true_or, or_false, false_or, or_self, AV.asInt, AV.asBool, AV.asSl, AV.asPtr, AV.asFn, AV.asStr, AV.asMap, AV.asIfc, AV.item, List.length_cons, List.length_nil, List.getElem?_cons_zero, List.getElem?_cons_succ, Nat.zero_add, c1, w, c2, c3, c4, c5, r1, e2]) e3, k3, g3⟩
theorem ref9_array (hT : σ0.Ints ht t) (hn : t.length < 2 ^ 41) (hpr : σ0.prot ≤ σ0.objs.length) :
    ∃ ho σ', Runs Try.prog 15 [.slice ht] σ0 (.slice ho) σ' ∧ Kp σ0.objs.length σ0 σ' ∧ GrowI σ' σ0.objs.length ho (saOf t) := by
  have lt := hT.ilen
  obtain ⟨r, e, ho, σ', rfl, k', g'⟩ := EvI.up (f := fun k s => stepF Try.prog (gm Try.prog k) drawn k Try.f15 [1, 1, 0, 1, 0] [9, 8, 3, 0] s) t.length
    (fun i s => ∃ h σ1, s = ([.int .i64 i, .int .i64 t.length, .slice h, .slice ht], σ1) ∧ Kp σ0.objs.length σ0 σ1 ∧ GrowI σ1 σ0.objs.length h (saUpto t i))
    (fun r => ∃ h σ1, r = (AX.exit 0, [(3, .slice h)], σ1) ∧ Kp σ0.objs.length σ0 σ1 ∧ GrowI σ1 σ0.objs.length h (saOf t))
    (by
      rintro i s hi ⟨h, σ1, rfl, k1, g⟩
      have i1 : (i : Int) < t.length := by omega
      have S := srt_upto t i (by omega)
      have lo : ((saUpto t i).length : Int) = i := S.len (by omega)
      have lN := (lessN_spec t i _ S.ord).1
      have w : IntKind.wrap .i64 ((i : Int) + 1) = (i + 1 : Nat) := wrap64 (by omega) (by omega)
      obtain ⟨n1, e1⟩ := loopF_ev (ref9_find (a := i) (b := t.length) hT hn k1 hi g)
      obtain ⟨h2, σ2, e2, k2, g2⟩ := g.app (by rw [k1.prot]; exact hpr) k1.len 0 (by omega)
      have l2 := g2.ints.ilen
      have g2' : GrowI σ2 σ0.objs.length h2 ((saUpto t i).take (lessN t i (saUpto t i) + ((saUpto t i).length - lessN t i (saUpto t i))) ++ 0 :: (saUpto t i).drop (lessN t i (saUpto t i) + ((saUpto t i).length - lessN t i (saUpto t i)))) := by
        rw [show lessN t i (saUpto t i) + ((saUpto t i).length - lessN t i (saUpto t i)) = (saUpto t i).length by omega, List.take_length, List.drop_length]; exact g2
      obtain ⟨σ3, y, e3, k3, g3⟩ := ref9_shift (σ := σ2) (ht := ht) (a := i) (b := t.length) (p := i) (at_ := lessN t i (saUpto t i)) (by rw [k2.prot, k1.prot]; exact hpr) (by omega) lN _ σ2 0 (by omega) (Kp.refl _ _) g2'
      obtain ⟨n3, e3⟩ := loopF_ev e3
      have l3 := g3.ints.ilen
      obtain ⟨σ4, e4, k4, g4, _⟩ := growN_st (k := .i64) g3 (by rw [k3.prot, k2.prot, k1.prot]; exact hpr) (i := (lessN t i (saUpto t i) : Int)) (by omega) (by simp; omega) (i : Int)
      rw [show (((lessN t i (saUpto t i) : Nat) : Int)).toNat = lessN t i (saUpto t i) by omega, set_at lN] at g4
      refine ⟨_, ⟨n1 + n3, fun k hk => ?_⟩, h2, σ4, rfl, (k1.trans k2).trans (k3.trans k4), g4⟩
      have e1 := e1 k (by omega)
      have e3 := e3 k (by omega)
      simp only at e1 e3
      simp only [f15_L11010]
      simp only [Option.bind_some, decide_eq_true_eq, decide_eq_false_iff_not, Bool.not_eq_true', Bool.not_true, Bool.not_false, Bool.false_eq_true, Bool.true_eq_false, Bool.not_eq_eq_eq_not, beq_self_eq_true, beqFT, beqTF, decide_true, decide_false, not_false_eq_true, not_true_eq_false, ne_eq, true_and, and_true, false_and, and_false, and_self, if_true, if_false, ite_true, ite_false, Bool.and_true, Bool.and_false, Bool.true_and, Bool.false_and, Bool.or_true, Bool.true_or, Bool.or_false, Bool.false_or, or_true, true_or, or_false, false_or, or_self, AV.asInt, AV.asBool, AV.asSl, AV.asPtr, AV.asFn, AV.asStr, AV.asMap, AV.asIfc, AV.item, List.length_cons, List.length_nil, List.getElem?_cons_zero, List.getElem?_cons_succ, Nat.zero_add, i1, e1]
      rw [f15_X11010011001100_1]
      have w2 : IntKind.wrap .i64 (((h2.len : Nat) : Int) - 1) = ((lessN t i (saUpto t i) + ((saUpto t i).length - lessN t i (saUpto t i)) : Nat) : Int) := by
        rw [wrap64 (by simp at l2; omega) (by simp at l2; omega)]; simp at l2; omega
      simp only [Option.bind_some, decide_eq_true_eq, decide_eq_false_iff_not, Bool.not_eq_true', Bool.not_true, Bool.not_false, Bool.false_eq_true, Bool.true_eq_false, Bool.not_eq_eq_eq_not, beq_self_eq_true, beqFT, beqTF, decide_true, decide_false, not_false_eq_true, not_true_eq_false, ne_eq, true_and, and_true, false_and, and_false, and_self, if_true, if_false, ite_true, ite_false, Bool.and_true, Bool.and_false, Bool.true_and, Bool.false_and, Bool.or_true, Bool.true_or, Bool.or_false, Bool.false_or, or_true, true_or, or_false, false_or, or_self, AV.asInt, AV.asBool, AV.asSl, AV.asPtr, AV.asFn, AV.asStr, AV.asMap, AV.asIfc, AV.item, List.length_cons, List.length_nil, List.getElem?_cons_zero, List.getElem?_cons_succ, Nat.zero_add, read1, e2, w2, e3]
      rw [f15_X11010011001111010_1]
      have c1 : (0 : Int) ≤ lessN t i (saUpto t i) := by omega
      have c2 : ((lessN t i (saUpto t i) : Nat) : Int) < h2.len := by simp at l2; omega
      simp only [Option.bind_some, decide_eq_true_eq, decide_eq_false_iff_not, Bool.not_eq_true', Bool.not_true, Bool.not_false, Bool.false_eq_true, Bool.true_eq_false, Bool.not_eq_eq_eq_not, beq_self_eq_true, beqFT, beqTF, decide_true, decide_false, not_false_eq_true, not_true_eq_false, ne_eq, true_and, and_true, false_and, and_false, and_self, if_true, if_false, ite_true, ite_false, Bool.and_true, Bool.and_false, Bool.true_and, Bool.false_and, Bool.or_true, Bool.true_or, Bool.or_false, Bool.false_or, or_true, true_or, or_false, false_or, or_self, AV.asInt, AV.asBool, AV.asSl, AV.asPtr, AV.asFn, AV.asStr, AV.asMap, AV.asIfc, AV.item, List.length_cons, List.length_nil, List.getElem?_cons_zero, List.getElem?_cons_succ, Nat.zero_add, c1, c2, e4, w])
    (by
      rintro s ⟨h, σ1, rfl, k1, g⟩
      exact ⟨_, Ev.of fun k => by simp only [f15_L11010]; simp only [Option.bind_some, decide_eq_true_eq, decide_eq_false_iff_not, Bool.not_eq_true', Bool.not_true, Bool.not_false, Bool.false_eq_true, Bool.true_eq_false, Bool.not_eq_eq_eq_not, beq_self_eq_true, beqFT, beqTF, decide_true, decide_false, not_false_eq_true, not_true_eq_false, ne_eq, true_and, and_true, false_and, and_false, and_self, if_true, if_false, ite_true, ite_false, Bool.and_true, Bool.and_false, Bool.true_and, Bool.false_and, Bool.or_true, Bool.true_or, Bool.or_false, Bool.false_or, or_true, true_or, or_false, false_or, or_self, AV.asInt, AV.asBool, AV.asSl, AV.asPtr, AV.asFn, AV.asStr, AV.asMap, AV.asIfc, AV.item, List.length_cons, List.length_nil, List.getElem?_cons_zero, List.getElem?_cons_succ, Nat.zero_add, Int.lt_irrefl], h, σ1, rfl, k1, g⟩)
    (s := ([.int .i64 0, .int .i64 t.length, .slice Hdl.nil, .slice ht], σ0)) ⟨Hdl.nil, σ0, rfl, Kp.refl _ _, Grow.nil _ _ _⟩
  refine ⟨ho, σ', Runs.intro (fn := Try.f15) (by kernel_rfl) (by kernel_rfl) ?_, k', g'⟩
  exact (Ev.bind (loopF_ev e) (Ev.of fun k => f15_X11010_1 (gm Try.prog k) k σ' ho)).congr fun k => by rw [f15_eq, lt]
end
end Go.Ab


/- Turn; the reference's. -/
namespace Go.Ab
open Go Go.Proofs Go.Ab.Wd Go.Ab.Bs Go.Ab.Sai
set_option linter.unusedVariables false
set_option linter.unusedSimpArgs false
/-- Is a list a list of places, each once? -/
def permB (l : List Int) : Bool := (l.all fun x => decide (0 ≤ x) && decide (x < l.length)) && decide l.Nodup
theorem permB_iff {l : List Int} : permB l = true ↔ IsPerm l.length l := by
  simp only [permB, Bool.and_eq_true, List.all_eq_true, decide_eq_true_eq]
  exact ⟨fun ⟨h1, h2⟩ => ⟨rfl, h1, h2⟩, fun h => ⟨h.rng, h.nd⟩⟩
/-- The first i of l are marked. -/
structure Marks (f : Int → Int) (d : Int) (l : List Int) (i : Nat) (o : List Int) : Prop where
  len : o.length = l.length
  rng : ∀ p ∈ l.take i, 0 ≤ p ∧ p < l.length
  nd : (l.take i).Nodup
  val : ∀ p : Int, 0 ≤ p → p < l.length → rd o p = if p ∈ l.take i then f p else d
theorem Marks.start (f : Int → Int) (d : Int) (l : List Int) : Marks f d l 0 (List.replicate l.length d) :=
  ⟨by simp, by simp, by simp, fun p p0 p1 => by
    obtain ⟨p, rfl⟩ := Int.eq_ofNat_of_zero_le p0
    rw [rd_getElem (by simp; omega)]; simp⟩
theorem Marks.step {f : Int → Int} {d : Int} {l : List Int} {i : Nat} {o : List Int} (m : Marks f d l i o) (hi : i < l.length) (h0 : 0 ≤ rd l i) (h1 : rd l i < l.length) (hn : rd l i ∉ l.take i) : Marks f d l (i + 1) (o.set (rd l i).toNat (f (rd l i))) := by
  refine ⟨by simp [m.len], fun p hp => ?_, ?_, fun p p0 p1 => ?_⟩
  · rw [take_rd hi] at hp
    rcases List.mem_append.1 hp with hp | hp
    · exact m.rng p hp
    · rw [List.mem_singleton] at hp; rw [hp]; exact ⟨h0, h1⟩
  · rw [take_rd hi]
    exact List.nodup_append.2 ⟨m.nd, by simp, fun a ha b hb e => by rw [List.mem_singleton] at hb; subst hb; exact hn (e ▸ ha)⟩
  · rw [rd_set h0 (by rw [m.len]; exact h1) p0, take_rd hi, m.val p p0 p1]
    by_cases e : rd l i = p
    · rw [if_pos e, if_pos (by simp [e]), e]
    · rw [if_neg e]
      by_cases c : p ∈ l.take i
      · rw [if_pos c, if_pos (by simp [c])]
      · rw [if_neg c, if_neg (by simp [c]; exact fun h => e h.symm)]
def idx0 (l : List Int) (p : Int) : Int := (l.idxOf p : Nat)
theorem idx0_at {l : List Int} {i : Nat} (hi : i < l.length) (hn : rd l i ∉ l.take i) : idx0 l (rd l i) = i := by
  unfold idx0
  have e : l = l.take i ++ rd l i :: l.drop (i + 1) := by rw [← drop_rd hi, List.take_append_drop]
  have : ∀ x, (l.take i ++ rd l i :: l.drop (i + 1)).idxOf (rd l i) = x → l.idxOf (rd l i) = x := fun x h => by rwa [← e] at h
  rw [this i (by rw [List.idxOf_append, if_neg hn]; simp; omega)]
theorem Marks.end_ {l o : List Int} {d : Int} (m : Marks (idx0 l) d l l.length o) : IsPerm l.length l ∧ o = inv l := by
  have hp : IsPerm l.length l := ⟨rfl, fun p hp => m.rng p (by rwa [List.take_length]), by have := m.nd; rwa [List.take_length] at this⟩
  refine ⟨hp, Bs.ext_rd (by rw [m.len, inv_length]) fun p p0 p1 => ?_⟩
  rw [m.len] at p1
  rw [m.val p p0 p1, List.take_length, if_pos (hp.mem p0 p1), rd_inv p0 p1]; rfl
theorem not_perm {l : List Int} {i : Nat} (hi : i < l.length) (h : ¬ (0 ≤ rd l i ∧ rd l i < l.length) ∨ rd l i ∈ l.take i) : permB l = false := by
  rw [Bool.eq_false_iff]
  intro hb
  have hp := permB_iff.1 hb
  rcases h with h | h
  · exact h (hp.rng _ (rd_mem (by omega) (by omega)))
  · have hnd := hp.nd
    rw [show l = l.take i ++ rd l i :: l.drop (i + 1) by rw [← drop_rd hi, List.take_append_drop]] at hnd
    exact (List.nodup_append.1 hnd).2.2 _ h _ (List.mem_cons_self ..) rfl
theorem turn_run {σ : Store} {h : Hdl} {l : List Int} (hT : σ.Ints h l) (hp : σ.prot ≤ σ.objs.length) (hn : l.length ≤ 2 ^ 44) :
    ∃ ho σ', Runs Try.prog 49 [.slice h] σ (.tuple [.slice ho, .int .i64 (if permB l = true then 0 else 2)]) σ' ∧ Kp σ.objs.length σ σ' ∧ σ'.Ints ho (if permB l = true then inv l else []) ∧ σ'.Has ho := by
  have ll := hT.ilen
  obtain ⟨N, hN⟩ : ∃ N, N = σ.objs.length := ⟨_, rfl⟩
  obtain ⟨σ1, h1⟩ : ∃ x, x = σ.push (intsL (List.replicate l.length 0)) 1 := ⟨_, rfl⟩
  have k1 : Kp σ.objs.length σ σ1 := by rw [h1]; exact Kp.push _ _ (Nat.le_refl _)
  have r1 : σ1.Row N 1 (intsL (List.replicate l.length 0)) := by rw [h1, hN]; exact Store.Row.new
  -- all are -1
  obtain ⟨ra, ea, σ2, rfl, k2, r2⟩ := EvI.up (f := fun k s => stepF Try.prog (gm Try.prog k) drawn k Try.f49 [1, 1, 0, 1, 0] [13, 12, 4, 0] s) l.length
    (fun i s => ∃ o s1, s = ([.int .i64 i, .int .i64 l.length, .slice (hdS N l.length), .slice h], s1) ∧ Kp σ.objs.length σ s1 ∧ s1.Row N 1 (intsL o) ∧ o.length = l.length ∧ ∀ p : Int, 0 ≤ p → p < i → rd o p = -1)
    (fun r => ∃ s1, r = (AX.exit 0, [(4, .slice (hdS N l.length)), (0, .slice h)], s1) ∧ Kp σ.objs.length σ s1 ∧ s1.Row N 1 (intsL (List.replicate l.length (-1))))
    (by
      rintro i s hi ⟨o, s1, rfl, kk, rr, lo, ho⟩
      have i0 : (0 : Int) ≤ i := by omega
      have i1 : (i : Int) < l.length := by omega
      have w := wsucc hi (by omega)
      have st := st_ints (x := -1) (len := l.length) (cp := some l.length) rr (by rw [kk.prot]; omega) i0 (by omega)
      refine ⟨_, Ev.of fun k => by simp only [f49_L11010]; simp only [Option.bind_some, decide_eq_true_eq, decide_eq_false_iff_not, Bool.not_eq_true', Bool.not_true, Bool.not_false, Bool.false_eq_true, Bool.true_eq_false, Bool.not_eq_eq_eq_not, beq_self_eq_true, beqFT, beqTF, decide_true, decide_false, not_false_eq_true, not_true_eq_false, ne_eq, true_and, and_true, false_and, and_false, and_self, if_true, if_false, ite_true, ite_false, Bool.and_true, Bool.and_false, Bool.true_and, Bool.false_and, Bool.or_true, Bool.true_or, Bool.or_false, Bool.false_or, or_true, true_or, or_false, false_or, or_self, AV.asInt, AV.asBool, AV.asSl, AV.asPtr, AV.asFn, AV.asStr, AV.asMap, AV.asIfc, AV.item, List.length_cons, List.length_nil, List.getElem?_cons_zero, List.getElem?_cons_succ, Nat.zero_add, i0, i1, st, w], o.set (i : Int).toNat (-1), _, rfl, kk.setO (by omega), Store.Row.setO_eq rr.lt, by simpa using lo, fun p p0 p1 => ?_⟩
      rw [rd_set i0 (by omega) p0]
      split
      · rfl
      · exact ho p p0 (by omega))
    (by
      rintro s ⟨o, s1, rfl, kk, rr, lo, ho⟩
      have : o = List.replicate l.length (-1) := Bs.ext_rd (by simp [lo]) fun p p0 p1 => by
        rw [ho p p0 (by omega)]
        obtain ⟨p, rfl⟩ := Int.eq_ofNat_of_zero_le p0
        rw [rd_getElem (by simp; omega)]; simp
      subst this
      exact ⟨_, Ev.of fun k => by simp only [f49_L11010]; simp only [Option.bind_some, decide_eq_true_eq, decide_eq_false_iff_not, Bool.not_eq_true', Bool.not_true, Bool.not_false, Bool.false_eq_true, Bool.true_eq_false, Bool.not_eq_eq_eq_not, beq_self_eq_true, beqFT, beqTF, decide_true, decide_false, not_false_eq_true, not_true_eq_false, ne_eq, true_and, and_true, false_and, and_false, and_self, if_true, if_false, ite_true, ite_false, Bool.and_true, Bool.and_false, Bool.true_and, Bool.false_and, Bool.or_true, Bool.true_or, Bool.or_false, Bool.false_or, or_true, true_or, or_false, false_or, or_self, AV.asInt, AV.asBool, AV.asSl, AV.asPtr, AV.asFn, AV.asStr, AV.asMap, AV.asIfc, AV.item, List.length_cons, List.length_nil, List.getElem?_cons_zero, List.getElem?_cons_succ, Nat.zero_add, Int.lt_irrefl], s1, rfl, kk, rr⟩)
    (s := ([.int .i64 0, .int .i64 l.length, .slice (hdS N l.length), .slice h], σ1)) ⟨_, σ1, rfl, k1, r1, by simp, fun p p0 p1 => by omega⟩
  -- each place's place
  have hT2 : σ2.Ints h l := Store.Sl.kp hT k2
  obtain ⟨rb, eb, q⟩ := EvI.upX (f := fun k s => stepF Try.prog (gm Try.prog k) drawn k Try.f49 [1, 1, 1, 0, 1, 0] [22, 21, 20, 4, 0] s) l.length
    (fun i s => ∃ o s1, s = ([.int .i64 i, .int .i64 l.length, .slice h, .slice (hdS N l.length), .slice h], s1) ∧ Kp σ.objs.length σ s1 ∧ s1.Row N 1 (intsL o) ∧ Marks (idx0 l) (-1) l i o)
    (fun r => ∃ s1, Kp σ.objs.length σ s1 ∧ ((r = (AX.ret, [(3, .int .i64 2), (2, .slice Hdl.nil)], s1) ∧ permB l = false) ∨ (r = (AX.exit 2, [(4, .slice (hdS N l.length))], s1) ∧ permB l = true ∧ s1.Row N 1 (intsL (inv l)))))
    (by
      rintro i s hi ⟨o, s1, rfl, kk, rr, m⟩
      have i0 : (0 : Int) ≤ i := by omega
      have i1 : (i : Int) < l.length := by omega
      have w := wsucc hi (by omega)
      have hr := (Store.Ints.rd (Store.Sl.kp hT kk) i0 i1 : s1.ldInt .i64 (h.idx i 1) = _)
      by_cases c1 : rd l i < 0
      · exact .inr ⟨(AX.ret, [(3, .int .i64 2), (2, .slice Hdl.nil)], s1), Ev.of fun k => by simp only [f49_L111010]; simp only [Option.bind_some, decide_eq_true_eq, decide_eq_false_iff_not, Bool.not_eq_true', Bool.not_true, Bool.not_false, Bool.false_eq_true, Bool.true_eq_false, Bool.not_eq_eq_eq_not, beq_self_eq_true, beqFT, beqTF, decide_true, decide_false, not_false_eq_true, not_true_eq_false, ne_eq, true_and, and_true, false_and, and_false, and_self, if_true, if_false, ite_true, ite_false, Bool.and_true, Bool.and_false, Bool.true_and, Bool.false_and, Bool.or_true, Bool.true_or, Bool.or_false, Bool.false_or, or_true, true_or, or_false, false_or, or_self, AV.asInt, AV.asBool, AV.asSl, AV.asPtr, AV.asFn, AV.asStr, AV.asMap, AV.asIfc, AV.item, List.length_cons, List.length_nil, List.getElem?_cons_zero, List.getElem?_cons_succ, Nat.zero_add, ll, i0, i1, hr, c1], s1, kk, .inl ⟨rfl, not_perm hi (.inl (by omega))⟩⟩
      by_cases c2 : (l.length : Int) ≤ rd l i
      · exact .inr ⟨(AX.ret, [(3, .int .i64 2), (2, .slice Hdl.nil)], s1), Ev.of fun k => by simp only [f49_L111010]; simp only [Option.bind_some, decide_eq_true_eq, decide_eq_false_iff_not, Bool.not_eq_true', Bool.not_true, Bool.not_false, Bool.false_eq_true, Bool.true_eq_false, Bool.not_eq_eq_eq_not, beq_self_eq_true, beqFT, beqTF, decide_true, decide_false, not_false_eq_true, not_true_eq_false, ne_eq, true_and, and_true, false_and, and_false, and_self, if_true, if_false, ite_true, ite_false, Bool.and_true, Bool.and_false, Bool.true_and, Bool.false_and, Bool.or_true, Bool.true_or, Bool.or_false, Bool.false_or, or_true, true_or, or_false, false_or, or_self, AV.asInt, AV.asBool, AV.asSl, AV.asPtr, AV.asFn, AV.asStr, AV.asMap, AV.asIfc, AV.item, List.length_cons, List.length_nil, List.getElem?_cons_zero, List.getElem?_cons_succ, Nat.zero_add, ll, i0, i1, hr, c1, c2], s1, kk, .inl ⟨rfl, not_perm hi (.inl (by omega))⟩⟩
      have c3 : 0 ≤ rd l i := by omega
      have c4 : rd l i < l.length := by omega
      have ro := rr.ld_ints (len := l.length) (cp := some l.length) c3 (by rw [m.len]; exact c4)
      have mo := m.val _ c3 c4
      by_cases c5 : rd l i ∈ l.take i
      · rw [if_pos c5] at mo
        have c6 : 0 ≤ rd o (rd l i) := by rw [mo]; unfold idx0; omega
        exact .inr ⟨(AX.ret, [(3, .int .i64 2), (2, .slice Hdl.nil)], s1), Ev.of fun k => by simp only [f49_L111010]; simp only [Option.bind_some, decide_eq_true_eq, decide_eq_false_iff_not, Bool.not_eq_true', Bool.not_true, Bool.not_false, Bool.false_eq_true, Bool.true_eq_false, Bool.not_eq_eq_eq_not, beq_self_eq_true, beqFT, beqTF, decide_true, decide_false, not_false_eq_true, not_true_eq_false, ne_eq, true_and, and_true, false_and, and_false, and_self, if_true, if_false, ite_true, ite_false, Bool.and_true, Bool.and_false, Bool.true_and, Bool.false_and, Bool.or_true, Bool.true_or, Bool.or_false, Bool.false_or, or_true, true_or, or_false, false_or, or_self, AV.asInt, AV.asBool, AV.asSl, AV.asPtr, AV.asFn, AV.asStr, AV.asMap, AV.asIfc, AV.item, List.length_cons, List.length_nil, List.getElem?_cons_zero, List.getElem?_cons_succ, Nat.zero_add, ll, i0, i1, hr, c1, c2, c3, c4, ro, c6], s1, kk, .inl ⟨rfl, not_perm hi (.inr c5)⟩⟩
      · rw [if_neg c5] at mo
        have c6 : ¬ 0 ≤ rd o (rd l i) := by omega
        have st := st_ints (x := i) (len := l.length) (cp := some l.length) rr (by rw [kk.prot]; omega) c3 (by rw [m.len]; exact c4)
        have ms := m.step hi c3 c4 c5
        rw [idx0_at hi c5] at ms
        exact .inl ⟨_, Ev.of fun k => by simp only [f49_L111010]; simp only [Option.bind_some, decide_eq_true_eq, decide_eq_false_iff_not, Bool.not_eq_true', Bool.not_true, Bool.not_false, Bool.false_eq_true, Bool.true_eq_false, Bool.not_eq_eq_eq_not, beq_self_eq_true, beqFT, beqTF, decide_true, decide_false, not_false_eq_true, not_true_eq_false, ne_eq, true_and, and_true, false_and, and_false, and_self, if_true, if_false, ite_true, ite_false, Bool.and_true, Bool.and_false, Bool.true_and, Bool.false_and, Bool.or_true, Bool.true_or, Bool.or_false, Bool.false_or, or_true, true_or, or_false, false_or, or_self, AV.asInt, AV.asBool, AV.asSl, AV.asPtr, AV.asFn, AV.asStr, AV.asMap, AV.asIfc, AV.item, List.length_cons, List.length_nil, List.getElem?_cons_zero, List.getElem?_cons_succ, Nat.zero_add, ll, i0, i1, hr, c1, c2, c3, c4, ro, c6, st, w], o.set (rd l i).toNat i, _, rfl, kk.setO (by omega), Store.Row.setO_eq rr.lt, ms⟩)
    (by
      rintro s ⟨o, s1, rfl, kk, rr, m⟩
      obtain ⟨hp, rfl⟩ := m.end_
      exact ⟨_, Ev.of fun k => by simp only [f49_L111010]; simp only [Option.bind_some, decide_eq_true_eq, decide_eq_false_iff_not, Bool.not_eq_true', Bool.not_true, Bool.not_false, Bool.false_eq_true, Bool.true_eq_false, Bool.not_eq_eq_eq_not, beq_self_eq_true, beqFT, beqTF, decide_true, decide_false, not_false_eq_true, not_true_eq_false, ne_eq, true_and, and_true, false_and, and_false, and_self, if_true, if_false, ite_true, ite_false, Bool.and_true, Bool.and_false, Bool.true_and, Bool.false_and, Bool.or_true, Bool.true_or, Bool.or_false, Bool.false_or, or_true, true_or, or_false, false_or, or_self, AV.asInt, AV.asBool, AV.asSl, AV.asPtr, AV.asFn, AV.asStr, AV.asMap, AV.asIfc, AV.item, List.length_cons, List.length_nil, List.getElem?_cons_zero, List.getElem?_cons_succ, Nat.zero_add, Int.lt_irrefl], s1, kk, .inr ⟨rfl, permB_iff.2 hp, rr⟩⟩)
    (Nat.zero_le _) (s := ([.int .i64 0, .int .i64 l.length, .slice h, .slice (hdS N l.length), .slice h], σ2)) ⟨_, σ2, rfl, k2, r2, Marks.start _ _ _⟩
  have b1 : (0 : Int) ≤ l.length := by omega
  have b2 : (l.length : Int) * ((8 : Nat) : Int) ≤ 281474976710656 := by omega
  have start : ∀ k, evBody Try.prog (gm Try.prog k) drawn k Try.f49 [.slice h] σ = (loopF Try.prog (gm Try.prog k) drawn k Try.f49 [1, 1, 0, 1, 0] [13, 12, 4, 0] ([.int .i64 0, .int .i64 l.length, .slice (hdS N l.length), .slice h], σ1)).bind (contF Try.prog (gm Try.prog k) drawn k Try.f49 [1, 1, 0, 1, 0]) := by
    intro k
    rw [f49_eq]
    simp only [Option.bind_some, decide_eq_true_eq, decide_eq_false_iff_not, Bool.not_eq_true', Bool.not_true, Bool.not_false, Bool.false_eq_true, Bool.true_eq_false, Bool.not_eq_eq_eq_not, beq_self_eq_true, beqFT, beqTF, decide_true, decide_false, not_false_eq_true, not_true_eq_false, ne_eq, true_and, and_true, false_and, and_false, and_self, if_true, if_false, ite_true, ite_false, Bool.and_true, Bool.and_false, Bool.true_and, Bool.false_and, Bool.or_true, Bool.true_or, Bool.or_false, Bool.false_or, or_true, true_or, or_false, false_or, or_self, AV.asInt, AV.asBool, AV.asSl, AV.asPtr, AV.asFn, AV.asStr, AV.asMap, AV.asIfc, AV.item, List.length_cons, List.length_nil, List.getElem?_cons_zero, List.getElem?_cons_succ, Nat.zero_add, ll, Int.toNat_natCast, mkCells_int, ← h1, ← hN, b1, b2, Int.le_refl]
  have mid : ∀ k, contF Try.prog (gm Try.prog k) drawn k Try.f49 [1, 1, 0, 1, 0] (AX.exit 0, [(4, .slice (hdS N l.length)), (0, .slice h)], σ2) = (loopF Try.prog (gm Try.prog k) drawn k Try.f49 [1, 1, 1, 0, 1, 0] [22, 21, 20, 4, 0] ([.int .i64 0, .int .i64 l.length, .slice h, .slice (hdS N l.length), .slice h], σ2)).bind (contF Try.prog (gm Try.prog k) drawn k Try.f49 [1, 1, 1, 0, 1, 0]) := by
    intro k
    rw [f49_X11010_1, ll]
  obtain ⟨s1, kk, ⟨rfl, hb⟩ | ⟨rfl, hb, rr⟩⟩ := q
  · rw [if_neg (by rw [hb]; simp), if_neg (by rw [hb]; simp)]
    refine ⟨Hdl.nil, s1, Runs.intro (fn := Try.f49) (by kernel_rfl) (by kernel_rfl) ?_, kk, ints_nil _, Store.Has.nil _⟩
    refine (Ev.bind (loopF_ev ea) ?_).congr start
    exact (Ev.bind (loopF_ev eb) (Ev.of fun k => f49_X111010_1 (gm Try.prog k) k s1 _ _)).congr mid
  · rw [if_pos hb, if_pos hb]
    refine ⟨hdS N l.length, s1, Runs.intro (fn := Try.f49) (by kernel_rfl) (by kernel_rfl) ?_, kk, rr.sl (by simp [inv_length]), fun b e => by simp [Hdl.row] at e; have := rr.lt; omega⟩
    refine (Ev.bind (loopF_ev ea) ?_).congr start
    exact (Ev.bind (loopF_ev eb) (Ev.of fun k => f49_X111010_2 (gm Try.prog k) k s1 _)).congr mid
end Go.Ab


/- The reference's turning; the laws of layer 9, the first half. -/
namespace Go.Ab
open Go Go.Proofs Go.Ab.Wd Go.Ab.Bs Go.Ab.Sai
set_option linter.unusedVariables false
set_option linter.unusedSimpArgs false
end Go.Ab


/- The order of suffixes: of lists put by others, of tails. Plain Lean, no program. -/
namespace Go.Ab.Bs
open Go.Ab.Wd
set_option linter.unusedVariables false
set_option linter.unusedSimpArgs false
end Go.Ab.Bs


/- Lists turned by their suffixes' order, and back. Plain Lean, no program. -/
namespace Go.Ab.Bs
open Go.Ab.Wd
set_option linter.unusedVariables false
set_option linter.unusedSimpArgs false
/-- How many of a list have a property. -/
def cnt (p : Int → Bool) (l : List Int) : Nat := (l.filter p).length
theorem cnt_append (p : Int → Bool) (a b : List Int) : cnt p (a ++ b) = cnt p a + cnt p b := by simp [cnt]
theorem cnt_cons (p : Int → Bool) (x : Int) (l : List Int) : cnt p (x :: l) = (if p x = true then 1 else 0) + cnt p l := by
  unfold cnt
  by_cases c : p x = true
  · rw [if_pos c, List.filter_cons_of_pos c, List.length_cons]; omega
  · rw [if_neg c, List.filter_cons_of_neg c]; omega
theorem cnt_nil (p : Int → Bool) : cnt p [] = 0 := rfl
theorem cnt_le (p : Int → Bool) (l : List Int) : cnt p l ≤ l.length := List.length_filter_le _ _
theorem cnt_perm {a b : List Int} (h : a.Perm b) (p : Int → Bool) : cnt p a = cnt p b := (h.filter p).length_eq
theorem cnt_map (p : Int → Bool) (f : Int → Int) (l : List Int) : cnt p (l.map f) = cnt (fun x => p (f x)) l := by
  unfold cnt; rw [List.filter_map, List.length_map]; rfl
theorem cnt_congr {p q : Int → Bool} {l : List Int} (h : ∀ x ∈ l, p x = q x) : cnt p l = cnt q l := by unfold cnt; rw [List.filter_congr h]
theorem cnt_or {p q : Int → Bool} (l : List Int) (h : ∀ x ∈ l, ¬ (p x = true ∧ q x = true)) : cnt (fun x => p x || q x) l = cnt p l + cnt q l := by
  induction l with
  | nil => rfl
  | cons x l ih =>
    have ih := ih fun y hy => h y (by simp [hy])
    have hx := h x (by simp)
    rw [cnt_cons, cnt_cons, cnt_cons, ih]
    cases h1 : p x <;> cases h2 : q x <;> simp_all <;> omega
theorem cnt_take_succ (p : Int → Bool) {l : List Int} {i : Nat} (hi : i < l.length) : cnt p (l.take (i + 1)) = cnt p (l.take i) + if p (rd l i) = true then 1 else 0 := by
  have : l.take (i + 1) = l.take i ++ [rd l i] := by rw [List.take_add_one, rd_getElem hi]; simp [hi]
  rw [this, cnt_append, cnt_cons, cnt_nil]; omega
theorem cnt_take_le (p : Int → Bool) (l : List Int) (i : Nat) : cnt p (l.take i) ≤ cnt p l := by
  conv => rhs; rw [← List.take_append_drop i l, cnt_append]
  omega
/-- The turned row. -/
def prev (n : Nat) (p : Int) : Int := if p = 0 then n - 1 else p - 1
def bwtOf (t sa : List Int) : List Int := sa.map fun p => rd t (prev t.length p)
theorem bwtOf_length (t sa : List Int) : (bwtOf t sa).length = sa.length := by simp [bwtOf]
theorem rd_map {f : Int → Int} {l : List Int} {i : Int} (h0 : 0 ≤ i) (h1 : i < l.length) : rd (l.map f) i = f (rd l i) := by
  obtain ⟨i, rfl⟩ := Int.eq_ofNat_of_zero_le h0
  rw [rd_getElem (by simp; omega), rd_getElem (by omega)]; simp
theorem rd_bwtOf {t sa : List Int} {i : Int} (h0 : 0 ≤ i) (h1 : i < sa.length) : rd (bwtOf t sa) i = rd t (prev t.length (rd sa i)) := rd_map h0 h1
theorem prev_rng {n : Nat} {p : Int} (h0 : 0 ≤ p) (h1 : p < n) : 0 ≤ prev n p ∧ prev n p < n := by unfold prev; split <;> omega
theorem prev_inj {n : Nat} {p q : Int} (h0 : 0 ≤ p) (h1 : p < n) (g0 : 0 ≤ q) (g1 : q < n) (h : prev n p = prev n q) : p = q := by unfold prev at h; split at h <;> split at h <;> omega
theorem prev_perm {n : Nat} {sa : List Int} (h : IsPerm n sa) : IsPerm n (sa.map (prev n)) := by
  refine ⟨by simp [h.len], fun p hp => ?_, ?_⟩
  · obtain ⟨q, hq, rfl⟩ := List.mem_map.1 hp
    have := h.rng q hq
    exact prev_rng this.1 this.2
  · unfold List.Nodup
    rw [List.pairwise_map]
    refine h.nd.imp_of_mem fun {a b} ha hb hne e => hne ?_
    have ra := h.rng a ha
    have rb := h.rng b hb
    exact prev_inj ra.1 ra.2 rb.1 rb.2 e
theorem places_rd (t : List Int) : (places t.length).map (rd t) = t := by
  refine ext_rd (by simp [places]) fun i i0 i1 => ?_
  simp only [List.length_map, places_length] at i1
  rw [rd_map i0 (by rw [places_length]; exact i1)]
  obtain ⟨i, rfl⟩ := Int.eq_ofNat_of_zero_le i0
  rw [rd_getElem (l := places t.length) (by rw [places_length]; omega)]
  simp [places]
/-- A turned row has the same numbers. -/
theorem bwtOf_perm {t sa : List Int} (h : IsPerm t.length sa) : (bwtOf t sa).Perm t := by
  have h1 : bwtOf t sa = (sa.map (prev t.length)).map (rd t) := by simp [bwtOf, Function.comp_def]
  rw [h1]
  have := (prev_perm h).perm.map (rd t)
  rwa [places_rd] at this
/-- Where the row ahead of each one stands. -/
def lf (b : List Int) (i : Int) : Int := (cnt (fun x => decide (x < rd b i)) b + cnt (fun x => decide (x = rd b i)) (b.take i.toNat) : Nat)
theorem lf_rng {b : List Int} {i : Int} (h0 : 0 ≤ i) (h1 : i < b.length) : 0 ≤ lf b i ∧ lf b i < b.length := by
  obtain ⟨i, rfl⟩ := Int.eq_ofNat_of_zero_le h0
  refine ⟨by unfold lf; omega, ?_⟩
  have e1 := cnt_or (p := fun x => decide (x < rd b i)) (q := fun x => decide (x = rd b i)) b (fun x _ => by simp; omega)
  have e2 := cnt_le (fun x => decide (x < rd b i) || decide (x = rd b i)) b
  have e3 := cnt_take_succ (fun x => decide (x = rd b i)) (l := b) (i := i) (by omega)
  rw [if_pos (by simp)] at e3
  have e4 := cnt_take_le (fun x => decide (x = rd b i)) b (i + 1)
  unfold lf
  rw [show ((i : Int)).toNat = i by omega]
  omega
/-- How many stand ahead of a place in order. -/
theorem rank_of {t sa : List Int} (h : IsSA t sa) {j : Int} (j0 : 0 ≤ j) (j1 : j < t.length) : (cnt (fun x => decide (sl t x (rd sa j))) sa : Int) = j := by
  obtain ⟨j, rfl⟩ := Int.eq_ofNat_of_zero_le j0
  have hl := h.perm.len
  have e : sa = sa.take j ++ sa.drop j := (List.take_append_drop j sa).symm
  have h1 : cnt (fun x => decide (sl t x (rd sa j))) (sa.take j) = j := by
    unfold cnt
    rw [List.filter_eq_self.2 fun x hx => ?_]
    · simp; omega
    · obtain ⟨i, i0, i1, rfl⟩ := mem_rd hx
      simp only [List.length_take] at i1
      have : rd (sa.take j) i = rd sa i := by
        obtain ⟨i, rfl⟩ := Int.eq_ofNat_of_zero_le i0
        rw [rd_getElem (by simp; omega), rd_getElem (by omega)]; simp
      rw [this]
      exact decide_eq_true (h.lt i0 (by omega) (by omega))
  have h2 : cnt (fun x => decide (sl t x (rd sa j))) (sa.drop j) = 0 := by
    unfold cnt
    rw [List.filter_eq_nil_iff.2 fun x hx => ?_]
    · rfl
    · obtain ⟨i, i0, i1, rfl⟩ := mem_rd hx
      simp only [List.length_drop] at i1
      have : rd (sa.drop j) i = rd sa (j + i) := by
        obtain ⟨i, rfl⟩ := Int.eq_ofNat_of_zero_le i0
        rw [show (j : Int) + (i : Int) = ((j + i : Nat) : Int) by omega, rd_getElem (by simp; omega), rd_getElem (by omega)]; simp
      rw [this]
      simp only [decide_eq_true_eq]
      intro hs
      by_cases c : i = 0
      · rw [c, Int.add_zero] at hs; exact sl_irrefl _ _ hs
      · exact sl_irrefl _ _ (sl_trans (h.lt j0 (show (j : Int) < j + i by omega) (by omega)) hs)
  conv => lhs; rw [show cnt (fun x => decide (sl t x (rd sa j))) sa = cnt (fun x => decide (sl t x (rd sa j))) (sa.take j ++ sa.drop j) by rw [List.take_append_drop]]
  rw [cnt_append, h1, h2]; simp
/-- The last number is there once. -/
def Ends (t : List Int) : Prop := 0 < t.length ∧ ∀ i : Int, 0 ≤ i → i + 1 < t.length → rd t i ≠ rd t (t.length - 1)
theorem sl_prev {t sa : List Int} (h : IsSA t sa) (he : Ends t) {i j : Int} (i0 : 0 ≤ i) (i1 : i < t.length) (j0 : 0 ≤ j) (j1 : j < t.length) :
    sl t (prev t.length (rd sa j)) (prev t.length (rd sa i)) ↔ rd (bwtOf t sa) j < rd (bwtOf t sa) i ∨ (rd (bwtOf t sa) j = rd (bwtOf t sa) i ∧ j < i) := by
  have hl := h.perm.len
  rw [rd_bwtOf j0 (by omega), rd_bwtOf i0 (by omega)]
  have ri := h.perm.rng _ (rd_mem i0 (show i < sa.length by omega))
  have rj := h.perm.rng _ (rd_mem j0 (show j < sa.length by omega))
  have pi := prev_rng ri.1 ri.2
  have pj := prev_rng rj.1 rj.2
  have hji : rd sa j = rd sa i ↔ j = i := ⟨fun e => nodup_rd h.perm.nd j0 (by omega) i0 (by omega) e, fun e => by rw [e]⟩
  have hlt : sl t (rd sa j) (rd sa i) ↔ j < i := by
    constructor
    · intro hs
      rcases Int.lt_trichotomy j i with c | c | c
      · exact c
      · rw [c] at hs; exact absurd hs (sl_irrefl _ _)
      · exact absurd (sl_trans hs (h.lt i0 c j1)) (sl_irrefl _ _)
    · intro c; exact h.lt j0 c i1
  have hend : ∀ p : Int, 0 ≤ p → p < t.length → p ≠ t.length - 1 → rd t p ≠ rd t (t.length - 1) := fun p p0 p1 pn => he.2 p p0 (by omega)
  rw [sl_step pj.1 pj.2 pi.1 pi.2]
  by_cases ci : rd sa i = 0
  · have ei : prev t.length (rd sa i) = t.length - 1 := by unfold prev; rw [if_pos ci]
    by_cases cj : rd sa j = 0
    · have e : j = i := hji.1 (by omega)
      subst e
      constructor
      · rintro (h1 | ⟨h1, h2⟩)
        · omega
        · exact absurd h2 (sl_irrefl _ _)
      · rintro (h1 | ⟨h1, h2⟩) <;> omega
    · have hj : prev t.length (rd sa j) ≠ t.length - 1 := by unfold prev; rw [if_neg cj]; omega
      have := hend _ pj.1 pj.2 hj
      rw [ei]
      constructor
      · rintro (h1 | ⟨h1, h2⟩)
        · exact .inl h1
        · exact absurd h1 this
      · rintro (h1 | ⟨h1, h2⟩)
        · exact .inl h1
        · exact absurd h1 this
  · have ei : prev t.length (rd sa i) + 1 = rd sa i := by unfold prev; rw [if_neg ci]; omega
    by_cases cj : rd sa j = 0
    · have ej : prev t.length (rd sa j) = t.length - 1 := by unfold prev; rw [if_pos cj]
      have hi : prev t.length (rd sa i) ≠ t.length - 1 := by omega
      have := hend _ pi.1 pi.2 hi
      rw [ej]
      constructor
      · rintro (h1 | ⟨h1, h2⟩)
        · exact .inl h1
        · exact absurd h1.symm this
      · rintro (h1 | ⟨h1, h2⟩)
        · exact .inl h1
        · exact absurd h1.symm this
    · have ej : prev t.length (rd sa j) + 1 = rd sa j := by unfold prev; rw [if_neg cj]; omega
      rw [ei, ej, hlt]
theorem lf_spec {t sa : List Int} (h : IsSA t sa) (he : Ends t) {i : Int} (i0 : 0 ≤ i) (i1 : i < t.length) : rd sa (lf (bwtOf t sa) i) = prev t.length (rd sa i) := by
  have hl := h.perm.len
  have ri := h.perm.rng _ (rd_mem i0 (show i < sa.length by omega))
  have pi := prev_rng ri.1 ri.2
  obtain ⟨j, j0, j1, hj⟩ : ∃ j : Int, 0 ≤ j ∧ j < t.length ∧ rd sa j = prev t.length (rd sa i) := by
    obtain ⟨j, j0, j1, e⟩ := mem_rd (h.perm.mem pi.1 pi.2)
    exact ⟨j, j0, by omega, e⟩
  rw [← hj]
  congr 1
  rw [← rank_of h j0 j1, hj]
  -- count by rows
  have e1 : cnt (fun x => decide (sl t x (prev t.length (rd sa i)))) sa = cnt (fun x => decide (sl t (prev t.length x) (prev t.length (rd sa i)))) sa := by
    rw [← cnt_map (fun x => decide (sl t x (prev t.length (rd sa i)))) (prev t.length) sa]
    exact cnt_perm (h.perm.perm.trans (prev_perm h.perm).perm.symm) _
  rw [e1]
  unfold lf
  have key : ∀ m : Nat, m ≤ t.length → cnt (fun x => decide (sl t (prev t.length x) (prev t.length (rd sa i)))) (sa.take m) =
      cnt (fun x => decide (x < rd (bwtOf t sa) i)) ((bwtOf t sa).take m) + cnt (fun x => decide (x = rd (bwtOf t sa) i)) ((bwtOf t sa).take (min m i.toNat)) := by
    intro m
    induction m with
    | zero => intro _; simp [cnt]
    | succ m ih =>
      intro hm
      have ih := ih (by omega)
      have hlb := bwtOf_length t sa
      rw [cnt_take_succ _ (by omega), cnt_take_succ _ (by omega), ih]
      have sp := sl_prev h he i0 i1 (show (0 : Int) ≤ m by omega) (show (m : Int) < t.length by omega)
      by_cases c : m < i.toNat
      · rw [show min (m + 1) i.toNat = m + 1 by omega, show min m i.toNat = m by omega, cnt_take_succ _ (by omega)]
        by_cases c1 : rd (bwtOf t sa) m < rd (bwtOf t sa) i
        · rw [if_pos (decide_eq_true (sp.2 (.inl c1))), if_pos (decide_eq_true c1), if_neg (by simp; omega)]; omega
        · by_cases c2 : rd (bwtOf t sa) m = rd (bwtOf t sa) i
          · rw [if_pos (decide_eq_true (sp.2 (.inr ⟨c2, by omega⟩))), if_neg (by simpa using c1), if_pos (decide_eq_true c2)]; omega
          · rw [if_neg (by simp only [decide_eq_true_eq]; intro hs; rcases sp.1 hs with g | ⟨g, _⟩ <;> omega), if_neg (by simpa using c1), if_neg (by simpa using c2)]; omega
      · rw [show min (m + 1) i.toNat = i.toNat by omega, show min m i.toNat = i.toNat by omega]
        by_cases c1 : rd (bwtOf t sa) m < rd (bwtOf t sa) i
        · rw [if_pos (decide_eq_true (sp.2 (.inl c1))), if_pos (decide_eq_true c1)]; omega
        · rw [if_neg (by simp only [decide_eq_true_eq]; intro hs; rcases sp.1 hs with g | ⟨_, g⟩ <;> omega), if_neg (by simpa using c1)]; omega
  have := key t.length (Nat.le_refl _)
  rw [← hl, List.take_length, hl] at this
  rw [this, show (bwtOf t sa).take t.length = bwtOf t sa by rw [List.take_of_length_le (by rw [bwtOf_length]; omega)], show min t.length i.toNat = i.toNat by omega]
/-- The list of which b is the turned row, from behind. -/
def walk (b : List Int) : Nat → Int → List Int
  | 0, _ => []
  | m + 1, i => rd b i :: walk b m (lf b i)
end Go.Ab.Bs


/- slices.Equal, Contains, Min; the turned row, by the program and by the reference. -/
namespace Go.Ab
open Go Go.Proofs Go.Ab.Wd Go.Ab.Bs Go.Ab.Sai
set_option linter.unusedVariables false
set_option linter.unusedSimpArgs false
theorem equal_run {σ : Store} {h h' : Hdl} {a b : List Int} (ha : σ.Ints h a) (hb : σ.Ints h' b) (hn : a.length < 2 ^ 62) : Runs Try.prog 28 [.slice h, .slice h'] σ (.bool (decide (a = b))) σ := by
  refine Runs.intro (fn := Try.f28) (by kernel_rfl) (by kernel_rfl) ?_
  have la := ha.ilen
  have lb := hb.ilen
  by_cases c : a.length = b.length
  · obtain ⟨r, e, q⟩ := EvI.upX (f := fun k s => stepF Try.prog (gm Try.prog k) drawn k Try.f28 [1, 1, 0, 1, 0] [13, 12, 1, 0] s) a.length
      (fun i s => s = ([.int .i64 i, .int .i64 a.length, .slice h', .slice h], σ) ∧ a.take i = b.take i)
      (fun r => (r = (AX.ret, [(4, .bool false)], σ) ∧ a ≠ b) ∨ (r = (AX.exit 0, [], σ) ∧ a = b))
      (by
        rintro i s hi ⟨rfl, hp⟩
        have i0 : (0 : Int) ≤ i := by omega
        have i1 : (i : Int) < a.length := by omega
        have i2 : (i : Int) < b.length := by omega
        have w := wsucc hi hn
        by_cases e : rd a i = rd b i
        · exact .inl ⟨_, Ev.of fun k => by simp only [f28_L11010]; simp only [Option.bind_some, decide_eq_true_eq, decide_eq_false_iff_not, Bool.not_eq_true', Bool.not_true, Bool.not_false, Bool.false_eq_true, Bool.true_eq_false, Bool.not_eq_eq_eq_not, beq_self_eq_true, beqFT, beqTF, decide_true, decide_false, not_false_eq_true, not_true_eq_false, ne_eq, true_and, and_true, false_and, and_false, and_self, if_true, if_false, ite_true, ite_false, Bool.and_true, Bool.and_false, Bool.true_and, Bool.false_and, Bool.or_true, Bool.true_or, Bool.or_false, Bool.false_or, or_true, true_or, or_false, false_or, or_self, AV.asInt, AV.asBool, AV.asSl, AV.asPtr, AV.asFn, AV.asStr, AV.asMap, AV.asIfc, AV.item, List.length_cons, List.length_nil, List.getElem?_cons_zero, List.getElem?_cons_succ, Nat.zero_add, la, lb, i0, i1, i2, ha.rd i0 i1, hb.rd i0 i2, e, w], rfl, by rw [take_rd hi, take_rd (by omega), hp, e]⟩
        · exact .inr ⟨_, Ev.of fun k => by simp only [f28_L11010]; simp only [Option.bind_some, decide_eq_true_eq, decide_eq_false_iff_not, Bool.not_eq_true', Bool.not_true, Bool.not_false, Bool.false_eq_true, Bool.true_eq_false, Bool.not_eq_eq_eq_not, beq_self_eq_true, beqFT, beqTF, decide_true, decide_false, not_false_eq_true, not_true_eq_false, ne_eq, true_and, and_true, false_and, and_false, and_self, if_true, if_false, ite_true, ite_false, Bool.and_true, Bool.and_false, Bool.true_and, Bool.false_and, Bool.or_true, Bool.true_or, Bool.or_false, Bool.false_or, or_true, true_or, or_false, false_or, or_self, AV.asInt, AV.asBool, AV.asSl, AV.asPtr, AV.asFn, AV.asStr, AV.asMap, AV.asIfc, AV.item, List.length_cons, List.length_nil, List.getElem?_cons_zero, List.getElem?_cons_succ, Nat.zero_add, la, lb, i0, i1, i2, ha.rd i0 i1, hb.rd i0 i2, e, w], .inl ⟨rfl, fun h => e (by rw [h])⟩⟩)
      (by
        rintro s ⟨rfl, hp⟩
        refine ⟨_, Ev.of fun k => by simp only [f28_L11010]; simp only [Option.bind_some, decide_eq_true_eq, decide_eq_false_iff_not, Bool.not_eq_true', Bool.not_true, Bool.not_false, Bool.false_eq_true, Bool.true_eq_false, Bool.not_eq_eq_eq_not, beq_self_eq_true, beqFT, beqTF, decide_true, decide_false, not_false_eq_true, not_true_eq_false, ne_eq, true_and, and_true, false_and, and_false, and_self, if_true, if_false, ite_true, ite_false, Bool.and_true, Bool.and_false, Bool.true_and, Bool.false_and, Bool.or_true, Bool.true_or, Bool.or_false, Bool.false_or, or_true, true_or, or_false, false_or, or_self, AV.asInt, AV.asBool, AV.asSl, AV.asPtr, AV.asFn, AV.asStr, AV.asMap, AV.asIfc, AV.item, List.length_cons, List.length_nil, List.getElem?_cons_zero, List.getElem?_cons_succ, Nat.zero_add, Int.lt_irrefl], .inr ⟨rfl, ?_⟩⟩
        rw [List.take_of_length_le (Nat.le_refl _), List.take_of_length_le (by omega)] at hp; exact hp)
      (Nat.zero_le _) (s := ([.int .i64 0, .int .i64 a.length, .slice h', .slice h], σ)) ⟨rfl, by simp⟩
    rcases q with ⟨rfl, q⟩ | ⟨rfl, q⟩
    · rw [decide_eq_false q]
      refine (Ev.bind (loopF_ev e) (Ev.of fun k => f28_X11010_1 (gm Try.prog k) k σ _)).congr fun k => ?_
      rw [f28_eq]; simp only [Option.bind_some, decide_eq_true_eq, decide_eq_false_iff_not, Bool.not_eq_true', Bool.not_true, Bool.not_false, Bool.false_eq_true, Bool.true_eq_false, Bool.not_eq_eq_eq_not, beq_self_eq_true, beqFT, beqTF, decide_true, decide_false, not_false_eq_true, not_true_eq_false, ne_eq, true_and, and_true, false_and, and_false, and_self, if_true, if_false, ite_true, ite_false, Bool.and_true, Bool.and_false, Bool.true_and, Bool.false_and, Bool.or_true, Bool.true_or, Bool.or_false, Bool.false_or, or_true, true_or, or_false, false_or, or_self, AV.asInt, AV.asBool, AV.asSl, AV.asPtr, AV.asFn, AV.asStr, AV.asMap, AV.asIfc, AV.item, List.length_cons, List.length_nil, List.getElem?_cons_zero, List.getElem?_cons_succ, Nat.zero_add, la, lb, c]
    · rw [decide_eq_true q]
      refine (Ev.bind (loopF_ev e) (Ev.of fun k => f28_X11010_2 (gm Try.prog k) k σ)).congr fun k => ?_
      rw [f28_eq]; simp only [Option.bind_some, decide_eq_true_eq, decide_eq_false_iff_not, Bool.not_eq_true', Bool.not_true, Bool.not_false, Bool.false_eq_true, Bool.true_eq_false, Bool.not_eq_eq_eq_not, beq_self_eq_true, beqFT, beqTF, decide_true, decide_false, not_false_eq_true, not_true_eq_false, ne_eq, true_and, and_true, false_and, and_false, and_self, if_true, if_false, ite_true, ite_false, Bool.and_true, Bool.and_false, Bool.true_and, Bool.false_and, Bool.or_true, Bool.true_or, Bool.or_false, Bool.false_or, or_true, true_or, or_false, false_or, or_self, AV.asInt, AV.asBool, AV.asSl, AV.asPtr, AV.asFn, AV.asStr, AV.asMap, AV.asIfc, AV.item, List.length_cons, List.length_nil, List.getElem?_cons_zero, List.getElem?_cons_succ, Nat.zero_add, la, lb, c]
  · have : ¬ a = b := fun h => c (by rw [h])
    rw [decide_eq_false this]
    refine Ev.of fun k => ?_
    have c' : ¬ (a.length : Int) = b.length := by omega
    rw [f28_eq]; simp only [Option.bind_some, decide_eq_true_eq, decide_eq_false_iff_not, Bool.not_eq_true', Bool.not_true, Bool.not_false, Bool.false_eq_true, Bool.true_eq_false, Bool.not_eq_eq_eq_not, beq_self_eq_true, beqFT, beqTF, decide_true, decide_false, not_false_eq_true, not_true_eq_false, ne_eq, true_and, and_true, false_and, and_false, and_self, if_true, if_false, ite_true, ite_false, Bool.and_true, Bool.and_false, Bool.true_and, Bool.false_and, Bool.or_true, Bool.true_or, Bool.or_false, Bool.false_or, or_true, true_or, or_false, false_or, or_self, AV.asInt, AV.asBool, AV.asSl, AV.asPtr, AV.asFn, AV.asStr, AV.asMap, AV.asIfc, AV.item, List.length_cons, List.length_nil, List.getElem?_cons_zero, List.getElem?_cons_succ, Nat.zero_add, la, lb, c']
theorem index_run {σ : Store} {h : Hdl} {l : List Int} (hl : σ.Ints h l) (hn : l.length < 2 ^ 62) (x : Int) : ∃ i : Int, Runs Try.prog 29 [.slice h, .int .i64 x] σ (.int .i64 i) σ ∧ (x ∈ l → i = (l.idxOf x : Nat)) ∧ (x ∉ l → i = -1) := by
  have ll := hl.ilen
  obtain ⟨r, e, q⟩ := EvI.upX (f := fun k s => stepF Try.prog (gm Try.prog k) drawn k Try.f29 [1, 0, 1, 0] [8, 7, 1, 0] s) l.length
    (fun i s => s = ([.int .i64 i, .int .i64 l.length, .int .i64 x, .slice h], σ) ∧ x ∉ l.take i)
    (fun r => (r = (AX.ret, [(4, .int .i64 (l.idxOf x : Nat))], σ) ∧ x ∈ l) ∨ (r = (AX.exit 0, [], σ) ∧ x ∉ l))
    (by
      rintro i s hi ⟨rfl, hq⟩
      have i0 : (0 : Int) ≤ i := by omega
      have i1 : (i : Int) < l.length := by omega
      have w := wsucc hi hn
      by_cases e : x = rd l i
      · have hx : l.idxOf x = i := by
          rw [e] at hq ⊢
          have := idx0_at hi hq
          unfold idx0 at this; omega
        exact .inr ⟨(AX.ret, [(4, .int .i64 (l.idxOf x : Nat))], σ), Ev.of fun k => by simp only [f29_L1010]; simp only [Option.bind_some, decide_eq_true_eq, decide_eq_false_iff_not, Bool.not_eq_true', Bool.not_true, Bool.not_false, Bool.false_eq_true, Bool.true_eq_false, Bool.not_eq_eq_eq_not, beq_self_eq_true, beqFT, beqTF, decide_true, decide_false, not_false_eq_true, not_true_eq_false, ne_eq, true_and, and_true, false_and, and_false, and_self, if_true, if_false, ite_true, ite_false, Bool.and_true, Bool.and_false, Bool.true_and, Bool.false_and, Bool.or_true, Bool.true_or, Bool.or_false, Bool.false_or, or_true, true_or, or_false, false_or, or_self, AV.asInt, AV.asBool, AV.asSl, AV.asPtr, AV.asFn, AV.asStr, AV.asMap, AV.asIfc, AV.item, List.length_cons, List.length_nil, List.getElem?_cons_zero, List.getElem?_cons_succ, Nat.zero_add, ll, i0, i1, hl.rd i0 i1, e.symm, hx], .inl ⟨rfl, e ▸ rd_mem i0 i1⟩⟩
      · refine .inl ⟨_, Ev.of fun k => by simp only [f29_L1010]; simp only [Option.bind_some, decide_eq_true_eq, decide_eq_false_iff_not, Bool.not_eq_true', Bool.not_true, Bool.not_false, Bool.false_eq_true, Bool.true_eq_false, Bool.not_eq_eq_eq_not, beq_self_eq_true, beqFT, beqTF, decide_true, decide_false, not_false_eq_true, not_true_eq_false, ne_eq, true_and, and_true, false_and, and_false, and_self, if_true, if_false, ite_true, ite_false, Bool.and_true, Bool.and_false, Bool.true_and, Bool.false_and, Bool.or_true, Bool.true_or, Bool.or_false, Bool.false_or, or_true, true_or, or_false, false_or, or_self, AV.asInt, AV.asBool, AV.asSl, AV.asPtr, AV.asFn, AV.asStr, AV.asMap, AV.asIfc, AV.item, List.length_cons, List.length_nil, List.getElem?_cons_zero, List.getElem?_cons_succ, Nat.zero_add, ll, i0, i1, hl.rd i0 i1, e, w], rfl, fun hx => ?_⟩
        rw [take_rd hi] at hx
        rcases List.mem_append.1 hx with hx | hx
        · exact hq hx
        · rw [List.mem_singleton] at hx; exact e hx)
    (by
      rintro s ⟨rfl, hq⟩
      rw [List.take_length] at hq
      exact ⟨_, Ev.of fun k => by simp only [f29_L1010]; simp only [Option.bind_some, decide_eq_true_eq, decide_eq_false_iff_not, Bool.not_eq_true', Bool.not_true, Bool.not_false, Bool.false_eq_true, Bool.true_eq_false, Bool.not_eq_eq_eq_not, beq_self_eq_true, beqFT, beqTF, decide_true, decide_false, not_false_eq_true, not_true_eq_false, ne_eq, true_and, and_true, false_and, and_false, and_self, if_true, if_false, ite_true, ite_false, Bool.and_true, Bool.and_false, Bool.true_and, Bool.false_and, Bool.or_true, Bool.true_or, Bool.or_false, Bool.false_or, or_true, true_or, or_false, false_or, or_self, AV.asInt, AV.asBool, AV.asSl, AV.asPtr, AV.asFn, AV.asStr, AV.asMap, AV.asIfc, AV.item, List.length_cons, List.length_nil, List.getElem?_cons_zero, List.getElem?_cons_succ, Nat.zero_add, Int.lt_irrefl], .inr ⟨rfl, hq⟩⟩)
    (Nat.zero_le _) (s := ([.int .i64 0, .int .i64 l.length, .int .i64 x, .slice h], σ)) ⟨rfl, by simp⟩
  rcases q with ⟨rfl, q⟩ | ⟨rfl, q⟩
  · exact ⟨_, Runs.intro (fn := Try.f29) (by kernel_rfl) (by kernel_rfl) ((Ev.bind (loopF_ev e) (Ev.of fun k => f29_X1010_1 (gm Try.prog k) k σ _)).congr fun k => by rw [f29_eq, ll]), fun _ => rfl, fun h => absurd q h⟩
  · exact ⟨-1, Runs.intro (fn := Try.f29) (by kernel_rfl) (by kernel_rfl) ((Ev.bind (loopF_ev e) (Ev.of fun k => f29_X1010_2 (gm Try.prog k) k σ)).congr fun k => by rw [f29_eq, ll]), fun h => absurd h q, fun _ => rfl⟩
theorem contains_run {σ : Store} {h : Hdl} {l : List Int} (hl : σ.Ints h l) (hn : l.length < 2 ^ 62) (x : Int) : Runs Try.prog 38 [.slice h, .int .i64 x] σ (.bool (decide (x ∈ l))) σ := by
  obtain ⟨i, ⟨k0, r⟩, h1, h2⟩ := index_run hl hn x
  refine Runs.intro (fn := Try.f38) (by kernel_rfl) (by kernel_rfl) ⟨k0, fun k hk => ?_⟩
  have r := r k hk
  simp only at r
  have e : decide (0 ≤ i) = decide (x ∈ l) := by
    by_cases c : x ∈ l
    · rw [h1 c]; simp [c]
    · rw [h2 c]; simp [c]
  simp only [f38_eq]
  simp only [Option.bind_some, decide_eq_true_eq, decide_eq_false_iff_not, Bool.not_eq_true', Bool.not_true, Bool.not_false, Bool.false_eq_true, Bool.true_eq_false, Bool.not_eq_eq_eq_not, beq_self_eq_true, beqFT, beqTF, decide_true, decide_false, not_false_eq_true, not_true_eq_false, ne_eq, true_and, and_true, false_and, and_false, and_self, if_true, if_false, ite_true, ite_false, Bool.and_true, Bool.and_false, Bool.true_and, Bool.false_and, Bool.or_true, Bool.true_or, Bool.or_false, Bool.false_or, or_true, true_or, or_false, false_or, or_self, AV.asInt, AV.asBool, AV.asSl, AV.asPtr, AV.asFn, AV.asStr, AV.asMap, AV.asIfc, AV.item, List.length_cons, List.length_nil, List.getElem?_cons_zero, List.getElem?_cons_succ, Nat.zero_add, r, e]
/-! ### the turned row -/
theorem make_run {σ : Store} {h h' : Hdl} {t sa : List Int} (hT : σ.Ints h t) (hS : σ.Ints h' sa) (hp : σ.prot ≤ σ.objs.length) (hn : t.length ≤ 2 ^ 44) (hn' : sa.length ≤ 2 ^ 44) :
    ∃ ho σ', Runs Try.prog 30 [.slice h, .slice h'] σ (.tuple [.slice ho, .int .i64 (if permB sa = true ∧ sa.length = t.length then 0 else 2)]) σ' ∧ Kp σ.objs.length σ σ' ∧
      σ'.Ints ho (if permB sa = true ∧ sa.length = t.length then bwtOf t sa else []) ∧ σ'.Has ho := by
  have lt := hT.ilen
  have ls := hS.ilen
  obtain ⟨h1, σ1, ⟨k1, r1⟩, K1, I1, H1⟩ := turn_run hS hp hn'
  have hp1 : σ1.prot ≤ σ1.objs.length := by rw [K1.prot]; have := K1.len; omega
  cases hb : permB sa with
  | false =>
    rw [hb] at r1
    rw [if_neg (by simp), if_neg (by simp)]
    refine ⟨Hdl.nil, σ1, Runs.intro (fn := Try.f30) (by kernel_rfl) (by kernel_rfl) ⟨k1, fun k hk => ?_⟩, K1, ints_nil _, Store.Has.nil _⟩
    have r1 := r1 k hk
    simp only [Option.bind_some, decide_eq_true_eq, decide_eq_false_iff_not, Bool.not_eq_true', Bool.not_true, Bool.not_false, Bool.false_eq_true, Bool.true_eq_false, Bool.not_eq_eq_eq_not, beq_self_eq_true, beqFT, beqTF, decide_true, decide_false, not_false_eq_true, not_true_eq_false, ne_eq, true_and, and_true, false_and, and_false, and_self, if_true, if_false, ite_true, ite_false, Bool.and_true, Bool.and_false, Bool.true_and, Bool.false_and, Bool.or_true, Bool.true_or, Bool.or_false, Bool.false_or, or_true, true_or, or_false, false_or, or_self, AV.asInt, AV.asBool, AV.asSl, AV.asPtr, AV.asFn, AV.asStr, AV.asMap, AV.asIfc, AV.item, List.length_cons, List.length_nil, List.getElem?_cons_zero, List.getElem?_cons_succ, Nat.zero_add] at r1
    have c : ¬ (2 : Int) = 0 := by decide
    simp only [f30_eq]; simp only [Option.bind_some, decide_eq_true_eq, decide_eq_false_iff_not, Bool.not_eq_true', Bool.not_true, Bool.not_false, Bool.false_eq_true, Bool.true_eq_false, Bool.not_eq_eq_eq_not, beq_self_eq_true, beqFT, beqTF, decide_true, decide_false, not_false_eq_true, not_true_eq_false, ne_eq, true_and, and_true, false_and, and_false, and_self, if_true, if_false, ite_true, ite_false, Bool.and_true, Bool.and_false, Bool.true_and, Bool.false_and, Bool.or_true, Bool.true_or, Bool.or_false, Bool.false_or, or_true, true_or, or_false, false_or, or_self, AV.asInt, AV.asBool, AV.asSl, AV.asPtr, AV.asFn, AV.asStr, AV.asMap, AV.asIfc, AV.item, List.length_cons, List.length_nil, List.getElem?_cons_zero, List.getElem?_cons_succ, Nat.zero_add, r1, c]
  | true =>
    rw [hb] at r1
    by_cases c : sa.length = t.length
    · rw [if_pos ⟨rfl, c⟩, if_pos ⟨rfl, c⟩]
      have hperm := permB_iff.1 hb
      obtain ⟨σ2, h2⟩ : ∃ x, x = σ1.push (intsL (List.replicate t.length 0)) 1 := ⟨_, rfl⟩
      have K2 : Kp σ.objs.length σ σ2 := by rw [h2]; exact K1.push' K1.len
      have R2 : σ2.Row σ1.objs.length 1 (intsL (List.replicate t.length 0)) := by rw [h2]; exact Store.Row.new
      obtain ⟨r, e, σ3, rfl, K3, R3⟩ := EvI.up (f := fun k s => stepF Try.prog (gm Try.prog k) drawn k Try.f30 [1, 1, 1, 0, 1, 0] [30, 29, 28, 8, 0] s) sa.length
        (fun i s => ∃ o s1, s = ([.int .i64 i, .int .i64 sa.length, .slice h', .slice (hdS σ1.objs.length t.length), .slice h], s1) ∧ Kp σ.objs.length σ s1 ∧ s1.Row σ1.objs.length 1 (intsL o) ∧ o.length = t.length ∧ ∀ p : Int, 0 ≤ p → p < i → rd o p = rd (bwtOf t sa) p)
        (fun r => ∃ s1, r = (AX.exit 0, [(8, .slice (hdS σ1.objs.length t.length))], s1) ∧ Kp σ.objs.length σ s1 ∧ s1.Row σ1.objs.length 1 (intsL (bwtOf t sa)))
        (by
          rintro i s hi ⟨o, s1, rfl, kk, rr, lo, ho⟩
          have i0 : (0 : Int) ≤ i := by omega
          have i1 : (i : Int) < sa.length := by omega
          have i2 : (i : Int) < t.length := by omega
          have w := wsucc hi (by omega)
          have rx := Store.Ints.rd (Store.Sl.kp hS kk) i0 i1
          obtain ⟨x0, x1⟩ := hperm.rng _ (rd_mem i0 i1)
          have w1 : IntKind.wrap .i64 (rd sa i + t.length) = rd sa i + t.length := wrap64 (by omega) (by omega)
          have w2 : IntKind.wrap .i64 (rd sa i + t.length - 1) = rd sa i + t.length - 1 := wrap64 (by omega) (by omega)
          have m : Int.tmod (rd sa i + t.length - 1) t.length = prev t.length (rd sa i) := by
            rw [Int.tmod_eq_emod_of_nonneg (by omega)]
            unfold prev
            by_cases c0 : rd sa i = 0
            · rw [if_pos c0, c0, Int.emod_eq_of_lt (by omega) (by omega)]; omega
            · rw [if_neg c0, show rd sa i + (t.length : Int) - 1 = (rd sa i - 1) + t.length by omega, Int.add_emod_right, Int.emod_eq_of_lt (by omega) (by omega)]
          obtain ⟨p0, p1⟩ := prev_rng (n := t.length) x0 (by omega)
          have ry := Store.Ints.rd (Store.Sl.kp hT kk) p0 p1
          have c0 : ¬ (t.length : Int) = 0 := by omega
          have st := st_ints (x := rd t (prev t.length (rd sa i))) (len := t.length) (cp := some t.length) rr (by rw [kk.prot]; have := K1.len; omega) i0 (by omega)
          refine ⟨_, Ev.of fun k => by simp only [f30_L111010]; simp only [Option.bind_some, decide_eq_true_eq, decide_eq_false_iff_not, Bool.not_eq_true', Bool.not_true, Bool.not_false, Bool.false_eq_true, Bool.true_eq_false, Bool.not_eq_eq_eq_not, beq_self_eq_true, beqFT, beqTF, decide_true, decide_false, not_false_eq_true, not_true_eq_false, ne_eq, true_and, and_true, false_and, and_false, and_self, if_true, if_false, ite_true, ite_false, Bool.and_true, Bool.and_false, Bool.true_and, Bool.false_and, Bool.or_true, Bool.true_or, Bool.or_false, Bool.false_or, or_true, true_or, or_false, false_or, or_self, AV.asInt, AV.asBool, AV.asSl, AV.asPtr, AV.asFn, AV.asStr, AV.asMap, AV.asIfc, AV.item, List.length_cons, List.length_nil, List.getElem?_cons_zero, List.getElem?_cons_succ, Nat.zero_add, lt, ls, i0, i1, i2, rx, w1, w2, m, c0, p0, p1, ry, st, w], o.set (i : Int).toNat (rd t (prev t.length (rd sa i))), _, rfl, kk.setO K1.len, Store.Row.setO_eq rr.lt, by simpa using lo, fun p p0 p1 => ?_⟩
          rw [rd_set i0 (by omega) p0]
          by_cases e : (i : Int) = p
          · rw [if_pos e, ← e, rd_bwtOf i0 i1]
          · rw [if_neg e]; exact ho p p0 (by omega))
        (by
          rintro s ⟨o, s1, rfl, kk, rr, lo, ho⟩
          have : o = bwtOf t sa := Bs.ext_rd (by rw [lo, bwtOf_length, c]) fun p p0 p1 => ho p p0 (by omega)
          subst this
          exact ⟨(AX.exit 0, [(8, .slice (hdS σ1.objs.length t.length))], s1), Ev.of fun k => by simp only [f30_L111010]; simp only [Option.bind_some, decide_eq_true_eq, decide_eq_false_iff_not, Bool.not_eq_true', Bool.not_true, Bool.not_false, Bool.false_eq_true, Bool.true_eq_false, Bool.not_eq_eq_eq_not, beq_self_eq_true, beqFT, beqTF, decide_true, decide_false, not_false_eq_true, not_true_eq_false, ne_eq, true_and, and_true, false_and, and_false, and_self, if_true, if_false, ite_true, ite_false, Bool.and_true, Bool.and_false, Bool.true_and, Bool.false_and, Bool.or_true, Bool.true_or, Bool.or_false, Bool.false_or, or_true, true_or, or_false, false_or, or_self, AV.asInt, AV.asBool, AV.asSl, AV.asPtr, AV.asFn, AV.asStr, AV.asMap, AV.asIfc, AV.item, List.length_cons, List.length_nil, List.getElem?_cons_zero, List.getElem?_cons_succ, Nat.zero_add, Int.lt_irrefl], s1, rfl, kk, rr⟩)
        (s := ([.int .i64 0, .int .i64 sa.length, .slice h', .slice (hdS σ1.objs.length t.length), .slice h], σ2)) ⟨_, σ2, rfl, K2, R2, by simp, fun p p0 p1 => by omega⟩
      obtain ⟨n3, e⟩ := loopF_ev e
      refine ⟨hdS σ1.objs.length t.length, σ3, Runs.intro (fn := Try.f30) (by kernel_rfl) (by kernel_rfl) ⟨k1 + n3, fun k hk => ?_⟩, K3, R3.sl (by simp [bwtOf_length, c]), fun b e => by simp [Hdl.row] at e; have := R3.lt; omega⟩
      have r1 := r1 k (by omega)
      have e := e k (by omega)
      simp only [Option.bind_some, decide_eq_true_eq, decide_eq_false_iff_not, Bool.not_eq_true', Bool.not_true, Bool.not_false, Bool.false_eq_true, Bool.true_eq_false, Bool.not_eq_eq_eq_not, beq_self_eq_true, beqFT, beqTF, decide_true, decide_false, not_false_eq_true, not_true_eq_false, ne_eq, true_and, and_true, false_and, and_false, and_self, if_true, if_false, ite_true, ite_false, Bool.and_true, Bool.and_false, Bool.true_and, Bool.false_and, Bool.or_true, Bool.true_or, Bool.or_false, Bool.false_or, or_true, true_or, or_false, false_or, or_self, AV.asInt, AV.asBool, AV.asSl, AV.asPtr, AV.asFn, AV.asStr, AV.asMap, AV.asIfc, AV.item, List.length_cons, List.length_nil, List.getElem?_cons_zero, List.getElem?_cons_succ, Nat.zero_add] at r1 e
      have c1 : ((h'.len : Nat) : Int) = h.len := by omega
      have b1 : (0 : Int) ≤ t.length := by omega
      have b2 : (t.length : Int) * ((8 : Nat) : Int) ≤ 281474976710656 := by omega
      have c2 : (sa.length : Int) = t.length := by omega
      rw [c2] at e
      simp only [f30_eq]; simp only [Option.bind_some, decide_eq_true_eq, decide_eq_false_iff_not, Bool.not_eq_true', Bool.not_true, Bool.not_false, Bool.false_eq_true, Bool.true_eq_false, Bool.not_eq_eq_eq_not, beq_self_eq_true, beqFT, beqTF, decide_true, decide_false, not_false_eq_true, not_true_eq_false, ne_eq, true_and, and_true, false_and, and_false, and_self, if_true, if_false, ite_true, ite_false, Bool.and_true, Bool.and_false, Bool.true_and, Bool.false_and, Bool.or_true, Bool.true_or, Bool.or_false, Bool.false_or, or_true, true_or, or_false, false_or, or_self, AV.asInt, AV.asBool, AV.asSl, AV.asPtr, AV.asFn, AV.asStr, AV.asMap, AV.asIfc, AV.item, List.length_cons, List.length_nil, List.getElem?_cons_zero, List.getElem?_cons_succ, Nat.zero_add, r1, c1, lt, b1, b2, Int.le_refl, Int.toNat_natCast, mkCells_int, ← h2, e]
      rw [f30_X111010_1]
    · rw [if_neg (by rintro ⟨_, h⟩; exact c h), if_neg (by rintro ⟨_, h⟩; exact c h)]
      refine ⟨Hdl.nil, σ1, Runs.intro (fn := Try.f30) (by kernel_rfl) (by kernel_rfl) ⟨k1, fun k hk => ?_⟩, K1, ints_nil _, Store.Has.nil _⟩
      have r1 := r1 k hk
      simp only [Option.bind_some, decide_eq_true_eq, decide_eq_false_iff_not, Bool.not_eq_true', Bool.not_true, Bool.not_false, Bool.false_eq_true, Bool.true_eq_false, Bool.not_eq_eq_eq_not, beq_self_eq_true, beqFT, beqTF, decide_true, decide_false, not_false_eq_true, not_true_eq_false, ne_eq, true_and, and_true, false_and, and_false, and_self, if_true, if_false, ite_true, ite_false, Bool.and_true, Bool.and_false, Bool.true_and, Bool.false_and, Bool.or_true, Bool.true_or, Bool.or_false, Bool.false_or, or_true, true_or, or_false, false_or, or_self, AV.asInt, AV.asBool, AV.asSl, AV.asPtr, AV.asFn, AV.asStr, AV.asMap, AV.asIfc, AV.item, List.length_cons, List.length_nil, List.getElem?_cons_zero, List.getElem?_cons_succ, Nat.zero_add] at r1
      have c1 : ¬ ((h'.len : Nat) : Int) = h.len := by omega
      simp only [f30_eq]; simp only [Option.bind_some, decide_eq_true_eq, decide_eq_false_iff_not, Bool.not_eq_true', Bool.not_true, Bool.not_false, Bool.false_eq_true, Bool.true_eq_false, Bool.not_eq_eq_eq_not, beq_self_eq_true, beqFT, beqTF, decide_true, decide_false, not_false_eq_true, not_true_eq_false, ne_eq, true_and, and_true, false_and, and_false, and_self, if_true, if_false, ite_true, ite_false, Bool.and_true, Bool.and_false, Bool.true_and, Bool.false_and, Bool.or_true, Bool.true_or, Bool.or_false, Bool.false_or, or_true, true_or, or_false, false_or, or_self, AV.asInt, AV.asBool, AV.asSl, AV.asPtr, AV.asFn, AV.asStr, AV.asMap, AV.asIfc, AV.item, List.length_cons, List.length_nil, List.getElem?_cons_zero, List.getElem?_cons_succ, Nat.zero_add, r1, c1]
end Go.Ab

