/- A part of the proof of the law SuffixOrder: lemmas alone; what each says stands at it. No conditions. -/
import Derived.Test.YteagoinfepiilaaAbSuffixOrder2
import Derived.Test.YteagoinfepiilaaAbSuffixOrder1
/- induce: the row is emptied; the first pass whole. -/
namespace Go.Ab
open Go Go.Proofs Go.Ab.Wd Go.Ab.Bs Go.Ab.Sai
set_option linter.unusedVariables false
set_option linter.unusedSimpArgs false
theorem fill_loop {c1 p : Ptr} {ht hs ha hl : Hdl} {ba kk : Nat} {t : List Int} {sh : List Bool} (hn : t.length < 2 ^ 62) (ra : ha.row = some ba) (r1 : p.row ≠ some ba) (r2 : c1.row ≠ some ba) (r3 : ht.row ≠ some ba) (r4 : hs.row ≠ some ba) (m : Nat) :
    ∀ (i : Int) (sa : List Int) (σ : Store), i + m = t.length → 0 ≤ i → sa.length = t.length → (∀ j : Int, 0 ≤ j → j < i → rd sa j = -1) → Sorter σ p ht hs ha kk t sh sa → σ.Wr ha → σ.ldPtr c1 = some p →
    ∃ σ', EvI (fun k s => stepF Try.prog (gm Try.prog k) drawn k Try.f38 [1, 0, 1, 0] [19, 18, 2, 1] s) ([.int .i64 i, .int .i64 t.length, .ptr c1, .slice hl], σ) (AX.exit 0, [(2, .ptr c1), (1, .slice hl)], σ') ∧
      Sorter σ' p ht hs ha kk t sh (List.replicate t.length (-1)) ∧ σ'.Wr ha ∧ Off ba σ σ' := by
  induction m with
  | zero =>
    intro i sa σ hi h0 hl' hj S w e
    have : i = t.length := by omega
    subst this
    have : sa = List.replicate t.length (-1) := by
      refine ext_rd (by simp [hl']) fun c c0 c1' => ?_
      rw [hj c c0 (by omega)]
      obtain ⟨c, rfl⟩ := Int.eq_ofNat_of_zero_le c0
      rw [rd_getElem (by simp; omega)]
      simp
    subst this
    exact ⟨σ, EvI.done (Ev.of fun k => by rw [f38_L1010]; simp), S, w, Off.refl _ _⟩
  | succ m ih =>
    intro i sa σ hi h0 hl' hj S w e
    have la := S.a.ilen
    obtain ⟨x, hpx⟩ := S.nn
    obtain ⟨σ1, s1, s2, s3, s4⟩ := sti_spec S.a w h0 (by omega) (-1) ra
    have S1 := S.off s2 r1 r3 r4 s3
    obtain ⟨σ', g1, g2, g3, g4⟩ := ih (i + 1) _ σ1 (by omega) (by omega) (by simpa using hl') (fun j j0 j1 => by
      rw [rd_set h0 (by omega) j0]
      split
      · rfl
      · exact hj j j0 (by omega)) S1 s4 ((ldPtr_cell (cell_off s2 r2)).trans e)
    refine ⟨σ', EvI.step (Ev.of fun k => ?_) g1, g2, g3, s2.trans g4⟩
    have w2 : IntKind.wrap .i64 (i + 1) = i + 1 := wrap64 (by omega) (by omega)
    have ea := S.a_
    rw [hpx] at e ea
    rw [f38_L1010, if_pos (by simp; omega)]
    simp only [e, Option.bind_some, ea]
    rw [if_pos (by omega), s1, w2]
    rfl
/-- All rounds of the first pass. -/
theorem pass1_spec {σ : Store} {c1 c2 c p : Ptr} {ht hs ha hh hl : Hdl} {ba bh kk y : Nat} {t : List Int} {sh : List Bool} {lf : List Int} {st st' : Sai.St} (I : Ind σ c1 c2 p ht hs ha hh ba bh kk t sh st) (hn : t.length < 2 ^ 62) (hlf : lf.length < 2 ^ 62) (hst : st.1.length = t.length)
    (h : Sai.pass1 t lf.reverse st = some st') (hc : σ.ldSl c = some hl) (hL : σ.Ints hl lf) (rc : ∀ b, b = ba ∨ b = bh → c.row ≠ some b ∧ hl.row ≠ some b)
    (hy : σ.objs[y]? = some (robj c1 c2 .ready)) (hp : σ.prot ≤ y) (r1 : p.row ≠ some y) (r2 : c1.row ≠ some y) (r3 : c2.row ≠ some y) (r4 : ht.row ≠ some y) (r5 : hs.row ≠ some y) (r6 : ba ≠ y) (r7 : bh ≠ y) :
    ∃ σ', Runs Try.prog 45 [.yld y, .ptr c] σ (.tuple []) σ' ∧ Ind σ' c1 c2 p ht hs ha hh ba bh kk t sh st' ∧ Off2 ba bh σ σ' := by
  obtain ⟨σ', h1, s, h2, h3, h4, _⟩ := back_spec (y := y) (c := c) (h := hl) (l := lf) hlf
    (fun i σ1 => ∃ s : Sai.St, Sai.pass1 t (lf.take (i + 1).toNat).reverse s = some st' ∧ Ind σ1 c1 c2 p ht hs ha hh ba bh kk t sh s ∧ Off2 ba bh σ σ1 ∧ s.1.length = t.length)
    (by
      rintro i σ1 ⟨s, _, _, o, _⟩
      have ka : ∀ b, c.row = some b → σ1.objs[b]? = σ.objs[b]? := fun b hb => o.off b (fun e => (rc ba (.inl rfl)).1 (by rw [hb, e])) (fun e => (rc bh (.inr rfl)).1 (by rw [hb, e]))
      refine ⟨?_, hL.keep fun b o' hb => o.off b (fun e => (rc ba (.inl rfl)).2 (by simp [Hdl.row, hb, e])) (fun e => (rc bh (.inr rfl)).2 (by simp [Hdl.row, hb, e]))⟩
      rw [← hc]
      refine ldSl_cell ?_
      cases c with
      | none => rfl
      | some x => obtain ⟨b, o'⟩ := x; simp only [Store.cell]; rw [ka b rfl])
    (by
      rintro i σ1 i0 i1 ⟨s, g1, g2, g3, g4⟩
      have e1 : (lf.take (i + 1).toNat).reverse = rd lf i :: (lf.take i.toNat).reverse := by
        obtain ⟨i, rfl⟩ := Int.eq_ofNat_of_zero_le i0
        have hi : i < lf.length := by omega
        rw [rd_getElem hi, show ((i : Int) + 1).toNat = i + 1 by omega, show ((i : Int)).toNat = i by omega, show lf.take (i + 1) = lf.take i ++ [lf[i]] by rw [List.take_add_one]; simp [hi]]
        simp
      rw [e1] at g1
      simp only [Sai.pass1] at g1
      obtain ⟨s1, d1, d2⟩ := Option.bind_eq_some_iff.1 g1
      have hy1 : σ1.objs[y]? = some (robj c1 c2 .ready) := (g3.off y (Ne.symm r6) (Ne.symm r7)).trans hy
      obtain ⟨σ2, u1, u2, u3⟩ := round1 (j := i) g2 (by omega) d1 hy1 (by rw [g3.prot]; exact hp) r1 r2 r3 r4 r5 r6 r7
      exact ⟨σ2, u1, s1, by rw [show i - 1 + 1 = i by omega]; exact d2, u2, g3.trans u3, (down_len d1).1.trans g4⟩)
    (σ := σ) ⟨st, by rw [show ((lf.length : Int) - 1 + 1).toNat = lf.length by omega, List.take_length]; exact h, I, Off2.refl _ _ _, hst⟩
  refine ⟨σ', h1, ?_, h4⟩
  simp only [show ((-1 : Int) + 1).toNat = 0 by rfl, List.take_zero, List.reverse_nil, Sai.pass1] at h2
  injection h2 with h2
  subst h2
  exact h3
end Go.Ab

/- induce, whole. -/
namespace Go.Ab
open Go Go.Proofs Go.Ab.Wd Go.Ab.Bs Go.Ab.Sai
set_option linter.unusedVariables false
set_option linter.unusedSimpArgs false
theorem box_spec {σ : Store} (hp : σ.prot ≤ σ.objs.length) (v0 v : AV) (hv : v.one = true) : (σ.push [v0] 1).stL (some (σ.objs.length, 0)) [v] 0 = some (σ.push [v] 1) := by
  rw [stL_one]
  have hg : (σ.push [v0] 1).objs[σ.objs.length]? = some (.cells [v0] true 1) := by simp [Store.push]
  have hp' : (σ.push [v0] 1).prot ≤ σ.objs.length := hp
  simp only [Store.st, hg]
  rw [if_pos ⟨⟨hp', by simp⟩, hv⟩]
  simp [Store.push]
theorem push_cell (σ : Store) (v : AV) : (σ.push [v] 1).cell (some (σ.objs.length, 0)) = some v := by simp [Store.cell, Store.push]
theorem backward_spec (σ : Store) (h : Hdl) : Runs Try.prog 42 [.slice h] σ (.func 45 [] [.ptr (some (σ.objs.length, 0))]) (σ.push [.slice h] 1) := by
  refine Runs.intro (fn := Try.f42) (by kernel_rfl) (by kernel_rfl) (Ev.of fun k => ?_)
  rw [f42_eq]
theorem Ptr.lt_of {σ : Store} {p : Ptr} {v : AV} (h : σ.cell p = some v) : ∀ b, p.row = some b → b < σ.objs.length := by
  intro b hb
  cases p with
  | none => cases hb
  | some x =>
    obtain ⟨c, o⟩ := x
    simp [Ptr.row] at hb; subst hb
    simp only [Store.cell] at h
    by_cases hl : c < σ.objs.length
    · exact hl
    · rw [List.getElem?_eq_none (by omega)] at h; cases h
/-- The sorter, and where its rows lie. -/
structure Env (σ : Store) (c1 p : Ptr) (ht hs ha : Hdl) (ba kk : Nat) (t : List Int) (sh : List Bool) (sa : List Int) : Prop where
  so : Sorter σ p ht hs ha kk t sh sa
  e1 : σ.ldPtr c1 = some p
  wa : σ.Wr ha
  ra : ha.row = some ba
  pr : σ.prot ≤ σ.objs.length
  lt : ∀ b, p.row = some b ∨ c1.row = some b ∨ ht.row = some b ∨ hs.row = some b ∨ b = ba → b < σ.objs.length
  far : p.row ≠ some ba ∧ c1.row ≠ some ba ∧ ht.row ≠ some ba ∧ hs.row ≠ some ba
theorem Sorter.kp {σ σ' : Store} {p : Ptr} {ht hs ha : Hdl} {kk : Nat} {t : List Int} {sh : List Bool} {sa : List Int} (S : Sorter σ p ht hs ha kk t sh sa) (k : Kp σ.objs.length σ σ') : Sorter σ' p ht hs ha kk t sh sa := by
  have hl := S.lt
  have hc : ∀ n, σ'.cell (Ptr.add p n) = σ.cell (Ptr.add p n) := fun n => cell_kp k (by simpa using hl)
  exact ⟨S.nn, (ldSl_cell (hc 0)).trans S.t_, (ldInt_cell (hc 1)).trans S.k_, (ldSl_cell (hc 2)).trans S.s_, (ldSl_cell (hc 3)).trans S.a_, Store.Sl.kp S.t k, Store.Sl.kp S.s k, Store.Sl.kp S.a k⟩
theorem Store.Wr.kp {σ σ' : Store} {h : Hdl} (w : σ.Wr h) (k : Kp σ.objs.length σ σ') : σ'.Wr h := by
  obtain ⟨b, o, cs, h1, h2, h3⟩ := w
  exact ⟨b, o, cs, h1, (k.keep b (List.getElem?_eq_some_iff.1 h2).1).trans h2, by rw [k.prot]; exact h3⟩
theorem Env.kp {σ σ' : Store} {c1 p : Ptr} {ht hs ha : Hdl} {ba kk : Nat} {t : List Int} {sh : List Bool} {sa : List Int} (E : Env σ c1 p ht hs ha ba kk t sh sa) (k : Kp σ.objs.length σ σ') : Env σ' c1 p ht hs ha ba kk t sh sa :=
  ⟨E.so.kp k, (ldPtr_cell (cell_kp k fun b hb => E.lt b (.inr (.inl hb)))).trans E.e1, E.wa.kp k, E.ra, by rw [k.prot]; exact Nat.le_trans E.pr k.len, fun b hb => Nat.lt_of_lt_of_le (E.lt b hb) k.len, E.far⟩
end Go.Ab

/- induce: its end. -/
namespace Go.Ab
open Go Go.Proofs Go.Ab.Wd Go.Ab.Bs Go.Ab.Sai
set_option linter.unusedVariables false
set_option linter.unusedSimpArgs false
theorem st_box {σ : Store} {b : Nat} {v0 v : AV} (h : σ.objs[b]? = some (.cells [v0] true 1)) (hp : σ.prot ≤ b) (hv : v.one = true) : σ.stL (some (b, 0)) [v] 0 = some (σ.setO b (.cells [v] true 1)) := by
  rw [stL_one]
  simp only [Store.st, h]
  rw [if_pos ⟨⟨hp, by simp⟩, hv⟩]
  rfl
/-- The sorter at work, out of where its rows lie. -/
theorem Env.ind {σ : Store} {c1 p : Ptr} {ht hs ha : Hdl} {ba kk : Nat} {t : List Int} {sh : List Bool} {sa : List Int} (E : Env σ c1 p ht hs ha ba kk t sh sa) {c2 : Ptr} {hh : Hdl} {bh : Nat} {hd' : List Int}
    (e2 : σ.ldSl c2 = some hh) (h : σ.Ints hh hd') (wh : σ.Wr hh) (rh : hh.row = some bh) (ab : ba ≠ bh) (n1 : p.row ≠ some bh) (n2 : c1.row ≠ some bh) (n3 : ht.row ≠ some bh) (n4 : hs.row ≠ some bh) (r2 : c2.row ≠ some ba) (r3 : c2.row ≠ some bh) :
    Ind σ c1 c2 p ht hs ha hh ba bh kk t sh (sa, hd') := by
  refine ⟨E.so, E.e1, e2, h, E.wa, wh, E.ra, rh, ab, fun b hb => ?_⟩
  obtain ⟨f1, f2, f3, f4⟩ := E.far
  rcases hb with rfl | rfl
  · exact ⟨f1, f2, r2, f3, f4⟩
  · exact ⟨n1, n2, r3, n3, n4⟩
theorem Env.of_ind {σ σ0 : Store} {c1 p : Ptr} {ht hs ha : Hdl} {ba kk : Nat} {t : List Int} {sh : List Bool} {sa : List Int} (E : Env σ0 c1 p ht hs ha ba kk t sh sa) {c2 : Ptr} {hh : Hdl} {bh : Nat} {st : Sai.St}
    (I : Ind σ c1 c2 p ht hs ha hh ba bh kk t sh st) (hp : σ.prot = σ0.prot) (hl : σ0.objs.length ≤ σ.objs.length) : Env σ c1 p ht hs ha ba kk t sh st.1 :=
  ⟨I.so, I.e1, I.wa, I.ra, by rw [hp]; exact Nat.le_trans E.pr hl, fun b hb => Nat.lt_of_lt_of_le (E.lt b hb) hl, E.far⟩
theorem induce_end {σ : Store} {c1 p : Ptr} {ht hs ha : Hdl} {ba kk b5 : Nat} {t : List Int} {sh : List Bool} {sa : List Int} (E : Env σ c1 p ht hs ha ba kk t sh sa) (hn : t.length < 2 ^ 62) (hk : kk * 8 ≤ 281474976710656) (hrng : ∀ x ∈ t, 0 ≤ x ∧ x < kk)
    (hsa : sa.length = t.length) (hr : Rng t sa) {v5 : AV} (h5 : σ.objs[b5]? = some (.cells [v5] true 1)) (p5 : σ.prot ≤ b5) (n0 : ba ≠ b5) (n1 : p.row ≠ some b5) (n2 : c1.row ≠ some b5) (n3 : ht.row ≠ some b5) (n4 : hs.row ≠ some b5)
    {st' : Sai.St} (h : Sai.pass3 t sh t.length (t.length - 1) (sa, tails t kk) = some st') :
    ∃ σ', Ev (fun k => contF Try.prog (gm Try.prog k) drawn k Try.f38 [1, 1, 1, 1, 1, 1, 1, 0, 1, 0] (AX.exit 4, [(5, .ptr (some (b5, 0))), (2, .ptr c1)], σ)) (.tuple [], σ') ∧ Env σ' c1 p ht hs ha ba kk t sh st'.1 ∧
      σ'.prot = σ.prot ∧ σ.objs.length ≤ σ'.objs.length ∧ ∀ c, c < σ.objs.length → c ≠ ba → c ≠ b5 → σ'.objs[c]? = σ.objs[c]? := by
  have b5l : b5 < σ.objs.length := (List.getElem?_eq_some_iff.1 h5).1
  have ne : ∀ {r : Option Nat}, (∀ b, r = some b → b < σ.objs.length) → r ≠ some σ.objs.length := fun h e => by have := h _ e; omega
  have lp := ne fun b hb => E.lt b (.inl hb)
  have lc := ne fun b hb => E.lt b (.inr (.inl hb))
  have lt' := ne fun b hb => E.lt b (.inr (.inr (.inl hb)))
  have ls := ne fun b hb => E.lt b (.inr (.inr (.inr (.inl hb))))
  have lba := E.lt ba (.inr (.inr (.inr (.inr rfl))))
  obtain ⟨σ1, ⟨k1, r1⟩, kp1, len1, hI1, hW1⟩ := buckets_spec E.so true hn hk hrng E.pr lt'
  obtain ⟨hh, hhe⟩ : ∃ hh : Hdl, hh = ⟨some (σ.objs.length, 0), kk, some kk⟩ := ⟨_, rfl⟩
  rw [← hhe] at r1 hI1 hW1
  have hhr : hh.row = some σ.objs.length := by rw [hhe]; rfl
  have E1 := E.kp kp1
  have h51 : σ1.objs[b5]? = some (.cells [v5] true 1) := (kp1.keep b5 b5l).trans h5
  have hst := st_box (v := .slice hh) h51 (by rw [kp1.prot]; exact p5) rfl
  have o2 := setO_off σ1 b5 (.cells [.slice hh] true 1) (by omega)
  generalize hσ2 : σ1.setO b5 (.cells [.slice hh] true 1) = σ2 at hst o2
  have hc2 : σ2.cell (some (b5, 0)) = some (.slice hh) := by
    rw [← hσ2]; simp only [Store.cell]; rw [setO_get σ1 b5 _ (by omega), if_pos rfl]; rfl
  have ra : ha.row ≠ some b5 := by rw [E.ra]; intro e; injection e with e; exact n0 e
  have rh : hh.row ≠ some b5 := by rw [hhr]; intro e; injection e with e; omega
  have E2 : Env σ2 c1 p ht hs ha ba kk t sh sa :=
    ⟨E1.so.off o2 n1 n3 n4 (Store.Sl.off E1.so.a o2 ra), (ldPtr_cell (cell_off o2 n2)).trans E1.e1, E1.wa.off o2 ra, E.ra, by rw [o2.prot, o2.len]; exact E1.pr, fun b hb => by rw [o2.len]; exact E1.lt b hb, E.far⟩
  have e2' : σ2.ldSl (some (b5, 0)) = some hh := by simp only [Store.ldSl, hc2]
  have I2 := E2.ind (c2 := some (b5, 0)) (bh := σ.objs.length) e2' (Store.Sl.off hI1 o2 rh) (hW1.off o2 rh) hhr (by omega) lp lc lt' ls (by simp [Ptr.row]; omega) (by simp [Ptr.row]; omega)
  obtain ⟨σ3, g1, I3, o3⟩ := pass3_loop hn t.length (t.length - 1) (sa, tails t kk) st' σ2 (by omega) (by omega) hsa I2 h hr
  refine ⟨σ3, ?_, E2.of_ind I3 o3.prot (by rw [o3.len]; exact Nat.le_refl _), by rw [o3.prot, o2.prot, kp1.prot], by rw [o3.len, o2.len]; exact kp1.len, fun c hc c1' c2' => ?_⟩
  · obtain ⟨k2, g2⟩ := loopF_ev g1
    refine ⟨max k1 k2, fun k hk => ?_⟩
    have r1 := r1 k (by omega)
    have g2 := g2 k (by omega)
    simp only at r1 g2 ⊢
    obtain ⟨x, hpx⟩ := E.so.nn
    have e1 := I2.e1
    have ea := I2.so.a_
    have la : ha.len = sa.length := I2.so.a.ilen
    rw [hpx] at e1 ea
    have w1 : IntKind.wrap .i64 ((ha.len : Int) - 1) = (t.length : Int) - 1 := by rw [wrap64 (by omega) (by omega)]; omega
    rw [f38_X1111111010_1]
    simp only [E.e1, Option.bind_some, r1, AV.asSl, hst, e1, ea, w1, g2, f38_X11111111110_1]
  · rw [o3.off c c1' (by omega), o2.off c c2', kp1.keep c hc]
end Go.Ab

/- induce: what follows the first pass. -/
namespace Go.Ab
open Go Go.Proofs Go.Ab.Wd Go.Ab.Bs Go.Ab.Sai
set_option linter.unusedVariables false
set_option linter.unusedSimpArgs false
theorem pass2_rng {t : List Int} {sh : List Bool} (m : Nat) : ∀ {i : Int} {st st' : Sai.St}, Sai.pass2 t sh m i st = some st' → Rng t st.1 → Rng t st'.1 ∧ st'.1.length = st.1.length := by
  induction m with
  | zero => intro i st st' h hr; simp only [Sai.pass2] at h; injection h with h; subst h; exact ⟨hr, rfl⟩
  | succ m ih =>
    intro i st st' h hr
    simp only [Sai.pass2] at h
    split at h
    · obtain ⟨s1, h1, h2⟩ := Option.bind_eq_some_iff.1 h
      obtain ⟨g1, g2⟩ := ih h2 (put_rng h1 hr)
      exact ⟨g1, g2.trans (put_len h1).1⟩
    · exact ih h hr
theorem induce_mid {σ : Store} {c1 p : Ptr} {ht hs ha : Hdl} {ba kk b5 : Nat} {t : List Int} {sh : List Bool} {sa : List Int} (E : Env σ c1 p ht hs ha ba kk t sh sa) (hn : t.length < 2 ^ 62) (hk : kk * 8 ≤ 281474976710656) (hrng : ∀ x ∈ t, 0 ≤ x ∧ x < kk)
    (hsa : sa.length = t.length) (hr : Rng t sa) {v5 : AV} (h5 : σ.objs[b5]? = some (.cells [v5] true 1)) (p5 : σ.prot ≤ b5) (n0 : ba ≠ b5) (n1 : p.row ≠ some b5) (n2 : c1.row ≠ some b5) (n3 : ht.row ≠ some b5) (n4 : hs.row ≠ some b5)
    {st1 st2 st3 : Sai.St} (h1 : Sai.put t sh (sa, heads t kk) (t.length - 1) = some st1) (h2 : Sai.pass2 t sh t.length 0 st1 = some st2) (h3 : Sai.pass3 t sh t.length (t.length - 1) (st2.1, tails t kk) = some st3) :
    ∃ σ', Ev (fun k => contF Try.prog (gm Try.prog k) drawn k Try.f38 [1, 1, 1, 0, 1, 0] (AX.normal, [(5, .ptr (some (b5, 0))), (2, .ptr c1)], σ)) (.tuple [], σ') ∧ Env σ' c1 p ht hs ha ba kk t sh st3.1 ∧
      σ'.prot = σ.prot ∧ σ.objs.length ≤ σ'.objs.length ∧ ∀ c, c < σ.objs.length → c ≠ ba → c ≠ b5 → σ'.objs[c]? = σ.objs[c]? := by
  have b5l : b5 < σ.objs.length := (List.getElem?_eq_some_iff.1 h5).1
  have ne : ∀ {r : Option Nat} (m : Nat), σ.objs.length ≤ m → (∀ b, r = some b → b < σ.objs.length) → r ≠ some m := fun m hm h e => by have := h _ e; omega
  have lba := E.lt ba (.inr (.inr (.inr (.inr rfl))))
  obtain ⟨σ1, ⟨k1, r1⟩, kp1, len1, hI1, hW1⟩ := buckets_spec E.so false hn hk hrng E.pr (ne _ (Nat.le_refl _) fun b hb => E.lt b (.inr (.inr (.inl hb))))
  obtain ⟨hh, hhe⟩ : ∃ hh : Hdl, hh = ⟨some (σ.objs.length, 0), kk, some kk⟩ := ⟨_, rfl⟩
  rw [← hhe] at r1 hI1 hW1
  have hhr : hh.row = some σ.objs.length := by rw [hhe]; rfl
  have E1 := E.kp kp1
  have hbox := box_spec E1.pr (.slice Hdl.nil) (.slice hh) rfl
  have kp2 : Kp σ1.objs.length σ1 (σ1.push [.slice hh] 1) := Kp.push _ _ (Nat.le_refl _)
  have E2 := E1.kp kp2
  have hc2 : (σ1.push [.slice hh] 1).cell (some (σ1.objs.length, 0)) = some (.slice hh) := push_cell _ _
  have e2' : (σ1.push [.slice hh] 1).ldSl (some (σ1.objs.length, 0)) = some hh := by simp only [Store.ldSl, hc2]
  have I2 := E2.ind (c2 := some (σ1.objs.length, 0)) (bh := σ.objs.length) e2' (Store.Sl.kp hI1 kp2) (hW1.kp kp2) hhr (by omega)
    (ne _ (Nat.le_refl _) fun b hb => E.lt b (.inl hb)) (ne _ (Nat.le_refl _) fun b hb => E.lt b (.inr (.inl hb))) (ne _ (Nat.le_refl _) fun b hb => E.lt b (.inr (.inr (.inl hb)))) (ne _ (Nat.le_refl _) fun b hb => E.lt b (.inr (.inr (.inr (.inl hb))))) (by simp [Ptr.row]; omega) (by simp [Ptr.row]; omega)
  obtain ⟨σ3, ⟨k3, r3⟩, I3, o3⟩ := put_spec I2 (show sa.length < 2 ^ 62 by omega) h1
  have l1 := (put_len h1).1
  have rg1 := put_rng h1 hr
  obtain ⟨σ4, g4, I4, o4⟩ := pass2_loop (c5 := some (b5, 0)) hn t.length 0 st1 st2 σ3 (by omega) (Int.le_refl _) (l1.trans hsa) I3 h2 (fun x hx => (rg1 x hx).2)
  have o34 := o3.trans o4
  obtain ⟨rg2, l2⟩ := pass2_rng _ h2 rg1
  have E4 := E2.of_ind I4 o34.prot (by rw [o34.len]; exact Nat.le_refl _)
  have h54 : σ4.objs[b5]? = some (.cells [v5] true 1) := by rw [o34.off b5 (Ne.symm n0) (by omega), kp2.keep b5 (by omega), kp1.keep b5 b5l]; exact h5
  have pr4 : σ4.prot = σ.prot := by rw [o34.prot, kp2.prot, kp1.prot]
  have len4 : σ4.objs.length = σ1.objs.length + 1 := by rw [o34.len]; simp [Store.push]
  obtain ⟨σ5, ⟨k5, r5⟩, E5, pr5, len5, off5⟩ := induce_end E4 hn hk hrng (l2.trans (l1.trans hsa)) rg2 h54 (by rw [pr4]; exact p5) n0 n1 n2 n3 n4 h3
  refine ⟨σ5, ?_, E5, pr5.trans pr4, by omega, fun c hc c1' c2' => ?_⟩
  · obtain ⟨k4, g4⟩ := loopF_ev g4
    refine ⟨k1 + k3 + k4 + k5, fun k hk => ?_⟩
    have r1 := r1 k (by omega)
    have r3 := r3 k (by omega)
    have g4 := g4 k (by omega)
    have r5 := r5 k (by omega)
    simp only at r1 r3 g4 r5 ⊢
    obtain ⟨x, hpx⟩ := E.so.nn
    have e1 := I2.e1
    have et := I2.so.t_
    have lt : ht.len = t.length := I2.so.t.ilen
    have e1' := I3.e1
    have ea := I3.so.a_
    have la : ha.len = st1.1.length := I3.so.a.ilen
    rw [hpx] at e1 et e1' ea
    have w1 : IntKind.wrap .i64 ((ht.len : Int) - 1) = (t.length : Int) - 1 := by rw [wrap64 (by omega) (by omega)]; omega
    have w2 : ((ha.len : Nat) : Int) = (t.length : Int) := by rw [la, l1]; exact congrArg _ hsa
    rw [f38_RC111010]
    simp only [E.e1, Option.bind_some, r1, AV.asSl, hbox, e1, et, w1, r3, e1', ea, w2, g4, r5]
  · rw [off5 c (by omega) c1' c2', o34.off c c1' (by omega), kp2.keep c (by omega), kp1.keep c hc]
end Go.Ab

/- induce, whole. -/
namespace Go.Ab
open Go Go.Proofs Go.Ab.Wd Go.Ab.Bs Go.Ab.Sai
set_option linter.unusedVariables false
set_option linter.unusedSimpArgs false
/-- A row is laid behind all others. -/
theorem kp_laid (σ : Store) (o : AObj) : Kp σ.objs.length σ { σ with objs := σ.objs ++ [o] } := ⟨rfl, by simp, fun b hb => by simp only []; rw [List.getElem?_append_left hb]⟩
theorem induce_run {σ : Store} {p : Ptr} {ht hs ha hl : Hdl} {ba kk : Nat} {t : List Int} {sh : List Bool} {sa lf sa' : List Int} (S : Sorter σ p ht hs ha kk t sh sa) (wa : σ.Wr ha) (ra : ha.row = some ba) (pr : σ.prot ≤ σ.objs.length)
    (far : p.row ≠ some ba ∧ ht.row ≠ some ba ∧ hs.row ≠ some ba ∧ hl.row ≠ some ba) (lt : ∀ b, p.row = some b ∨ ht.row = some b ∨ hs.row = some b ∨ hl.row = some b ∨ b = ba → b < σ.objs.length) (hn : t.length < 2 ^ 62) (hk : kk * 8 ≤ 281474976710656)
    (hrng : ∀ x ∈ t, 0 ≤ x ∧ x < kk) (hsa : sa.length = t.length) (hL : σ.Ints hl lf) (hlf : lf.length < 2 ^ 62) (h : Sai.induce t sh kk lf = some sa') :
    ∃ σ', Runs Try.prog 38 [.ptr p, .slice hl] σ (.tuple []) σ' ∧ Sorter σ' p ht hs ha kk t sh sa' ∧ σ'.Wr ha ∧ σ'.prot = σ.prot ∧ σ.objs.length ≤ σ'.objs.length ∧ ∀ c, c < σ.objs.length → c ≠ ba → σ'.objs[c]? = σ.objs[c]? := by
  obtain ⟨st1, h1, h⟩ := Option.bind_eq_some_iff.1 h
  obtain ⟨st2, h2, h⟩ := Option.bind_eq_some_iff.1 h
  obtain ⟨st3, h3, h⟩ := Option.bind_eq_some_iff.1 h
  obtain ⟨st4, h4, h⟩ := Option.map_eq_some_iff.1 h
  subst h
  obtain ⟨f1, f2, f3, f4⟩ := far
  have ne : ∀ {r : Option Nat} (m : Nat), σ.objs.length ≤ m → (∀ b, r = some b → b < σ.objs.length) → r ≠ some m := fun m hm h e => by have := h _ e; omega
  have lp : ∀ b, p.row = some b → b < σ.objs.length := fun b hb => lt b (.inl hb)
  have lt' : ∀ b, ht.row = some b → b < σ.objs.length := fun b hb => lt b (.inr (.inl hb))
  have ls : ∀ b, hs.row = some b → b < σ.objs.length := fun b hb => lt b (.inr (.inr (.inl hb)))
  have ll : ∀ b, hl.row = some b → b < σ.objs.length := fun b hb => lt b (.inr (.inr (.inr (.inl hb))))
  have lba : ba < σ.objs.length := lt ba (.inr (.inr (.inr (.inr rfl))))
  -- the closure's box
  have k1 : Kp σ.objs.length σ (σ.push [.ptr p] 1) := Kp.push _ _ (Nat.le_refl _)
  have len1 : (σ.push [.ptr p] 1).objs.length = σ.objs.length + 1 := by simp [Store.push]
  have ec1 : (σ.push [.ptr p] 1).ldPtr (some (σ.objs.length, 0)) = some p := by simp only [Store.ldPtr, push_cell]
  obtain ⟨σ1, hσ1⟩ : ∃ x, x = σ.push [.ptr p] 1 := ⟨_, rfl⟩
  rw [← hσ1] at k1 len1 ec1
  have S1 := S.kp k1
  have c1f : Ptr.row (some (σ.objs.length, 0)) ≠ some ba := by simp [Ptr.row]; omega
  obtain ⟨σ2, g2, S2, w2, o2⟩ := fill_loop (hl := hl) hn ra f1 c1f f2 f3 t.length 0 sa σ1 (by omega) (Int.le_refl _) hsa (fun j j0 j1 => by omega) S1 (wa.kp k1) ec1
  have len2 := o2.len
  have E2 : Env σ2 (some (σ.objs.length, 0)) p ht hs ha ba kk t sh (List.replicate t.length (-1)) := by
    refine ⟨S2, (ldPtr_cell (cell_off o2 c1f)).trans ec1, w2, ra, by rw [o2.prot, k1.prot]; omega, fun b hb => ?_, f1, c1f, f2, f3⟩
    rcases hb with hb | hb | hb | hb | hb
    · have := lp b hb; omega
    · simp [Ptr.row] at hb; omega
    · have := lt' b hb; omega
    · have := ls b hb; omega
    · omega
  -- the buckets' ends
  obtain ⟨σ3, ⟨k3, r3⟩, kp3, len3, hI3, hW3⟩ := buckets_spec E2.so true hn hk hrng E2.pr (ne _ (by omega) lt')
  obtain ⟨hh, hhe⟩ : ∃ hh : Hdl, hh = ⟨some (σ2.objs.length, 0), kk, some kk⟩ := ⟨_, rfl⟩
  rw [← hhe] at r3 hI3 hW3
  have hhr : hh.row = some σ2.objs.length := by rw [hhe]; rfl
  have E3 := E2.kp kp3
  have hbox := box_spec E3.pr (.slice Hdl.nil) (.slice hh) rfl
  have kp4 : Kp σ3.objs.length σ3 (σ3.push [.slice hh] 1) := Kp.push _ _ (Nat.le_refl _)
  have e4 : (σ3.push [.slice hh] 1).ldSl (some (σ3.objs.length, 0)) = some hh := by simp only [Store.ldSl, push_cell]
  have len4 : (σ3.push [.slice hh] 1).objs.length = σ3.objs.length + 1 := by simp [Store.push]
  obtain ⟨σ4, hσ4⟩ : ∃ x, x = σ3.push [.slice hh] 1 := ⟨_, rfl⟩
  rw [← hσ4] at hbox kp4 e4 len4
  have E4 := E3.kp kp4
  obtain ⟨k5, r5⟩ := backward_spec σ4 hl
  have kp5 : Kp σ4.objs.length σ4 (σ4.push [.slice hl] 1) := Kp.push _ _ (Nat.le_refl _)
  have e5 : (σ4.push [.slice hl] 1).ldSl (some (σ4.objs.length, 0)) = some hl := by simp only [Store.ldSl, push_cell]
  have len5 : (σ4.push [.slice hl] 1).objs.length = σ4.objs.length + 1 := by simp [Store.push]
  obtain ⟨σ5, hσ5⟩ : ∃ x, x = σ4.push [.slice hl] 1 := ⟨_, rfl⟩
  rw [← hσ5] at r5 kp5 e5 len5
  have E5 := E4.kp kp5
  -- the loop over slices.Backward
  have kp6 := kp_laid σ5 (robj (some (σ.objs.length, 0)) (some (σ3.objs.length, 0)) .ready)
  have hy6 : ({ σ5 with objs := σ5.objs ++ [robj (some (σ.objs.length, 0)) (some (σ3.objs.length, 0)) .ready] } : Store).objs[σ5.objs.length]? = some (robj (some (σ.objs.length, 0)) (some (σ3.objs.length, 0)) .ready) := by simp
  have len6 : ({ σ5 with objs := σ5.objs ++ [robj (some (σ.objs.length, 0)) (some (σ3.objs.length, 0)) .ready] } : Store).objs.length = σ5.objs.length + 1 := by simp
  obtain ⟨σ6, hσ6⟩ : ∃ x, x = ({ σ5 with objs := σ5.objs ++ [robj (some (σ.objs.length, 0)) (some (σ3.objs.length, 0)) .ready] } : Store) := ⟨_, rfl⟩
  rw [← hσ6] at kp6 hy6 len6
  have E6 := E5.kp kp6
  have k36 : Kp σ3.objs.length σ3 σ6 := kp4.trans ((kp5.trans (kp6.mono (by omega))).mono (by omega))
  have k26 : Kp σ2.objs.length σ2 σ6 := kp3.trans (k36.mono (by omega))
  have k46 : Kp σ4.objs.length σ4 σ6 := kp5.trans (kp6.mono (by omega))
  have I6 : Ind σ6 (some (σ.objs.length, 0)) (some (σ3.objs.length, 0)) p ht hs ha hh ba σ2.objs.length kk t sh (List.replicate t.length (-1), tails t kk) :=
    E6.ind (c2 := some (σ3.objs.length, 0)) (bh := σ2.objs.length)
      ((ldSl_cell (cell_kp k46 (by intro b hb; simp [Ptr.row] at hb; omega))).trans e4) (Store.Sl.kp hI3 k36) (hW3.kp k36) hhr (by omega)
      (ne _ (by omega) lp) (by simp [Ptr.row]; omega) (ne _ (by omega) lt') (ne _ (by omega) ls) (by simp [Ptr.row]; omega) (by simp [Ptr.row]; omega)
  have e6 : σ6.ldSl (some (σ4.objs.length, 0)) = some hl := (ldSl_cell (cell_kp kp6 (by intro b hb; simp [Ptr.row] at hb; omega))).trans e5
  have hL6 : σ6.Ints hl lf := hL.keep fun b o hb => by
    have hr : hl.row = some b := by simp [Hdl.row, hb]
    have hb' := ll b hr
    rw [k26.keep b (by omega), o2.off b (fun e => f4 (by rw [hr, e])), k1.keep b hb']
  obtain ⟨σ7, r7, I7, o7⟩ := pass1_spec I6 hn hlf (by simp) h1 e6 hL6 (by
      intro b hb
      rcases hb with rfl | rfl
      · exact ⟨by simp [Ptr.row]; omega, f4⟩
      · exact ⟨by simp [Ptr.row]; omega, ne _ (by omega) ll⟩) hy6 (by rw [k26.prot, o2.prot, k1.prot]; omega)
    (ne _ (by omega) lp) (by simp [Ptr.row]; omega) (by simp [Ptr.row]; omega) (ne _ (by omega) lt') (ne _ (by omega) ls) (by omega) (by omega)
  have hy7 : σ7.objs[σ5.objs.length]? = some (robj (some (σ.objs.length, 0)) (some (σ3.objs.length, 0)) .ready) := (o7.off _ (by omega) (by omega)).trans hy6
  obtain ⟨k7, g7⟩ := range_ev (P := Try.prog) (g := 45) (a := []) (b := [.ptr (some (σ4.objs.length, 0))]) (σ := σ5) (σ' := σ7) (by rw [← hσ6]; exact r7) hy7
  have o8 := setO_off σ7 σ5.objs.length .dead (by have := o7.len; omega)
  obtain ⟨σ8, hσ8⟩ : ∃ x, x = σ7.setO σ5.objs.length .dead := ⟨_, rfl⟩
  rw [← hσ8] at o8
  have len7 := o7.len
  have len8 := o8.len
  have I8 := I7.aside o8 (ne _ (by omega) lp) (by simp [Ptr.row]; omega) (by simp [Ptr.row]; omega) (ne _ (by omega) lt') (ne _ (by omega) ls) (by omega) (by omega)
  have E8 := E6.of_ind I8 (o8.prot.trans o7.prot) (by omega)
  have h58 : σ8.objs[σ3.objs.length]? = some (.cells [.slice hh] true 1) := by
    rw [o8.off _ (by omega), o7.off _ (by omega) (by omega), k46.keep _ (by omega), hσ4]
    simp [Store.push]
  have pr8 : σ8.prot = σ.prot := by rw [o8.prot, o7.prot, k26.prot, o2.prot, k1.prot]
  have d1 : st1.1.length = t.length ∧ Rng t st1.1 := by
    have key : ∀ (l : List Int) (s s' : Sai.St), Sai.pass1 t l s = some s' → s.1.length = t.length → Rng t s.1 → s'.1.length = t.length ∧ Rng t s'.1 := by
      intro l
      induction l with
      | nil => intro s s' h h1 h2; simp only [Sai.pass1] at h; injection h with h; subst h; exact ⟨h1, h2⟩
      | cons x l ih =>
        intro s s' h h1 h2
        simp only [Sai.pass1] at h
        obtain ⟨s1, a1, a2⟩ := Option.bind_eq_some_iff.1 h
        exact ih s1 s' a2 ((down_len a1).1.trans h1) (down_rng a1 h2)
    refine key _ _ _ h1 (by simp) fun x hx => ?_
    have := (List.mem_replicate.1 hx)
    omega
  obtain ⟨σ9, ⟨k9, g9⟩, E9, pr9, len9, off9⟩ := induce_mid E8 hn hk hrng d1.1 d1.2 h58 (by omega) (by omega) (ne _ (by omega) lp) (by simp [Ptr.row]; omega) (ne _ (by omega) lt') (ne _ (by omega) ls) h2 h3 h4
  refine ⟨σ9, Runs.intro (fn := Try.f38) (by kernel_rfl) (by kernel_rfl) ?_, E9.so, E9.wa, pr9.trans pr8, by omega, fun c hc c1 => ?_⟩
  · obtain ⟨k2, g2⟩ := loopF_ev g2
    refine ⟨k2 + k3 + k5 + k7 + k9, fun k hk' => ?_⟩
    have g2 := g2 k (by omega)
    have r3 := r3 k (by omega)
    have r5 := r5 k (by omega)
    have g7 := g7 k (by omega)
    have g9 := g9 k (by omega)
    simp only at g2 r3 r5 g7 g9
    obtain ⟨x, hpx⟩ := S.nn
    have ea := S1.a_
    have la : ha.len = sa.length := S.a.ilen
    have w : ((ha.len : Nat) : Int) = (t.length : Int) := by rw [la, hsa]
    rw [hpx] at ea
    show evBody Try.prog (gm Try.prog k) drawn k Try.f38 [.ptr p, .slice hl] σ = _
    rw [f38_eq, ← hσ1]
    simp only [ec1, hpx, Option.bind_some, ea]
    rw [w, g2]
    simp only [Option.bind_some]
    rw [f38_X1010_1]
    simp only [E2.e1, Option.bind_some, r3, AV.asSl, hbox, r5, AV.asFn]
    refine (congrArg (fun z => Option.bind z _) g7).trans ?_
    simp only [Option.bind_some, ← hσ8]
    exact g9
  · rw [off9 c (by omega) c1 (by omega), o8.off c (by omega), o7.off c c1 (by omega), k26.keep c (by omega), o2.off c c1, k1.keep c hc]
end Go.Ab

/- Rows known whole, rows that grow, loops; how a reading is stepped by simp. -/
namespace Go.Ab
open Go
set_option linter.unusedVariables false
@[congr] theorem bindC {α β : Type} {x x' : Option α} {f : α → Option β} (h : x = x') : Option.bind x f = Option.bind x' f := by rw [h]
@[congr] theorem iteC {α : Type} {c c' : Prop} [Decidable c] [Decidable c'] {a b : α} (h : c = c') : (if c then a else b) = (if c' then a else b) := by
  subst h; congr
theorem beqFT : (false == true) = false := rfl
theorem beqTF : (true == false) = false := rfl
/-- A loop by a measure. -/
theorem EvI.while {S R : Type} {f : Nat → S → Option (S ⊕ R)} (I : Nat → S → Prop) (Q : R → Prop)
    (step : ∀ m s, I m s → (∃ m' s', m' < m ∧ Ev (fun k => f k s) (.inl s') ∧ I m' s') ∨ ∃ r, Ev (fun k => f k s) (.inr r) ∧ Q r) (m : Nat) : ∀ s, I m s → ∃ r, EvI f s r ∧ Q r := by
  induction m using Nat.strongRecOn with
  | ind m ih =>
    intro s hs
    rcases step m s hs with ⟨m', s', h1, h2, h3⟩ | ⟨r, h1, h2⟩
    · obtain ⟨r, g1, g2⟩ := ih m' h1 s' h3
      exact ⟨r, EvI.step h2 g1, g2⟩
    · exact ⟨r, EvI.done h1, h2⟩
/-- A loop that counts up to n, and may be left before. -/
theorem EvI.upX {S R : Type} {f : Nat → S → Option (S ⊕ R)} (n : Nat) (I : Nat → S → Prop) (Q : R → Prop)
    (step : ∀ i s, i < n → I i s → (∃ s', Ev (fun k => f k s) (.inl s') ∧ I (i + 1) s') ∨ ∃ r, Ev (fun k => f k s) (.inr r) ∧ Q r)
    (last : ∀ s, I n s → ∃ r, Ev (fun k => f k s) (.inr r) ∧ Q r) {i : Nat} (hi : i ≤ n) {s : S} (h : I i s) : ∃ r, EvI f s r ∧ Q r := by
  refine EvI.while (fun m s => ∃ i, m = n - i ∧ i ≤ n ∧ I i s) Q ?_ (n - i) s ⟨i, rfl, hi, h⟩
  rintro m s ⟨i, rfl, hi, h⟩
  by_cases c : i < n
  · rcases step i s c h with ⟨s', h1, h2⟩ | r
    · exact .inl ⟨n - (i + 1), s', by omega, h1, i + 1, rfl, by omega, h2⟩
    · exact .inr r
  · have : i = n := by omega
    subst this
    exact .inr (last s h)
theorem EvI.up {S R : Type} {f : Nat → S → Option (S ⊕ R)} (n : Nat) (I : Nat → S → Prop) (Q : R → Prop)
    (step : ∀ i s, i < n → I i s → ∃ s', Ev (fun k => f k s) (.inl s') ∧ I (i + 1) s')
    (last : ∀ s, I n s → ∃ r, Ev (fun k => f k s) (.inr r) ∧ Q r) {s : S} (h : I 0 s) : ∃ r, EvI f s r ∧ Q r :=
  EvI.upX n I Q (fun i s hi h => .inl (step i s hi h)) last (Nat.zero_le _) h
/-- A loop that counts down to 0. -/
theorem EvI.downX {S R : Type} {f : Nat → S → Option (S ⊕ R)} (I : Nat → S → Prop) (Q : R → Prop)
    (step : ∀ i s, I (i + 1) s → (∃ s', Ev (fun k => f k s) (.inl s') ∧ I i s') ∨ ∃ r, Ev (fun k => f k s) (.inr r) ∧ Q r)
    (last : ∀ s, I 0 s → ∃ r, Ev (fun k => f k s) (.inr r) ∧ Q r) (n : Nat) {s : S} (h : I n s) : ∃ r, EvI f s r ∧ Q r := by
  refine EvI.while I Q ?_ n s h
  intro m s h
  cases m with
  | zero => exact .inr (last s h)
  | succ m => rcases step m s h with ⟨s', h1, h2⟩ | r
              · exact .inl ⟨m, s', by omega, h1, h2⟩
              · exact .inr r
theorem Ev.mk {α : Type} {f : Nat → Option α} {x : α} (k0 : Nat) (h : ∀ k, k0 ≤ k → f k = some x) : Ev f x := ⟨k0, h⟩
/-! ### rows -/
/-- Row b holds l, and may be written. -/
def Store.Row (σ : Store) (b es : Nat) (l : List AV) : Prop := σ.objs[b]? = some (.cells l true es)
section
variable {σ σ' σ0 : Store} {b c es es' n m : Nat} {l l' : List AV}
theorem Store.Row.lt (r : σ.Row b es l) : b < σ.objs.length := (List.getElem?_eq_some_iff.1 r).1
theorem Store.Row.sl (r : σ.Row b es l) {len : Nat} {cp : Option Nat} (hn : len * es = l.length) : σ.Sl ⟨some (b, 0), len, cp⟩ es l :=
  ⟨hn, .inr ⟨b, 0, l, true, rfl, r, by simp, by rw [List.drop_zero, List.take_of_length_le (Nat.le_refl _)]⟩⟩
theorem Store.Row.cell (r : σ.Row b es l) (o : Nat) : σ.cell (some (b, o)) = l[o]? := by simp only [Store.cell]; rw [r]
theorem Store.Row.setO_eq (h : b < σ.objs.length) : (σ.setO b (.cells l true es)).Row b es l := by unfold Store.Row; rw [setO_get σ b _ h, if_pos rfl]
theorem Store.Row.setO_ne (r : σ.Row b es l) (h : c ≠ b) {o : AObj} : (σ.setO c o).Row b es l := by
  unfold Store.Row; show (σ.objs.set c o)[b]? = _; rw [List.getElem?_set, if_neg h]; exact r
theorem Store.Row.push (r : σ.Row b es l) : (σ.push l' es').Row b es l := by
  unfold Store.Row Store.push; simp only []; rw [List.getElem?_append_left r.lt]; exact r
theorem Store.Row.new : (σ.push l es).Row σ.objs.length es l := by simp [Store.Row, Store.push]
theorem Store.Row.kp (r : σ.Row b es l) (k : Kp n σ σ') (h : b < n) : σ'.Row b es l := (k.keep b h).trans r
theorem Store.Row.off (r : σ.Row b es l) (k : Off c σ σ') (h : b ≠ c) : σ'.Row b es l := (k.off b h).trans r
@[simp] theorem push_len : (σ.push l es).objs.length = σ.objs.length + 1 := by simp [Store.push]
@[simp] theorem push_prot : (σ.push l es).prot = σ.prot := rfl
@[simp] theorem setO_len {o : AObj} : (σ.setO b o).objs.length = σ.objs.length := by simp [Store.setO]
@[simp] theorem setO_prot {o : AObj} : (σ.setO b o).prot = σ.prot := rfl
theorem Kp.setO (k : Kp n σ0 σ) (h : n ≤ b) {o : AObj} : Kp n σ0 (σ.setO b o) :=
  ⟨k.prot, by rw [setO_len]; exact k.len, fun c hc => by show (σ.objs.set b o)[c]? = _; rw [List.getElem?_set, if_neg (by omega)]; exact k.keep c hc⟩
theorem Kp.push' (k : Kp n σ0 σ) (h : n ≤ σ.objs.length) : Kp n σ0 (σ.push l es) := k.trans (Kp.push l es h)
theorem Kp.then (k : Kp n σ0 σ) (k' : Kp m σ σ') (h : n ≤ m) : Kp n σ0 σ' := k.trans (k'.mono h)
theorem Kp.all (k : Kp σ0.objs.length σ0 σ) (k' : Kp σ.objs.length σ σ') : Kp σ0.objs.length σ0 σ' := k.then k' k.len
/-- A row is written. -/
theorem st_row (r : σ.Row b 1 l) (hp : σ.prot ≤ b) {i : Int} (h0 : 0 ≤ i) (h1 : i < l.length) {v : AV} (hv : v.one = true) {len : Nat} {cp : Option Nat} :
    σ.stL (Hdl.idx ⟨some (b, 0), len, cp⟩ i 1) [v] 0 = some (σ.setO b (.cells (l.set i.toNat v) true 1)) := by
  have : σ.objs[b]? = some (.cells l true 1) := r
  rw [stL_one]
  simp only [Hdl.idx, Ptr.add, Option.map_some, Nat.mul_one, Nat.zero_add, Store.st, this]
  rw [if_pos ⟨⟨hp, by omega⟩, hv⟩]
  rfl
theorem st_cell (r : σ.Row b es l) (hp : σ.prot ≤ b) {o : Nat} (h1 : o < l.length) {v : AV} (hv : v.one = true) :
    σ.stL (some (b, o)) [v] 0 = some (σ.setO b (.cells (l.set o v) true es)) := by
  have : σ.objs[b]? = some (.cells l true es) := r
  rw [stL_one]
  simp only [Store.st, this]
  rw [if_pos ⟨⟨hp, h1⟩, hv⟩]
  rfl
theorem boolsL_set (l : List Bool) (n : Nat) (x : Bool) : (boolsL l).set n (.bool x) = boolsL (l.set n x) := by simp [boolsL, List.map_set]
theorem intsL_set' (l : List Int) (n : Nat) (x : Int) : (intsL l).set n (.int .i64 x) = intsL (l.set n x) := by simp [intsL, List.map_set]
theorem intsL_append (l m : List Int) : intsL (l ++ m) = intsL l ++ intsL m := by simp [intsL]
theorem mkCells_int (n : Nat) : mkCells [.int .i64 0] n = intsL (List.replicate n 0) := by simp [mkCells, intsL]
theorem mkCells_bool (n : Nat) : mkCells [.bool false] n = boolsL (List.replicate n false) := by simp [mkCells, boolsL]
theorem st_ints {l : List Int} (r : σ.Row b 1 (intsL l)) (hp : σ.prot ≤ b) {i : Int} (h0 : 0 ≤ i) (h1 : i < l.length) {x : Int} {len : Nat} {cp : Option Nat} :
    σ.stL (Hdl.idx ⟨some (b, 0), len, cp⟩ i 1) [.int .i64 x] 0 = some (σ.setO b (.cells (intsL (l.set i.toNat x)) true 1)) := by
  rw [st_row r hp h0 (by simpa using h1) rfl, intsL_set']
theorem st_bools {l : List Bool} (r : σ.Row b 1 (boolsL l)) (hp : σ.prot ≤ b) {i : Int} (h0 : 0 ≤ i) (h1 : i < l.length) {x : Bool} {len : Nat} {cp : Option Nat} :
    σ.stL (Hdl.idx ⟨some (b, 0), len, cp⟩ i 1) [.bool x] 0 = some (σ.setO b (.cells (boolsL (l.set i.toNat x)) true 1)) := by
  rw [st_row r hp h0 (by simpa using h1) rfl, boolsL_set]
/-! ### rows that grow -/
structure Grow (σ : Store) (n : Nat) (h : Hdl) (es : Nat) (l : List AV) : Prop where
  sl : σ.Sl h es l
  own : σ.Own n h es
theorem Grow.nil (σ : Store) (n es : Nat) : Grow σ n Hdl.nil es [] := ⟨⟨by simp [Hdl.nil], .inl rfl⟩, ⟨fun b o e => by simp [Hdl.nil] at e, fun _ => rfl⟩⟩
theorem Grow.rowLt {h : Hdl} (g : Grow σ n h es l) : ∀ b o, h.a = some (b, o) → n ≤ b ∧ b < σ.objs.length := fun b o e => by
  obtain ⟨h1, cs, h2, _⟩ := g.own.own b o e
  exact ⟨h1, (List.getElem?_eq_some_iff.1 h2).1⟩
theorem Grow.keep {h : Hdl} (g : Grow σ n h es l) (k : ∀ b o, h.a = some (b, o) → σ'.objs[b]? = σ.objs[b]?) : Grow σ' n h es l :=
  ⟨g.sl.keep k, ⟨fun b o e => by
    obtain ⟨h1, cs, h2, h3, h4⟩ := g.own.own b o e
    exact ⟨h1, cs, (k b o e).trans h2, h3, h4⟩, g.own.nil⟩⟩
theorem Grow.kp {h : Hdl} (g : Grow σ n h es l) (k : Kp σ.objs.length σ σ') : Grow σ' n h es l := g.keep fun b o e => k.keep b (g.rowLt b o e).2
theorem Grow.setO {h : Hdl} (g : Grow σ n h es l) (hc : c < n) {o : AObj} : Grow (σ.setO c o) n h es l := g.keep fun b o' e => by
  have := (g.rowLt b o' e).1
  show (σ.objs.set c o)[b]? = _
  rw [List.getElem?_set, if_neg (by omega)]
theorem Grow.mono {h : Hdl} (g : Grow σ n h es l) (hm : m ≤ n) : Grow σ m h es l :=
  ⟨g.sl, ⟨fun b o e => by obtain ⟨h1, h2⟩ := g.own.own b o e; exact ⟨by omega, h2⟩, g.own.nil⟩⟩
theorem Grow.len {h : Hdl} (g : Grow σ n h 1 l) : h.len = l.length := by have := g.sl.len; simpa using this
theorem read1 (σ : Store) (v : AV) (cp : Option Nat) : Store.readSl (σ.push [v] 1) ⟨some (σ.objs.length, 0), 1, cp⟩ 1 = some [v] :=
  (Store.Row.new.sl (by rfl)).read
/-- append of one value. -/
theorem Grow.app1 {h : Hdl} (g : Grow σ n h 1 l) (hp : σ.prot ≤ n) (hn : n ≤ σ.objs.length) {v : AV} (hv : v.one = true) {bs : Nat} (hb : 0 < bs) (hc : (l.length + 1) * bs ≤ 140737488355328) :
    ∃ h' σ', Store.app (σ.push [v] 1) h 1 bs [v] 1 = some (h', σ') ∧ Kp n σ σ' ∧ Grow σ' n h' 1 (l ++ [v]) := by
  have k := Kp.push [v] 1 (σ := σ) (Nat.le_refl _)
  have g' := g.kp k
  have hl := g.len
  obtain ⟨h', σ', e, k', s', o', _⟩ := app_spec (xs := [v]) (by_ := bs) (m := 1) g'.sl g'.own (by simpa using hp) (by simp; omega) (by omega) (by simp) (by simp [hv]) hb (by rw [hl]; exact hc)
  exact ⟨h', σ', e, (Kp.push [v] 1 hn).trans k', ⟨s', o'⟩⟩
end
theorem app_row {σ σ' : Store} {h h' : Hdl} {es bs m : Nat} {xs : List AV} (e : σ.app h es bs xs m = some (h', σ')) : h'.row = h.row ∨ h'.row = some σ.objs.length := by
  unfold Store.app at e
  split at e
  · injection e with e; injection e with e1 e2; subst e1; exact .inl rfl
  · split at e
    · split at e
      · injection e with e; injection e with e1 e2; subst e1; exact .inr rfl
      · rename_i b o ha
        split at e
        · split at e
          · split at e
            · split at e
              · split at e
                · injection e with e; injection e with e1 e2; subst e1; exact .inl (by simp [Hdl.row, ha])
                · cases e
              · injection e with e; injection e with e1 e2; subst e1; exact .inr rfl
            · split at e
              · injection e with e; injection e with e1 e2; subst e1; exact .inr rfl
              · cases e
          · cases e
        · cases e
    · cases e
/-- append of one value, and what else stays. -/
theorem Grow.app1X {σ : Store} {n : Nat} {h : Hdl} {l : List AV} (g : Grow σ n h 1 l) (hp : σ.prot ≤ n) (hn : n ≤ σ.objs.length) {v : AV} (hv : v.one = true) {bs : Nat} (hb : 0 < bs) (hc : (l.length + 1) * bs ≤ 140737488355328) :
    ∃ h' σ', Store.app (σ.push [v] 1) h 1 bs [v] 1 = some (h', σ') ∧ Kp n σ σ' ∧ Grow σ' n h' 1 (l ++ [v]) ∧ (∀ b, b < σ.objs.length → h.row ≠ some b → σ'.objs[b]? = σ.objs[b]?) ∧ (h'.row = h.row ∨ ∀ b, h'.row = some b → σ.objs.length ≤ b) := by
  have k := Kp.push [v] 1 (σ := σ) (Nat.le_refl _)
  have g' := g.kp k
  have hl := g.len
  obtain ⟨h', σ', e, k', s', o', _, fr⟩ := app_spec (xs := [v]) (by_ := bs) (m := 1) g'.sl g'.own (by simpa using hp) (by simp; omega) (by omega) (by simp) (by simp [hv]) hb (by rw [hl]; exact hc)
  refine ⟨h', σ', e, (Kp.push [v] 1 hn).trans k', ⟨s', o'⟩, fun b hb hr => ?_, ?_⟩
  · rw [fr b (fun c o e' e2 => hr (by simp [Hdl.row, e', e2])) (by simp; omega)]
    simp only [Store.push]; rw [List.getElem?_append_left hb]
  · rcases app_row e with r | r
    · exact .inl r
    · refine .inr fun b hb => ?_
      rw [r] at hb; injection hb with hb; subst hb; simp
theorem Grow.keepX {σ σ' : Store} {n : Nat} {h : Hdl} {es : Nat} {l : List AV} (g : Grow σ n h es l) (k : ∀ b, h.row = some b → σ'.objs[b]? = σ.objs[b]?) : Grow σ' n h es l := g.keep fun b o e => k b (by simp [Hdl.row, e])
/-- One cell of a row that grows is written. -/
theorem Grow.st {σ : Store} {n : Nat} {h : Hdl} {l : List AV} (g : Grow σ n h 1 l) (hp : σ.prot ≤ n) {i : Int} (h0 : 0 ≤ i) (h1 : i < l.length) {v : AV} (hv : v.one = true) :
    ∃ σ', σ.stL (h.idx i 1) [v] 0 = some σ' ∧ Kp n σ σ' ∧ Grow σ' n h 1 (l.set i.toNat v) ∧ σ'.objs.length = σ.objs.length := by
  have hl := g.len
  cases ha : h.a with
  | none => have := g.own.nil ha; omega
  | some bo =>
    obtain ⟨b, o⟩ := bo
    obtain ⟨hb, cs, k1, k2, k3⟩ := g.own.own b o ha
    have hbl : b < σ.objs.length := (List.getElem?_eq_some_iff.1 k1).1
    obtain ⟨σ', e, off, s', w'⟩ := st_spec g.sl ⟨b, o, cs, ha, k1, by omega⟩ h0 h1 hv (b := b) (by simp [Hdl.row, ha])
    have e2 : σ.stL (h.idx i 1) [v] 0 = some (σ.setO b (.cells (cs.set (o + i.toNat) v) true 1)) := by
      rw [stL_one]
      simp only [Hdl.idx, Ptr.add, ha, Option.map_some, Nat.mul_one, Store.st, k1]
      rw [if_pos ⟨⟨by omega, by omega⟩, hv⟩]
      rfl
    rw [e2] at e
    injection e with e
    refine ⟨_, e2, (Kp.refl n σ).setO hb, ⟨by rw [e]; exact s', ⟨fun b' o' e' => ?_, g.own.nil⟩⟩, by simp⟩
    rw [ha] at e'; injection e' with e'; injection e' with e1 e2; subst e1 e2
    exact ⟨hb, _, Store.Row.setO_eq hbl, by simpa using k2, fun c hc => by simpa using k3 c hc⟩
/-- A growing row of numbers. -/
abbrev GrowI (σ : Store) (n : Nat) (h : Hdl) (l : List Int) : Prop := Grow σ n h 1 (intsL l)
theorem GrowI.app {σ : Store} {n : Nat} {h : Hdl} {l : List Int} (g : GrowI σ n h l) (hp : σ.prot ≤ n) (hn : n ≤ σ.objs.length) (x : Int) (hc : l.length < 2 ^ 42) :
    ∃ h' σ', Store.app (σ.push [.int .i64 x] 1) h 1 8 [.int .i64 x] 1 = some (h', σ') ∧ Kp n σ σ' ∧ GrowI σ' n h' (l ++ [x]) := by
  obtain ⟨h', σ', e, k, g'⟩ := Grow.app1 g hp hn (v := .int .i64 x) rfl (bs := 8) (by omega) (by simp; omega)
  exact ⟨h', σ', e, k, by rw [GrowI, intsL_append]; exact g'⟩
theorem Grow.ints {σ : Store} {n : Nat} {h : Hdl} {l : List Int} (g : Grow σ n h 1 (intsL l)) : σ.Ints h l := g.sl
theorem GrowI.ints {σ : Store} {n : Nat} {h : Hdl} {l : List Int} (g : GrowI σ n h l) : σ.Ints h l := g.sl
end Go.Ab

/- The array of a list's suffixes, reckoned: each put among the others. -/
namespace Go.Ab.Bs
open Go.Ab.Wd
set_option linter.unusedVariables false
set_option linter.unusedSimpArgs false
instance decLlt : ∀ a b : List Int, Decidable (llt a b)
  | [], [] => .isFalse (by simp [llt])
  | [], _ :: _ => .isTrue (by simp [llt])
  | _ :: _, [] => .isFalse (by simp [llt])
  | x :: xs, y :: ys =>
    if h : x < y then .isTrue (.inl h) else if h' : x = y then
      match decLlt xs ys with
      | .isTrue k => .isTrue (.inr ⟨h', k⟩)
      | .isFalse k => .isFalse fun e => e.elim h (fun e => k e.2)
    else .isFalse fun e => e.elim h (fun e => h' e.1)
instance decSl (t : List Int) (p q : Int) : Decidable (sl t p q) := decLlt _ _
/-- So many of a list, sorted, are less than p. -/
structure Srt (t l : List Int) (n : Int) : Prop where
  rng : ∀ p ∈ l, 0 ≤ p ∧ p < n
  ord : l.Pairwise (sl t)
  all : ∀ p : Int, 0 ≤ p → p < n → p ∈ l
theorem Srt.nd {t l : List Int} {n : Int} (h : Srt t l n) : l.Nodup := by
  unfold List.Nodup
  refine h.ord.imp ?_
  intro a b hs e
  rw [e] at hs
  exact sl_irrefl t b hs
theorem Srt.len {t l : List Int} {n : Int} (h : Srt t l n) (hn : 0 ≤ n) : (l.length : Int) = n := by
  have h1 := nodup_sub_len h.nd (m := places n.toNat) (fun p hp => mem_places.2 (by have := h.rng p hp; omega))
  have h2 := nodup_sub_len (nodup_places n.toNat) (m := l) (fun p hp => by have := mem_places.1 hp; exact h.all p this.1 (by omega))
  rw [places_length] at h1 h2
  omega
theorem Srt.isSA {t l : List Int} (h : Srt t l t.length) : IsSA t l := ⟨⟨by have := h.len (by omega); omega, h.rng, h.nd⟩, h.ord⟩
theorem Srt.ins {t l : List Int} {p : Int} (h : Srt t l p) (p0 : 0 ≤ p) (p1 : p < t.length) (i : Nat) (hi : i ≤ l.length) (h1 : ∀ j : Int, 0 ≤ j → j < i → sl t (rd l j) p) (h2 : ∀ j : Int, i ≤ j → j < l.length → ¬ sl t (rd l j) p) :
    Srt t (l.take i ++ p :: l.drop i) (p + 1) := by
  have hm : ∀ q, q ∈ l.take i ++ p :: l.drop i ↔ q ∈ l ∨ q = p := by
    intro q
    rw [List.mem_append, List.mem_cons]
    have : q ∈ l ↔ q ∈ l.take i ∨ q ∈ l.drop i := by rw [← List.mem_append, List.take_append_drop]
    rw [this]
    constructor
    · rintro (h | h | h)
      · exact .inl (.inl h)
      · exact .inr h
      · exact .inl (.inr h)
    · rintro ((h | h) | h)
      · exact .inl h
      · exact .inr (.inr h)
      · exact .inr (.inl h)
  refine ⟨fun q hq => ?_, ?_, fun q q0 q1 => ?_⟩
  · rcases (hm q).1 hq with hq | rfl
    · have := h.rng q hq; omega
    · omega
  · have hlt : ∀ a ∈ l.take i, sl t a p := by
      intro a ha
      obtain ⟨j, hj, rfl⟩ := List.getElem_of_mem ha
      simp only [List.length_take] at hj
      have := h1 j (by omega) (by omega)
      rw [rd_getElem (by omega)] at this
      rw [List.getElem_take]
      exact this
    have hgt : ∀ a ∈ l.drop i, sl t p a := by
      intro a ha
      obtain ⟨j, hj, rfl⟩ := List.getElem_of_mem ha
      simp only [List.length_drop] at hj
      have hn := h2 ((i + j : Nat) : Int) (by omega) (by omega)
      rw [rd_getElem (by omega)] at hn
      rw [List.getElem_drop]
      have hr := h.rng _ (List.getElem_mem (show i + j < l.length by omega))
      rcases sl_tri (t := t) (p := l[i + j]) (q := p) hr.1 (by omega) p0 p1 (by omega) with hs | hs
      · exact absurd hs hn
      · exact hs
    rw [List.pairwise_append]
    refine ⟨h.ord.sublist (List.take_sublist _ _), List.pairwise_cons.2 ⟨hgt, h.ord.sublist (List.drop_sublist _ _)⟩, fun a ha b hb => ?_⟩
    rcases List.mem_cons.1 hb with rfl | hb
    · exact hlt a ha
    · exact sl_trans (hlt a ha) (hgt b hb)
  · rw [hm]
    by_cases e : q = p
    · exact .inr e
    · exact .inl (h.all q q0 (by omega))
/-- How many of a sorted list's first ones are less than p. -/
def lessN (t : List Int) (p : Int) : List Int → Nat
  | [] => 0
  | a :: l => if sl t a p then lessN t p l + 1 else 0
theorem lessN_spec (t : List Int) (p : Int) : ∀ l : List Int, l.Pairwise (sl t) → lessN t p l ≤ l.length ∧ (∀ j : Int, 0 ≤ j → j < lessN t p l → sl t (rd l j) p) ∧ ∀ j : Int, lessN t p l ≤ j → j < l.length → ¬ sl t (rd l j) p
  | [], _ => ⟨by simp [lessN], fun j _ h => by simp [lessN] at h; omega, fun j _ h => by simp at h; omega⟩
  | a :: l, hm => by
    obtain ⟨hi, h1, h2⟩ := lessN_spec t p l (List.pairwise_cons.1 hm).2
    have hs : ∀ j : Int, 1 ≤ j → rd (a :: l) j = rd l (j - 1) := by
      intro j hj
      unfold rd
      rw [show j.toNat = (j - 1).toNat + 1 by omega]
      simp
    simp only [lessN]
    by_cases c : sl t a p
    · rw [if_pos c]
      refine ⟨by simp; omega, fun j j0 j1 => ?_, fun j j0 j1 => ?_⟩
      · by_cases e : j = 0
        · rw [e]; exact c
        · rw [hs j (by omega)]; exact h1 (j - 1) (by omega) (by omega)
      · rw [hs j (by omega)]; exact h2 (j - 1) (by omega) (by simp at j1; omega)
    · rw [if_neg c]
      refine ⟨by simp, fun j _ _ => by omega, fun j j0 j1 hx => ?_⟩
      by_cases e : j = 0
      · rw [e] at hx; exact c hx
      · have hmem : rd (a :: l) j ∈ l := by rw [hs j (by omega)]; exact rd_mem (by omega) (by simp at j1; omega)
        exact c (sl_trans ((List.pairwise_cons.1 hm).1 _ hmem) hx)
def saUpto (t : List Int) : Nat → List Int
  | 0 => []
  | n + 1 => let l := saUpto t n; let i := lessN t n l; l.take i ++ (n : Int) :: l.drop i
theorem srt_upto (t : List Int) : ∀ n : Nat, n ≤ t.length → Srt t (saUpto t n) n
  | 0, _ => ⟨fun p hp => by simp [saUpto] at hp, .nil, fun p _ _ => by omega⟩
  | n + 1, hn => by
    have h := srt_upto t n (by omega)
    obtain ⟨hi, h1, h2⟩ := lessN_spec t n _ h.ord
    exact h.ins (by omega) (by omega) _ hi h1 h2
/-- The array of a list's suffixes. -/
def saOf (t : List Int) : List Int := saUpto t t.length
theorem saOf_spec (t : List Int) : IsSA t (saOf t) := (srt_upto t t.length (Nat.le_refl _)).isSA
theorem saOf_eq {t sa : List Int} (h : IsSA t sa) : saOf t = sa := IsSA.uniq (saOf_spec t) h
end Go.Ab.Bs

/- What the sorter does, plainly: names of pieces, short places, the left ones; sorting whole. -/
namespace Go.Ab.Sai
open Go.Ab.Wd Go.Ab.Bs
set_option linter.unusedVariables false
set_option linter.unusedSimpArgs false
def lfB (short : List Bool) (p : Int) : Bool := decide (0 < p) && (rdOf false short p && !rdOf false short (p - 1))
theorem lfB_iff (short : List Bool) (p : Int) : lfB short p = true ↔ Lf short p := by simp [lfB, Lf, S]
def sm (t : List Int) (short : List Bool) (a b : Int) : Nat → Int → Bool
  | 0, _ => false
  | m + 1, i =>
    if a + i < t.length ∧ b + i < t.length ∧ rd t (a + i) = rd t (b + i) ∧ S short (a + i) = S short (b + i) then
      if 0 < i ∧ (lfB short (a + i) = true ∨ lfB short (b + i) = true) then lfB short (a + i) && lfB short (b + i) else sm t short a b m (i + 1)
    else false
theorem code_iff (t : List Int) (short : List Bool) (p q : Int) : code t short p = code t short q ↔ rd t p = rd t q ∧ S short p = S short q := by
  constructor
  · exact code_eq
  · rintro ⟨h1, h2⟩; unfold code; rw [h1, h2]
theorem sm_spec {t : List Int} {short : List Bool} (sh : Short t short) {a b : Int} (a0 : 0 ≤ a) (b0 : 0 ≤ b) (hne : a ≠ b) : ∀ (m : Nat) (i : Int), 0 ≤ i → a + i ≤ t.length → b + i ≤ t.length → (t.length : Int) < max a b + i + m →
    (sm t short a b m i = true ↔ if i = 0 then B1 t short a = B1 t short b else A1 t short (a + i) = A1 t short (b + i))
  | 0, i, i0, ha, hb, hm => by omega
  | m + 1, i, i0, ha, hb, hm => by
    have ih := sm_spec sh a0 b0 hne m (i + 1) (by omega)
    simp only [sm]
    rw [if_neg (show ¬ i + 1 = 0 by omega)] at ih
    have key : ∀ x y : Int, x = a + i → y = b + i → (x < t.length → y < t.length → (code t short x = code t short y ↔ rd t x = rd t y ∧ S short x = S short y)) := fun x y _ _ _ _ => code_iff t short x y
    obtain ⟨x, hx⟩ : ∃ x, a + i = x := ⟨_, rfl⟩
    obtain ⟨y, hy⟩ : ∃ y, b + i = y := ⟨_, rfl⟩
    rw [show a + (i + 1) = x + 1 by omega, show b + (i + 1) = y + 1 by omega] at ih
    simp only [hx, hy] at ha hb ⊢
    have hnn : ∀ {p : Int}, p < t.length → A1 t short p ≠ [] := fun {p} hp => by
      by_cases hl : Lf short p
      · rw [A1_left hp hl]; simp
      · rw [A1_other hp hl]; simp
    have hhd : ∀ {p : Int}, p < t.length → (A1 t short p).head? = some (code t short p) := fun {p} hp => by
      by_cases hl : Lf short p
      · rw [A1_left hp hl]; simp
      · rw [A1_other hp hl]; simp
    by_cases i00 : i = 0
    · rw [if_pos i00]
      have ea : x = a := by omega
      have eb : y = b := by omega
      rw [← ea, ← eb] at ih ⊢
      by_cases cx : x < t.length
      · by_cases cy : y < t.length
        · rw [B1_cons cx, B1_cons cy]
          by_cases ce : rd t x = rd t y ∧ S short x = S short y
          · rw [if_pos ⟨cx, cy, ce⟩, if_neg (by omega), ih (by omega) (by omega) (by omega), List.cons.injEq, (code_iff t short x y).2 ce]
            simp
          · rw [if_neg (by rintro ⟨_, _, h⟩; exact ce h), List.cons.injEq, code_iff]
            simp [ce]
        · have : y = t.length := by omega
          rw [if_neg (by rintro ⟨_, h, _⟩; exact cy h), B1_cons cx]
          unfold B1
          rw [if_neg cy]
          simp
      · rw [if_neg (by rintro ⟨h, _⟩; exact cx h)]
        have cy : y < t.length := by omega
        rw [B1_cons cy]
        unfold B1
        rw [if_neg cx]
        simp
    · rw [if_neg i00]
      by_cases cx : x < t.length
      · by_cases cy : y < t.length
        · by_cases ce : rd t x = rd t y ∧ S short x = S short y
          · rw [if_pos ⟨cx, cy, ce⟩]
            have hcode := (code_iff t short x y).2 ce
            have hlast : ∀ p q : Int, q < t.length → S short p = true → S short p = S short q → A1 t short (q + 1) ≠ [] := fun p q hq h1 h2 h3 => by
              have : ¬ q + 1 < t.length := fun h => hnn h h3
              have e : q = t.length - 1 := by omega
              rw [h1, e, sh.last] at h2
              cases h2
            by_cases l1 : Lf short x
            · have b1 := (lfB_iff short x).2 l1
              by_cases l2 : Lf short y
              · have b2 := (lfB_iff short y).2 l2
                rw [if_pos ⟨by omega, .inl b1⟩, b1, b2, A1_left cx l1, A1_left cy l2, hcode]
                simp
              · have b2 : lfB short y = false := by rw [Bool.eq_false_iff]; exact fun h => l2 ((lfB_iff short y).1 h)
                rw [if_pos ⟨by omega, .inl b1⟩, b1, b2, A1_left cx l1, A1_other cy l2, hcode]
                have := hlast x y cy l1.2.1 ce.2
                simp [Ne.symm this]
            · have b1 : lfB short x = false := by rw [Bool.eq_false_iff]; exact fun h => l1 ((lfB_iff short x).1 h)
              by_cases l2 : Lf short y
              · have b2 := (lfB_iff short y).2 l2
                rw [if_pos ⟨by omega, .inr b2⟩, b1, b2, A1_other cx l1, A1_left cy l2, hcode]
                have := hlast y x cx l2.2.1 ce.2.symm
                simp [this]
              · have b2 : lfB short y = false := by rw [Bool.eq_false_iff]; exact fun h => l2 ((lfB_iff short y).1 h)
                rw [if_neg (by rw [b1, b2]; simp), ih (by omega) (by omega) (by omega), A1_other cx l1, A1_other cy l2, hcode]
                simp
          · rw [if_neg (by rintro ⟨_, _, h⟩; exact ce h)]
            have : A1 t short x ≠ A1 t short y := fun e => by
              have h1 := hhd cx
              rw [e, hhd cy] at h1
              injection h1 with h1
              exact ce ((code_iff t short x y).1 h1.symm)
            simp [this]
        · rw [if_neg (by rintro ⟨_, h, _⟩; exact cy h), A1_end (show (t.length : Int) ≤ y by omega)]
          have := hnn cx
          simp [this]
      · rw [if_neg (by rintro ⟨h, _⟩; exact cx h), A1_end (show (t.length : Int) ≤ x by omega)]
        have cy : y < t.length := by omega
        have := hnn cy
        simp [Ne.symm this]
/-! ### which places are short -/
def shF : List Int → List Bool
  | [] => []
  | [_] => [false]
  | x :: y :: r => (decide (x < y) || (decide (x = y) && (shF (y :: r)).headD false)) :: shF (y :: r)
theorem shF_length : ∀ t : List Int, (shF t).length = t.length
  | [] => rfl
  | [_] => rfl
  | x :: y :: r => by simp [shF, shF_length (y :: r)]
theorem S_cons_zero (b : Bool) (l : List Bool) : S (b :: l) 0 = b := by simp [S, rdOf]
theorem S_cons_succ (b : Bool) (l : List Bool) {p : Int} (hp : 0 ≤ p) : S (b :: l) (p + 1) = S l p := by
  unfold S rdOf
  rw [show (p + 1).toNat = p.toNat + 1 by omega]
  simp
theorem shF_head (t : List Int) : S (shF t) 0 = (shF t).headD false := by cases h : shF t <;> simp [S, rdOf]
theorem rd_cons_zero (x : Int) (l : List Int) : rd (x :: l) 0 = x := by simp [rd]
theorem rd_cons_succ (x : Int) (l : List Int) {p : Int} (hp : 0 ≤ p) : rd (x :: l) (p + 1) = rd l p := by
  unfold rd
  rw [show (p + 1).toNat = p.toNat + 1 by omega]
  simp
theorem shF_short : ∀ t : List Int, 0 < t.length → Short t (shF t)
  | [], h => absurd h (by simp)
  | [x], _ => ⟨rfl, by simp [shF, S, rdOf], fun p p0 p1 => by simp at p1; omega⟩
  | x :: y :: r, _ => by
    have ih := shF_short (y :: r) (by simp)
    refine ⟨shF_length _, ?_, fun p p0 p1 => ?_⟩
    · have e : ((x :: y :: r).length : Int) - 1 = (((y :: r).length : Int) - 1) + 1 := by simp
      rw [e, shF, S_cons_succ _ _ (by simp)]
      exact ih.last
    · by_cases h : p = 0
      · subst h
        rw [shF, S_cons_zero, show (0 : Int) + 1 = 0 + 1 from rfl, S_cons_succ _ _ (by omega), shF_head, rd_cons_zero, rd_cons_succ _ _ (by omega), rd_cons_zero]
      · obtain ⟨q, rfl⟩ : ∃ q, p = q + 1 := ⟨p - 1, by omega⟩
        have := ih.step q (by omega) (by simp at p1 ⊢; omega)
        rw [shF, S_cons_succ _ _ (by omega), rd_cons_succ _ _ (by omega), rd_cons_succ _ _ (by omega), S_cons_succ _ _ (by omega)]
        exact this
/-- Short from j on, nothing ahead. -/
def shU (t : List Int) (j : Nat) : List Bool := List.replicate j false ++ shF (t.drop j)
theorem shU_length {t : List Int} {j : Nat} (h : j ≤ t.length) : (shU t j).length = t.length := by simp [shU, shF_length]; omega
theorem shU_zero (t : List Int) : shU t 0 = shF t := by simp [shU]
theorem shU_last {t : List Int} (h : 0 < t.length) : shU t (t.length - 1) = List.replicate t.length false := by
  obtain ⟨m, hm⟩ : ∃ m, t.length = m + 1 := ⟨t.length - 1, by omega⟩
  have : t.drop (t.length - 1) = [t[t.length - 1]] := by
    rw [List.drop_eq_getElem_cons (by omega), List.drop_eq_nil_of_le (by omega)]
  unfold shU
  rw [this, shF, hm]
  simp [List.replicate_succ']
theorem S_shU {t : List Int} {j : Nat} {p : Int} (hp : (j : Int) ≤ p) : S (shU t j) p = S (shF (t.drop j)) (p - j) := by
  unfold S rdOf shU
  rw [List.getD_eq_getElem?_getD, List.getD_eq_getElem?_getD, List.getElem?_append_right (by simp; omega)]
  congr 2
  simp
theorem shU_step {t : List Int} {j : Nat} (hj : j + 1 < t.length) : (shU t (j + 1)).set j (decide (rd t j < rd t (j + 1)) || (decide (rd t j = rd t (j + 1)) && S (shU t (j + 1)) (j + 1))) = shU t j := by
  have e1 : t.drop j = t[j] :: t[j + 1] :: t.drop (j + 2) := by rw [List.drop_eq_getElem_cons (by omega), List.drop_eq_getElem_cons (by omega)]
  have e2 : t.drop (j + 1) = t[j + 1] :: t.drop (j + 2) := by rw [List.drop_eq_getElem_cons (by omega)]
  have h1 : rd t j = t[j] := rd_getElem (by omega)
  have h2 : rd t ((j : Int) + 1) = t[j + 1] := by have := rd_getElem (l := t) (i := j + 1) (by omega); rw [← this]; congr 1
  rw [S_shU (by omega), show ((j : Int) + 1 - ((j + 1 : Nat) : Int)) = 0 by omega, shF_head, h1, h2]
  unfold shU
  rw [List.replicate_succ', List.append_assoc, List.set_append_right _ _ (by simp), List.length_replicate, Nat.sub_self, e1, shF, e2]
  simp
def lefU (short : List Bool) (j : Nat) : List Int := (places j).filter fun p => lfB short p
theorem places_succ (j : Nat) : places (j + 1) = places j ++ [(j : Int)] := by simp [places, List.range_succ]
theorem lefU_yes {short : List Bool} {j : Nat} (h : lfB short j = true) : lefU short (j + 1) = lefU short j ++ [(j : Int)] := by
  unfold lefU; rw [places_succ, List.filter_append]; simp [h]
theorem lefU_no {short : List Bool} {j : Nat} (h : lfB short j = false) : lefU short (j + 1) = lefU short j := by
  unfold lefU; rw [places_succ, List.filter_append]; simp [h]
theorem lefU_length (short : List Bool) (j : Nat) : (lefU short j).length ≤ j := by
  have := List.length_filter_le (fun p => lfB short p) (places j)
  rw [places_length] at this
  exact this

theorem lefU_mem {short : List Bool} {j : Nat} {p : Int} : p ∈ lefU short j ↔ (0 ≤ p ∧ p < j) ∧ Lf short p := by
  unfold lefU; rw [List.mem_filter, mem_places, lfB_iff]
theorem places_asc (n : Nat) : (places n).Pairwise (· < ·) := by
  unfold places; rw [List.pairwise_map]; exact List.pairwise_lt_range.imp fun h => by simpa using h
theorem lefU_asc (t : List Int) (short : List Bool) : Asc t short (lefU short t.length) :=
  ⟨⟨(nodup_places _).filter _, fun p => by rw [lefU_mem]⟩, (places_asc _).filter _⟩
theorem lefU_lt {short : List Bool} {n : Nat} (h : 0 < n) : (lefU short n).length < n := by
  have h1 := nodup_sub_len (l := 0 :: lefU short n) (m := places n) (List.nodup_cons.2 ⟨fun h => by
    have := (lefU_mem.1 h).2.1; omega, (nodup_places _).filter _⟩) (fun p hp => by
      rcases List.mem_cons.1 hp with rfl | hp
      · exact mem_places.2 ⟨by omega, by omega⟩
      · exact mem_places.2 (lefU_mem.1 hp).1)
  rw [places_length, List.length_cons] at h1
  omega
def smB (t : List Int) (short : List Bool) (a b : Int) : Bool := sm t short a b (t.length + 1) 0
/-- Sorting, plainly. -/
theorem sort_plain {t : List Int} {kk : Nat} (hpos : 0 < t.length) (hrng : ∀ x ∈ t, 0 ≤ x ∧ x < kk) :
    ∃ sa1 nm top, induce t (shF t) kk (lefU (shF t) t.length) = some sa1 ∧ IsPerm t.length sa1 ∧ name (lfB (shF t)) (smB t (shF t)) sa1 (List.replicate t.length 0) (-1) (-1) = (nm, top) ∧ nm.length = t.length ∧ -1 ≤ top ∧ top < t.length ∧
      (∀ x ∈ (lefU (shF t) t.length).map (rd nm), 0 ≤ x ∧ x ≤ top) ∧ induce t (shF t) kk ((saOf ((lefU (shF t) t.length).map (rd nm))).map (rd (lefU (shF t) t.length))) = some (saOf t) := by
  have sh := shF_short t hpos
  have asc := lefU_asc t (shF t)
  obtain ⟨sa1, e1, hp, ho⟩ := first_pass hpos hrng sh asc.toLefts
  have hord : sa1.Pairwise (fun p q => le (B1 t (shF t) p) (B1 t (shF t) q)) := by
    rw [List.pairwise_iff_getElem]
    intro i j hi hj hij
    have := ho i j (by omega) (by omega) (by have := hp.len; omega)
    rwa [rd_getElem hi, rd_getElem hj] at this
  obtain ⟨nm, top, last, e2, inv, ht⟩ := name_spec (t := t) (short := shF t) (lfB (shF t)) (smB t (shF t)) (fun p _ _ => lfB_iff _ p) (fun p q p0 p1 q0 q1 _ _ hne => by
      have := sm_spec sh p0 q0 hne (t.length + 1) 0 (Int.le_refl _) (by omega) (by omega) (by omega)
      rwa [if_pos rfl] at this) sa1 [] (List.replicate t.length 0) (-1) (-1) (fun p hp' => hp.rng p (by simpa using hp')) (by simpa using hp.nd) (by simpa using hord)
      ⟨by simp, by simp, by simp, .inl ⟨by omega, rfl, by simp⟩, by omega⟩
  rw [List.nil_append] at inv
  have hn : Names t (shF t) nm top := ⟨fun p p0 p1 hl => inv.rng p (hp.mem p0 p1) hl, fun p q p0 p1 q0 q1 hlp hlq => inv.lt p (hp.mem p0 p1) q (hp.mem q0 q1) hlp hlq⟩
  obtain ⟨sa2, e3, hsa⟩ := second_pass hpos hrng sh asc hn (saOf_spec _)
  rw [saOf_eq hsa]
  refine ⟨sa1, nm, top, e1, hp, e2, inv.len, inv.top_, by have := hp.len; omega, fun x hx => ?_, e3⟩
  obtain ⟨p, hp', rfl⟩ := List.mem_map.1 hx
  have := lefU_mem.1 hp'
  exact hn.rng p this.1.1 this.1.2 this.2
end Go.Ab.Sai

/- same. -/
namespace Go.Ab
open Go Go.Proofs Go.Ab.Wd Go.Ab.Bs Go.Ab.Sai
set_option linter.unusedVariables false
set_option linter.unusedSimpArgs false
set_option maxHeartbeats 1000000 in
theorem same_loop {σ : Store} {p : Ptr} {ht hs ha : Hdl} {kk : Nat} {t : List Int} {sh : List Bool} {sa : List Int} (S : Sorter σ p ht hs ha kk t sh sa) (hn : t.length < 2 ^ 61) (hl : sh.length = t.length) {a b : Int} (a0 : 0 ≤ a) (b0 : 0 ≤ b) (m : Nat) :
    ∀ i : Int, 0 ≤ i → a + i ≤ t.length → b + i ≤ t.length → (t.length : Int) < max a b + i + m →
      EvI (fun k s => stepF Try.prog (gm Try.prog k) drawn k Try.f39 [1, 1, 0] [7, 2, 1, 0] s) ([.int .i64 i, .int .i64 b, .int .i64 a, .ptr p], σ) (AX.ret, [(6, .bool (sm t sh a b m i))], σ) := by
  induction m with
  | zero => intro i i0 ia ib im; omega
  | succ m ih =>
    intro i i0 ia ib im
    obtain ⟨x, rfl⟩ := S.nn
    have w1 : IntKind.wrap .i64 (a + i) = a + i := wrap64 (by omega) (by omega)
    have w2 : IntKind.wrap .i64 (b + i) = b + i := wrap64 (by omega) (by omega)
    have w3 : IntKind.wrap .i64 (i + 1) = i + 1 := wrap64 (by omega) (by omega)
    have lt := S.t.ilen
    have ls := S.s.blen
    have eq := fun (Γ : Gam) k => f39_L110 Γ k σ i b a (some x)
    by_cases c1 : a + i < t.length
    · by_cases c2 : b + i < t.length
      · obtain ⟨k1, r1⟩ := left_spec S (show 0 ≤ a + i by omega) (by omega) (by omega)
        obtain ⟨k2, r2⟩ := left_spec S (show 0 ≤ b + i by omega) (by omega) (by omega)
        have n1 : 0 ≤ a + i := by omega
        have n2 : 0 ≤ b + i := by omega
        have i1 := ih (i + 1) (by omega) (by omega) (by omega) (by omega)
        have hA : lft sh (a + i) = lfB sh (a + i) := rfl
        have hB : lft sh (b + i) = lfB sh (b + i) := rfl
        rw [hA] at r1
        rw [hB] at r2
        have main : ∀ k, k1 + k2 ≤ k → stepF Try.prog (gm Try.prog k) drawn k Try.f39 [1, 1, 0] [7, 2, 1, 0] ([.int .i64 i, .int .i64 b, .int .i64 a, .ptr (some x)], σ) =
            if rd t (a + i) = rd t (b + i) ∧ Sai.S sh (a + i) = Sai.S sh (b + i) then
              if 0 < i ∧ (lfB sh (a + i) = true ∨ lfB sh (b + i) = true) then some (.inr (AX.ret, [(6, .bool (lfB sh (a + i) && lfB sh (b + i)))], σ)) else some (.inl ([.int .i64 (i + 1), .int .i64 b, .int .i64 a, .ptr (some x)], σ))
            else some (.inr (AX.ret, [(6, .bool false)], σ)) := by
          intro k hk
          have r1 := r1 k (by omega)
          have r2 := r2 k (by omega)
          simp only at r1 r2
          have hta := S.t.rd (show 0 ≤ a + i by omega) c1
          have htb := S.t.rd (show 0 ≤ b + i by omega) c2
          have hsa := S.s.rd (show 0 ≤ a + i by omega) (by omega)
          have hsb := S.s.rd (show 0 ≤ b + i by omega) (by omega)
          rw [eq]
          have eS : ∀ q, Sai.S sh q = rdOf false sh q := fun _ => rfl
          rw [eS, eS]
          by_cases c3 : rd t (a + i) = rd t (b + i)
          · cases h3 : rdOf false sh (a + i) <;> cases h4 : rdOf false sh (b + i) <;> rw [h3] at hsa <;> rw [h4] at hsb
            all_goals try (simp only [Option.bind_some, decide_eq_true_eq, decide_eq_false_iff_not, Bool.not_eq_true', Bool.not_true, Bool.not_false, Bool.false_eq_true, Bool.true_eq_false, Bool.not_eq_eq_eq_not, beq_self_eq_true, beqFT, beqTF, decide_true, decide_false, not_false_eq_true, not_true_eq_false, ne_eq, true_and, and_true, false_and, and_false, and_self, if_true, if_false, ite_true, ite_false, Bool.and_true, Bool.and_false, Bool.true_and, Bool.false_and, Bool.or_true, Bool.true_or, Bool.or_false, Bool.false_or, or_true, true_or, or_false, false_or, or_self, AV.asInt, AV.asBool, AV.asSl, AV.asPtr, AV.asFn, AV.asStr, AV.asMap, AV.asIfc, AV.item, List.length_cons, List.length_nil, List.getElem?_cons_zero, List.getElem?_cons_succ, Nat.zero_add, S.t_, S.s_, w1, w2, w3, hta, htb, hsa, hsb, lt, ls, c1, c2, n1, n2, c3, hl]<;> done)
            all_goals
              by_cases c5 : 0 < i
              · cases h1 : lfB sh (a + i) <;> cases h2 : lfB sh (b + i) <;> rw [h1] at r1 <;> rw [h2] at r2 <;>
                simp only [Option.bind_some, decide_eq_true_eq, decide_eq_false_iff_not, Bool.not_eq_true', Bool.not_true, Bool.not_false, Bool.false_eq_true, Bool.true_eq_false, Bool.not_eq_eq_eq_not, beq_self_eq_true, beqFT, beqTF, decide_true, decide_false, not_false_eq_true, not_true_eq_false, ne_eq, true_and, and_true, false_and, and_false, and_self, if_true, if_false, ite_true, ite_false, Bool.and_true, Bool.and_false, Bool.true_and, Bool.false_and, Bool.or_true, Bool.true_or, Bool.or_false, Bool.false_or, or_true, true_or, or_false, false_or, or_self, AV.asInt, AV.asBool, AV.asSl, AV.asPtr, AV.asFn, AV.asStr, AV.asMap, AV.asIfc, AV.item, List.length_cons, List.length_nil, List.getElem?_cons_zero, List.getElem?_cons_succ, Nat.zero_add, S.t_, S.s_, w1, w2, w3, hta, htb, hsa, hsb, lt, ls, c1, c2, n1, n2, c3, c5, r1, r2, hl, or_true, true_or, or_false, or_self]
              · simp only [Option.bind_some, decide_eq_true_eq, decide_eq_false_iff_not, Bool.not_eq_true', Bool.not_true, Bool.not_false, Bool.false_eq_true, Bool.true_eq_false, Bool.not_eq_eq_eq_not, beq_self_eq_true, beqFT, beqTF, decide_true, decide_false, not_false_eq_true, not_true_eq_false, ne_eq, true_and, and_true, false_and, and_false, and_self, if_true, if_false, ite_true, ite_false, Bool.and_true, Bool.and_false, Bool.true_and, Bool.false_and, Bool.or_true, Bool.true_or, Bool.or_false, Bool.false_or, or_true, true_or, or_false, false_or, or_self, AV.asInt, AV.asBool, AV.asSl, AV.asPtr, AV.asFn, AV.asStr, AV.asMap, AV.asIfc, AV.item, List.length_cons, List.length_nil, List.getElem?_cons_zero, List.getElem?_cons_succ, Nat.zero_add, S.t_, S.s_, w1, w2, w3, hta, htb, hsa, hsb, lt, ls, c1, c2, n1, n2, c3, c5, hl]
          · simp only [Option.bind_some, decide_eq_true_eq, decide_eq_false_iff_not, Bool.not_eq_true', Bool.not_true, Bool.not_false, Bool.false_eq_true, Bool.true_eq_false, Bool.not_eq_eq_eq_not, beq_self_eq_true, beqFT, beqTF, decide_true, decide_false, not_false_eq_true, not_true_eq_false, ne_eq, true_and, and_true, false_and, and_false, and_self, if_true, if_false, ite_true, ite_false, Bool.and_true, Bool.and_false, Bool.true_and, Bool.false_and, Bool.or_true, Bool.true_or, Bool.or_false, Bool.false_or, or_true, true_or, or_false, false_or, or_self, AV.asInt, AV.asBool, AV.asSl, AV.asPtr, AV.asFn, AV.asStr, AV.asMap, AV.asIfc, AV.item, List.length_cons, List.length_nil, List.getElem?_cons_zero, List.getElem?_cons_succ, Nat.zero_add, S.t_, S.s_, w1, w2, w3, hta, htb, hsa, hsb, lt, ls, c1, c2, n1, n2, c3, hl]
        by_cases d1 : rd t (a + i) = rd t (b + i) ∧ Sai.S sh (a + i) = Sai.S sh (b + i)
        · by_cases d2 : 0 < i ∧ (lfB sh (a + i) = true ∨ lfB sh (b + i) = true)
          · have : sm t sh a b (m + 1) i = (lfB sh (a + i) && lfB sh (b + i)) := by simp only [sm]; rw [if_pos ⟨c1, c2, d1⟩, if_pos d2]
            rw [this]
            exact EvI.done ⟨k1 + k2, fun k hk => by simp only [main k hk]; rw [if_pos d1, if_pos d2]⟩
          · have : sm t sh a b (m + 1) i = sm t sh a b m (i + 1) := by simp only [sm]; rw [if_pos ⟨c1, c2, d1⟩, if_neg d2]
            rw [this]
            exact EvI.step ⟨k1 + k2, fun k hk => by simp only [main k hk]; rw [if_pos d1, if_neg d2]⟩ i1
        · have : sm t sh a b (m + 1) i = false := by simp only [sm]; rw [if_neg (by rintro ⟨_, _, h⟩; exact d1 h)]
          rw [this]
          exact EvI.done ⟨k1 + k2, fun k hk => by simp only [main k hk]; rw [if_neg d1]⟩
      · have : sm t sh a b (m + 1) i = false := by simp only [sm]; rw [if_neg (by rintro ⟨_, h, _⟩; exact c2 h)]
        rw [this]
        refine EvI.done (Ev.of fun k => ?_)
        rw [eq]
        simp [S.t_, w1, w2, lt, c1, c2]
    · have : sm t sh a b (m + 1) i = false := by simp only [sm]; rw [if_neg (by rintro ⟨h, _⟩; exact c1 h)]
      rw [this]
      refine EvI.done (Ev.of fun k => ?_)
      rw [eq]
      simp [S.t_, w1, w2, lt, c1]
theorem same_spec {σ : Store} {p : Ptr} {ht hs ha : Hdl} {kk : Nat} {t : List Int} {sh : List Bool} {sa : List Int} (S : Sorter σ p ht hs ha kk t sh sa) (hn : t.length < 2 ^ 61) (hl : sh.length = t.length) {a b : Int} (a0 : 0 ≤ a) (a1 : a < t.length) (b0 : 0 ≤ b) (b1 : b < t.length) :
    Runs Try.prog 39 [.ptr p, .int .i64 a, .int .i64 b] σ (.bool (smB t sh a b)) σ := by
  refine Runs.intro (fn := Try.f39) (by kernel_rfl) (by kernel_rfl) ?_
  refine (Ev.bind (loopF_ev (same_loop S hn hl a0 b0 (t.length + 1) 0 (Int.le_refl _) (by omega) (by omega) (by omega))) (Ev.of fun k => f39_X110_1 (gm Try.prog k) k σ _)).congr fun k => ?_
  rw [f39_eq]
end Go.Ab

/- sort: its loops. -/
namespace Go.Ab
open Go Go.Proofs Go.Ab.Wd Go.Ab.Bs Go.Ab.Sai
set_option linter.unusedVariables false
set_option linter.unusedSimpArgs false
theorem Store.Row.ld_ints {σ : Store} {b : Nat} {l : List Int} (r : σ.Row b 1 (intsL l)) {i : Int} (h0 : 0 ≤ i) (h1 : i < l.length) {len : Nat} {cp : Option Nat} : σ.ldInt .i64 (Hdl.idx ⟨some (b, 0), len, cp⟩ i 1) = some (rd l i) := by
  have : σ.Ints ⟨some (b, 0), l.length, cp⟩ l := r.sl (by simp)
  have := this.rd h0 h1
  simpa [Hdl.idx] using this
theorem Store.Row.ld_bools {σ : Store} {b : Nat} {l : List Bool} (r : σ.Row b 1 (boolsL l)) {i : Int} (h0 : 0 ≤ i) (h1 : i < l.length) {len : Nat} {cp : Option Nat} : σ.ldBool (Hdl.idx ⟨some (b, 0), len, cp⟩ i 1) = some (rdOf false l i) := by
  have : σ.Bools ⟨some (b, 0), l.length, cp⟩ l := r.sl (by simp)
  have := this.rd h0 h1
  simpa [Hdl.idx] using this
abbrev hdS (N n : Nat) : Hdl := ⟨some (N, 0), n, some n⟩
/-- The sorter's own rows, from N on. -/
structure SS (σ0 σ : Store) (h : Hdl) (kk : Nat) (t : List Int) (sh : List Bool) (sa : List Int) : Prop where
  kp : Kp σ0.objs.length σ0 σ
  ht : σ0.Ints h t
  rs : σ.Row σ0.objs.length 1 (boolsL sh)
  rg : σ.Row (σ0.objs.length + 2) 4 [.slice h, .int .i64 kk, .slice (hdS σ0.objs.length t.length), .slice (hdS (σ0.objs.length + 1) t.length)]
  a : σ.Ints (hdS (σ0.objs.length + 1) t.length) sa
  wa : σ.Wr (hdS (σ0.objs.length + 1) t.length)
  ls : sh.length = t.length
  la : sa.length = t.length
  pr : σ0.prot ≤ σ0.objs.length
  hh : ∀ b, h.row = some b → b < σ0.objs.length
section
variable {σ0 σ σ' : Store} {h : Hdl} {kk : Nat} {t : List Int} {sh : List Bool} {sa : List Int}
theorem SS.len (S : SS σ0 σ h kk t sh sa) : σ0.objs.length + 3 ≤ σ.objs.length := by have := S.rg.lt; omega
theorem SS.prot (S : SS σ0 σ h kk t sh sa) : σ.prot ≤ σ0.objs.length := by rw [S.kp.prot]; exact S.pr
theorem SS.sorter (S : SS σ0 σ h kk t sh sa) : Sorter σ (some (σ0.objs.length + 2, 0)) h (hdS σ0.objs.length t.length) (hdS (σ0.objs.length + 1) t.length) kk t sh sa := by
  have c := S.rg.cell
  refine ⟨⟨_, rfl⟩, ?_, ?_, ?_, ?_, Store.Sl.kp S.ht S.kp, S.rs.sl (by simp [S.ls]), S.a⟩
  · simp [Store.ldSl, Ptr.add, c]
  · simp [Store.ldInt, Ptr.add, c]
  · simp [Store.ldSl, Ptr.add, c]
  · simp [Store.ldSl, Ptr.add, c]
theorem SS.keep (S : SS σ0 σ h kk t sh sa) {n : Nat} (hn : σ0.objs.length + 3 ≤ n) (k : Kp n σ σ') : SS σ0 σ' h kk t sh sa := by
  refine ⟨S.kp.then k (by omega), S.ht, S.rs.kp k (by omega), S.rg.kp k (by omega), S.a.keep fun b o e => k.keep b ?_, ?_, S.ls, S.la, S.pr, S.hh⟩
  · simp [hdS] at e; omega
  · obtain ⟨b, o, cs, h1, h2, h3⟩ := S.wa
    have : b < n := by simp [hdS] at h1; omega
    exact ⟨b, o, cs, h1, (k.keep b this).trans h2, by rw [k.prot]; exact h3⟩
/-- The short places. -/
theorem short_loop (hn : t.length < 2 ^ 61) (m : Nat) : ∀ (σ : Store), m < t.length → SS σ0 σ h kk t (shU t m) sa → 
    ∃ σ', EvI (fun k s => stepF Try.prog (gm Try.prog k) drawn k Try.f33 [1, 1, 1, 1, 0, 1, 0] [7, 6, 5, 0] s) ([.int .i64 (m - 1), .ptr (some (σ0.objs.length + 2, 0)), .int .i64 t.length, .slice h], σ)
        (AX.exit 0, [(6, .ptr (some (σ0.objs.length + 2, 0))), (5, .int .i64 t.length), (0, .slice h)], σ') ∧ SS σ0 σ' h kk t (shF t) sa ∧ σ'.objs.length = σ.objs.length := by
  induction m with
  | zero =>
    intro σ hm S
    rw [shU_zero] at S
    exact ⟨σ, EvI.done (Ev.of fun k => by rw [f33_L1111010]; simp), S, rfl⟩
  | succ m ih =>
    intro σ hm S
    have So := S.sorter
    have es := So.s_
    have ht := So.t
    have lt := ht.ilen
    have ls := S.ls
    have i0 : (0 : Int) ≤ m := by omega
    have r1 := ht.rd i0 (by omega)
    have r2 := ht.rd (show (0 : Int) ≤ m + 1 by omega) (by omega)
    have r3 := So.s.rd (show (0 : Int) ≤ m + 1 by omega) (by omega)
    have st := fun x => st_bools (x := x) (len := t.length) (cp := some t.length) S.rs S.prot i0 (by omega)
    have w1 : IntKind.wrap .i64 ((m : Int) + 1) = m + 1 := wrap64 (by omega) (by omega)
    have w2 : IntKind.wrap .i64 ((m : Int) - 1) = m - 1 := wrap64 (by omega) (by omega)
    have S' : ∀ x, SS σ0 (σ.setO σ0.objs.length (.cells (boolsL ((shU t (m + 1)).set m x)) true 1)) h kk t ((shU t (m + 1)).set m x) sa := by
      intro x
      have hl := S.rs.lt
      refine ⟨S.kp.setO (Nat.le_refl _), S.ht, Store.Row.setO_eq hl, S.rg.setO_ne (by omega), S.a.keep fun b o e => ?_, ?_, by simpa using S.ls, S.la, S.pr, S.hh⟩
      · simp [hdS] at e
        show (σ.objs.set _ _)[b]? = _; rw [List.getElem?_set, if_neg (by omega)]
      · exact S.wa.off (setO_off σ _ _ hl) (by simp [Hdl.row, hdS])
    obtain ⟨σ', g1, g2, g3⟩ := ih _ (by omega) (by have := S' (decide (rd t m < rd t (m + 1)) || (decide (rd t m = rd t (m + 1)) && Sai.S (shU t (m + 1)) (m + 1))); rwa [shU_step (by omega)] at this)
    refine ⟨σ', EvI.step (Ev.of fun k => ?_) g1, g2, by simpa using g3⟩
    have c1 : (m : Int) < t.length := by omega
    have c2 : (m : Int) + 1 < t.length := by omega
    have c3 : (0 : Int) ≤ m + 1 := by omega
    rw [← shU_step (by omega)]
    have e1 : ((m + 1 : Nat) : Int) - 1 = m := by omega
    have eS : Sai.S (shU t (m + 1)) (m + 1) = rdOf false (shU t (m + 1)) (m + 1) := rfl
    have es' : σ.ldSl (Ptr.add (some (σ0.objs.length + 2, 0)) 2) = some (hdS σ0.objs.length t.length) := es
    rw [f33_L1111010, e1, eS]
    by_cases d1 : rd t m < rd t (m + 1)
    · simp only [Option.bind_some, decide_eq_true_eq, decide_eq_false_iff_not, Bool.not_eq_true', Bool.not_true, Bool.not_false, Bool.false_eq_true, Bool.true_eq_false, Bool.not_eq_eq_eq_not, beq_self_eq_true, beqFT, beqTF, decide_true, decide_false, not_false_eq_true, not_true_eq_false, ne_eq, true_and, and_true, false_and, and_false, and_self, if_true, if_false, ite_true, ite_false, Bool.and_true, Bool.and_false, Bool.true_and, Bool.false_and, Bool.or_true, Bool.true_or, Bool.or_false, Bool.false_or, or_true, true_or, or_false, false_or, or_self, AV.asInt, AV.asBool, AV.asSl, AV.asPtr, AV.asFn, AV.asStr, AV.asMap, AV.asIfc, AV.item, List.length_cons, List.length_nil, List.getElem?_cons_zero, List.getElem?_cons_succ, Nat.zero_add, es', r1, r2, r3, st, w1, w2, lt, c1, c2, c3, i0, d1, Int.toNat_natCast]
    · by_cases d2 : rd t m = rd t (m + 1)
      · simp only [Option.bind_some, decide_eq_true_eq, decide_eq_false_iff_not, Bool.not_eq_true', Bool.not_true, Bool.not_false, Bool.false_eq_true, Bool.true_eq_false, Bool.not_eq_eq_eq_not, beq_self_eq_true, beqFT, beqTF, decide_true, decide_false, not_false_eq_true, not_true_eq_false, ne_eq, true_and, and_true, false_and, and_false, and_self, if_true, if_false, ite_true, ite_false, Bool.and_true, Bool.and_false, Bool.true_and, Bool.false_and, Bool.or_true, Bool.true_or, Bool.or_false, Bool.false_or, or_true, true_or, or_false, false_or, or_self, AV.asInt, AV.asBool, AV.asSl, AV.asPtr, AV.asFn, AV.asStr, AV.asMap, AV.asIfc, AV.item, List.length_cons, List.length_nil, List.getElem?_cons_zero, List.getElem?_cons_succ, Nat.zero_add, es', r1, r2, r3, st, w1, w2, lt, c1, c2, c3, i0, d2, Int.lt_irrefl, Int.toNat_natCast]
      · simp only [Option.bind_some, decide_eq_true_eq, decide_eq_false_iff_not, Bool.not_eq_true', Bool.not_true, Bool.not_false, Bool.false_eq_true, Bool.true_eq_false, Bool.not_eq_eq_eq_not, beq_self_eq_true, beqFT, beqTF, decide_true, decide_false, not_false_eq_true, not_true_eq_false, ne_eq, true_and, and_true, false_and, and_false, and_self, if_true, if_false, ite_true, ite_false, Bool.and_true, Bool.and_false, Bool.true_and, Bool.false_and, Bool.or_true, Bool.true_or, Bool.or_false, Bool.false_or, or_true, true_or, or_false, false_or, or_self, AV.asInt, AV.asBool, AV.asSl, AV.asPtr, AV.asFn, AV.asStr, AV.asMap, AV.asIfc, AV.item, List.length_cons, List.length_nil, List.getElem?_cons_zero, List.getElem?_cons_succ, Nat.zero_add, es', r1, r2, r3, st, w1, w2, lt, c1, c2, c3, i0, d1, d2, Int.toNat_natCast]
/-- The left places. -/
theorem left_loop (hn : t.length < 2 ^ 41) (S : SS σ0 σ h kk t sh sa) : ∃ hl σ', EvI (fun k s => stepF Try.prog (gm Try.prog k) drawn k Try.f33 [1, 1, 1, 1, 1, 1, 0, 1, 0] [83, 82, 8, 6, 5] s)
      ([.int .i64 0, .int .i64 t.length, .slice Hdl.nil, .ptr (some (σ0.objs.length + 2, 0)), .int .i64 t.length], σ) (AX.exit 2, [(8, .slice hl), (6, .ptr (some (σ0.objs.length + 2, 0))), (5, .int .i64 t.length)], σ') ∧
      SS σ0 σ' h kk t sh sa ∧ GrowI σ' σ.objs.length hl (lefU sh t.length) ∧ Kp σ.objs.length σ σ' := by
  have key := EvI.up (f := fun k s => stepF Try.prog (gm Try.prog k) drawn k Try.f33 [1, 1, 1, 1, 1, 1, 0, 1, 0] [83, 82, 8, 6, 5] s) t.length
    (fun i s => ∃ hl σ1, s = ([.int .i64 i, .int .i64 t.length, .slice hl, .ptr (some (σ0.objs.length + 2, 0)), .int .i64 t.length], σ1) ∧ SS σ0 σ1 h kk t sh sa ∧ GrowI σ1 σ.objs.length hl (lefU sh i) ∧ Kp σ.objs.length σ σ1)
    (fun r => ∃ hl σ', r = (AX.exit 2, [(8, .slice hl), (6, .ptr (some (σ0.objs.length + 2, 0))), (5, .int .i64 t.length)], σ') ∧ SS σ0 σ' h kk t sh sa ∧ GrowI σ' σ.objs.length hl (lefU sh t.length) ∧ Kp σ.objs.length σ σ')
    (by
      rintro i s hi ⟨hl, σ1, rfl, S1, g, k1⟩
      have hlen := S1.len
      have hpr := S1.prot
      have i1 : (i : Int) < t.length := by omega
      have w1 : IntKind.wrap .i64 ((i : Int) + 1) = (i + 1 : Nat) := wrap64 (by omega) (by omega)
      obtain ⟨k0, r0⟩ := left_spec S1.sorter (show (0 : Int) ≤ i by omega) (by have := S1.ls; omega) (by have := S1.ls; omega)
      have hA : lft sh i = lfB sh i := rfl
      rw [hA] at r0
      cases hb : lfB sh i with
      | false =>
        rw [hb] at r0
        refine ⟨_, ⟨k0, fun k hk => ?_⟩, hl, σ1, rfl, S1, by rw [lefU_no hb]; exact g, k1⟩
        have r0 := r0 k hk
        simp only at r0
        simp only [f33_L111111010]
        simp only [Option.bind_some, decide_eq_true_eq, decide_eq_false_iff_not, Bool.not_eq_true', Bool.not_true, Bool.not_false, Bool.false_eq_true, Bool.true_eq_false, Bool.not_eq_eq_eq_not, beq_self_eq_true, beqFT, beqTF, decide_true, decide_false, not_false_eq_true, not_true_eq_false, ne_eq, true_and, and_true, false_and, and_false, and_self, if_true, if_false, ite_true, ite_false, Bool.and_true, Bool.and_false, Bool.true_and, Bool.false_and, Bool.or_true, Bool.true_or, Bool.or_false, Bool.false_or, or_true, true_or, or_false, false_or, or_self, AV.asInt, AV.asBool, AV.asSl, AV.asPtr, AV.asFn, AV.asStr, AV.asMap, AV.asIfc, AV.item, List.length_cons, List.length_nil, List.getElem?_cons_zero, List.getElem?_cons_succ, Nat.zero_add, i1, r0, w1]
      | true =>
        rw [hb] at r0
        have := lefU_length sh i
        obtain ⟨hl', σ2, e2, k2, g2⟩ := g.app (by have := k1.prot; have := S.prot; have := S.len; omega) k1.len (i : Int) (by omega)
        refine ⟨_, ⟨k0, fun k hk => ?_⟩, hl', σ2, rfl, S1.keep (by have := S.len; omega) k2, by rw [lefU_yes hb]; exact g2, k1.trans k2⟩
        have r0 := r0 k hk
        simp only at r0
        simp only [f33_L111111010]
        simp only [Option.bind_some, decide_eq_true_eq, decide_eq_false_iff_not, Bool.not_eq_true', Bool.not_true, Bool.not_false, Bool.false_eq_true, Bool.true_eq_false, Bool.not_eq_eq_eq_not, beq_self_eq_true, beqFT, beqTF, decide_true, decide_false, not_false_eq_true, not_true_eq_false, ne_eq, true_and, and_true, false_and, and_false, and_self, if_true, if_false, ite_true, ite_false, Bool.and_true, Bool.and_false, Bool.true_and, Bool.false_and, Bool.or_true, Bool.true_or, Bool.or_false, Bool.false_or, or_true, true_or, or_false, false_or, or_self, AV.asInt, AV.asBool, AV.asSl, AV.asPtr, AV.asFn, AV.asStr, AV.asMap, AV.asIfc, AV.item, List.length_cons, List.length_nil, List.getElem?_cons_zero, List.getElem?_cons_succ, Nat.zero_add, i1, r0, w1, read1, e2])
    (by
      rintro s ⟨hl, σ1, rfl, S1, g, k1⟩
      exact ⟨_, Ev.of fun k => by simp only [f33_L111111010]; simp only [Option.bind_some, decide_eq_true_eq, decide_eq_false_iff_not, Bool.not_eq_true', Bool.not_true, Bool.not_false, Bool.false_eq_true, Bool.true_eq_false, Bool.not_eq_eq_eq_not, beq_self_eq_true, beqFT, beqTF, decide_true, decide_false, not_false_eq_true, not_true_eq_false, ne_eq, true_and, and_true, false_and, and_false, and_self, if_true, if_false, ite_true, ite_false, Bool.and_true, Bool.and_false, Bool.true_and, Bool.false_and, Bool.or_true, Bool.true_or, Bool.or_false, Bool.false_or, or_true, true_or, or_false, false_or, or_self, AV.asInt, AV.asBool, AV.asSl, AV.asPtr, AV.asFn, AV.asStr, AV.asMap, AV.asIfc, AV.item, List.length_cons, List.length_nil, List.getElem?_cons_zero, List.getElem?_cons_succ, Nat.zero_add, Int.lt_irrefl], hl, σ1, rfl, S1, g, k1⟩)
    (s := ([.int .i64 0, .int .i64 t.length, .slice Hdl.nil, .ptr (some (σ0.objs.length + 2, 0)), .int .i64 t.length], σ)) ⟨Hdl.nil, σ, rfl, S, Grow.nil _ _ _, Kp.refl _ _⟩
  obtain ⟨r, e, hl, σ', rfl, h1, h2, h3⟩ := key
  exact ⟨hl, σ', e, h1, h2, h3⟩
end
end Go.Ab

/- sort: the later loops. -/
namespace Go.Ab
open Go Go.Proofs Go.Ab.Wd Go.Ab.Bs Go.Ab.Sai
set_option linter.unusedVariables false
set_option linter.unusedSimpArgs false
theorem drop_rd {l : List Int} {i : Nat} (h : i < l.length) : l.drop i = rd l i :: l.drop (i + 1) := by rw [List.drop_eq_getElem_cons h, rd_getElem h]
theorem take_rd {l : List Int} {i : Nat} (h : i < l.length) : l.take (i + 1) = l.take i ++ [rd l i] := by rw [List.take_add_one, rd_getElem h]; simp [h]
section
variable {σ0 σ σ' : Store} {h : Hdl} {kk : Nat} {t : List Int} {sh : List Bool} {sa : List Int}
/-- The names. -/
theorem name_loop (hn : t.length < 2 ^ 41) (S : SS σ0 σ h kk t sh sa) (hsa : ∀ x ∈ sa, 0 ≤ x ∧ x < t.length) {hl : Hdl} {nmF : List Int} {topF : Int} (hF : name (lfB sh) (smB t sh) sa (List.replicate t.length 0) (-1) (-1) = (nmF, topF)) :
    ∃ σ', EvI (fun k s => stepF Try.prog (gm Try.prog k) drawn k Try.f33 [1, 1, 1, 1, 1, 1, 1, 1, 1, 1, 0, 1, 0] [104, 103, 102, 12, 11, 10, 8, 6] s)
      ([.int .i64 0, .int .i64 t.length, .slice (hdS (σ0.objs.length + 1) t.length), .int .i64 (-1), .int .i64 (-1), .slice (hdS σ.objs.length t.length), .slice hl, .ptr (some (σ0.objs.length + 2, 0))], σ.push (intsL (List.replicate t.length 0)) 1)
      (AX.exit 4, [(11, .int .i64 topF), (10, .slice (hdS σ.objs.length t.length)), (8, .slice hl), (6, .ptr (some (σ0.objs.length + 2, 0)))], σ') ∧
      Kp σ.objs.length σ σ' ∧ σ'.Row σ.objs.length 1 (intsL nmF) := by
  have key := EvI.up (f := fun k s => stepF Try.prog (gm Try.prog k) drawn k Try.f33 [1, 1, 1, 1, 1, 1, 1, 1, 1, 1, 0, 1, 0] [104, 103, 102, 12, 11, 10, 8, 6] s) t.length
    (fun i s => ∃ last top nm σ1, s = ([.int .i64 i, .int .i64 t.length, .slice (hdS (σ0.objs.length + 1) t.length), .int .i64 last, .int .i64 top, .slice (hdS σ.objs.length t.length), .slice hl, .ptr (some (σ0.objs.length + 2, 0))], σ1) ∧
      Kp σ.objs.length σ σ1 ∧ σ1.Row σ.objs.length 1 (intsL nm) ∧ nm.length = t.length ∧ name (lfB sh) (smB t sh) (sa.drop i) nm top last = (nmF, topF) ∧ -1 ≤ top ∧ top < i ∧ -1 ≤ last ∧ last < t.length)
    (fun r => ∃ σ', r = (AX.exit 4, [(11, .int .i64 topF), (10, .slice (hdS σ.objs.length t.length)), (8, .slice hl), (6, .ptr (some (σ0.objs.length + 2, 0)))], σ') ∧ Kp σ.objs.length σ σ' ∧ σ'.Row σ.objs.length 1 (intsL nmF))
    (by
      rintro i s hi ⟨last, top, nm, σ1, rfl, k1, rn, ln, hN, t0, t1, l0, l1⟩
      have hlen := S.len
      have S1 := S.keep hlen k1
      have hpr := S1.prot
      have la := S.la
      have i0 : (0 : Int) ≤ i := by omega
      have i1 : (i : Int) < t.length := by omega
      have w1 : IntKind.wrap .i64 ((i : Int) + 1) = (i + 1 : Nat) := wrap64 (by omega) (by omega)
      have w2 : IntKind.wrap .i64 (top + 1) = top + 1 := wrap64 (by omega) (by omega)
      have ra := S1.sorter.a.rd i0 (by omega)
      obtain ⟨x, hx⟩ : ∃ x, rd sa i = x := ⟨_, rfl⟩
      obtain ⟨x0, x1⟩ := hsa _ (rd_mem i0 (show (i : Int) < sa.length by omega))
      rw [drop_rd (by omega), hx] at hN
      rw [hx] at ra x0 x1
      have st := fun y => st_ints (x := y) (len := t.length) (cp := some t.length) rn (by omega) x0 (by omega)
      have next : ∀ y, Kp σ.objs.length σ (σ1.setO σ.objs.length (.cells (intsL (nm.set x.toNat y)) true 1)) ∧ (σ1.setO σ.objs.length (.cells (intsL (nm.set x.toNat y)) true 1)).Row σ.objs.length 1 (intsL (nm.set x.toNat y)) ∧ (nm.set x.toNat y).length = t.length :=
        fun y => ⟨k1.setO (Nat.le_refl _), Store.Row.setO_eq rn.lt, by simpa using ln⟩
      obtain ⟨k0, r0⟩ := left_spec S1.sorter x0 (by have := S1.ls; omega) (by have := S1.ls; omega)
      have hA : lft sh x = lfB sh x := rfl
      rw [hA] at r0
      simp only [name] at hN
      cases hb : lfB sh x with
      | false =>
        rw [hb, if_neg (by simp)] at hN
        rw [hb] at r0
        refine ⟨_, ⟨k0, fun k hk => ?_⟩, last, top, nm, σ1, rfl, k1, rn, ln, hN, t0, by omega, l0, l1⟩
        have r0 := r0 k hk
        simp only at r0
        simp only [f33_L1111111111010]
        simp only [Option.bind_some, decide_eq_true_eq, decide_eq_false_iff_not, Bool.not_eq_true', Bool.not_true, Bool.not_false, Bool.false_eq_true, Bool.true_eq_false, Bool.not_eq_eq_eq_not, beq_self_eq_true, beqFT, beqTF, decide_true, decide_false, not_false_eq_true, not_true_eq_false, ne_eq, true_and, and_true, false_and, and_false, and_self, if_true, if_false, ite_true, ite_false, Bool.and_true, Bool.and_false, Bool.true_and, Bool.false_and, Bool.or_true, Bool.true_or, Bool.or_false, Bool.false_or, or_true, true_or, or_false, false_or, or_self, AV.asInt, AV.asBool, AV.asSl, AV.asPtr, AV.asFn, AV.asStr, AV.asMap, AV.asIfc, AV.item, List.length_cons, List.length_nil, List.getElem?_cons_zero, List.getElem?_cons_succ, Nat.zero_add, i0, i1, ra, r0, w1]
      | true =>
        rw [hb, if_pos rfl] at hN
        rw [hb] at r0
        by_cases c1 : last < 0
        · rw [if_pos (.inl c1)] at hN
          obtain ⟨n1, n2, n3⟩ := next (top + 1)
          refine ⟨_, ⟨k0, fun k hk => ?_⟩, x, top + 1, _, _, rfl, n1, n2, n3, hN, by omega, by omega, by omega, x1⟩
          have r0 := r0 k hk
          simp only at r0
          simp only [f33_L1111111111010]
          simp only [Option.bind_some, decide_eq_true_eq, decide_eq_false_iff_not, Bool.not_eq_true', Bool.not_true, Bool.not_false, Bool.false_eq_true, Bool.true_eq_false, Bool.not_eq_eq_eq_not, beq_self_eq_true, beqFT, beqTF, decide_true, decide_false, not_false_eq_true, not_true_eq_false, ne_eq, true_and, and_true, false_and, and_false, and_self, if_true, if_false, ite_true, ite_false, Bool.and_true, Bool.and_false, Bool.true_and, Bool.false_and, Bool.or_true, Bool.true_or, Bool.or_false, Bool.false_or, or_true, true_or, or_false, false_or, or_self, AV.asInt, AV.asBool, AV.asSl, AV.asPtr, AV.asFn, AV.asStr, AV.asMap, AV.asIfc, AV.item, List.length_cons, List.length_nil, List.getElem?_cons_zero, List.getElem?_cons_succ, Nat.zero_add, i0, i1, ra, r0, w1, w2, c1, x0, x1, st]
        · obtain ⟨k2, r2⟩ := same_spec S1.sorter (by omega) S.ls (show 0 ≤ last by omega) l1 x0 x1
          cases hs : smB t sh last x with
          | false =>
            rw [if_pos (.inr hs)] at hN
            rw [hs] at r2
            obtain ⟨n1, n2, n3⟩ := next (top + 1)
            refine ⟨_, ⟨k0 + k2, fun k hk => ?_⟩, x, top + 1, _, _, rfl, n1, n2, n3, hN, by omega, by omega, by omega, x1⟩
            have r0 := r0 k (by omega)
            have r2 := r2 k (by omega)
            simp only at r0 r2
            simp only [f33_L1111111111010]
            simp only [Option.bind_some, decide_eq_true_eq, decide_eq_false_iff_not, Bool.not_eq_true', Bool.not_true, Bool.not_false, Bool.false_eq_true, Bool.true_eq_false, Bool.not_eq_eq_eq_not, beq_self_eq_true, beqFT, beqTF, decide_true, decide_false, not_false_eq_true, not_true_eq_false, ne_eq, true_and, and_true, false_and, and_false, and_self, if_true, if_false, ite_true, ite_false, Bool.and_true, Bool.and_false, Bool.true_and, Bool.false_and, Bool.or_true, Bool.true_or, Bool.or_false, Bool.false_or, or_true, true_or, or_false, false_or, or_self, AV.asInt, AV.asBool, AV.asSl, AV.asPtr, AV.asFn, AV.asStr, AV.asMap, AV.asIfc, AV.item, List.length_cons, List.length_nil, List.getElem?_cons_zero, List.getElem?_cons_succ, Nat.zero_add, i0, i1, ra, r0, r2, w1, w2, c1, x0, x1, st]
          | true =>
            rw [if_neg (by rintro (h | h); exact c1 h; rw [hs] at h; cases h)] at hN
            rw [hs] at r2
            obtain ⟨n1, n2, n3⟩ := next top
            refine ⟨_, ⟨k0 + k2, fun k hk => ?_⟩, x, top, _, _, rfl, n1, n2, n3, hN, by omega, by omega, by omega, x1⟩
            have r0 := r0 k (by omega)
            have r2 := r2 k (by omega)
            simp only at r0 r2
            simp only [f33_L1111111111010]
            simp only [Option.bind_some, decide_eq_true_eq, decide_eq_false_iff_not, Bool.not_eq_true', Bool.not_true, Bool.not_false, Bool.false_eq_true, Bool.true_eq_false, Bool.not_eq_eq_eq_not, beq_self_eq_true, beqFT, beqTF, decide_true, decide_false, not_false_eq_true, not_true_eq_false, ne_eq, true_and, and_true, false_and, and_false, and_self, if_true, if_false, ite_true, ite_false, Bool.and_true, Bool.and_false, Bool.true_and, Bool.false_and, Bool.or_true, Bool.true_or, Bool.or_false, Bool.false_or, or_true, true_or, or_false, false_or, or_self, AV.asInt, AV.asBool, AV.asSl, AV.asPtr, AV.asFn, AV.asStr, AV.asMap, AV.asIfc, AV.item, List.length_cons, List.length_nil, List.getElem?_cons_zero, List.getElem?_cons_succ, Nat.zero_add, i0, i1, ra, r0, r2, w1, w2, c1, x0, x1, st])
    (by
      rintro s ⟨last, top, nm, σ1, rfl, k1, rn, ln, hN, t0, t1, l0, l1⟩
      have la := S.la
      rw [List.drop_eq_nil_of_le (by omega), name] at hN
      injection hN with e1 e2
      subst e1 e2
      exact ⟨_, Ev.of fun k => by simp only [f33_L1111111111010]; simp only [Option.bind_some, decide_eq_true_eq, decide_eq_false_iff_not, Bool.not_eq_true', Bool.not_true, Bool.not_false, Bool.false_eq_true, Bool.true_eq_false, Bool.not_eq_eq_eq_not, beq_self_eq_true, beqFT, beqTF, decide_true, decide_false, not_false_eq_true, not_true_eq_false, ne_eq, true_and, and_true, false_and, and_false, and_self, if_true, if_false, ite_true, ite_false, Bool.and_true, Bool.and_false, Bool.true_and, Bool.false_and, Bool.or_true, Bool.true_or, Bool.or_false, Bool.false_or, or_true, true_or, or_false, false_or, or_self, AV.asInt, AV.asBool, AV.asSl, AV.asPtr, AV.asFn, AV.asStr, AV.asMap, AV.asIfc, AV.item, List.length_cons, List.length_nil, List.getElem?_cons_zero, List.getElem?_cons_succ, Nat.zero_add, Int.lt_irrefl], σ1, rfl, k1, rn⟩)
    (s := ([.int .i64 0, .int .i64 t.length, .slice (hdS (σ0.objs.length + 1) t.length), .int .i64 (-1), .int .i64 (-1), .slice (hdS σ.objs.length t.length), .slice hl, .ptr (some (σ0.objs.length + 2, 0))], σ.push (intsL (List.replicate t.length 0)) 1))
    ⟨-1, -1, _, _, rfl, Kp.push _ _ (Nat.le_refl _), Store.Row.new, by simp, by rw [List.drop_zero]; exact hF, by omega, by omega, by omega, by omega⟩
  obtain ⟨r, e, σ', rfl, h1, h2⟩ := key
  exact ⟨σ', e, h1, h2⟩
/-- Numbers taken out of one row by another's. -/
theorem less_loop {hl hm : Hdl} {lf nm : List Int} {top : Int} {q : Ptr} (hL : σ.Ints hl lf) (hM : σ.Ints hm nm) (hp : σ.prot ≤ σ.objs.length) (hn : lf.length < 2 ^ 41) (hr : ∀ x ∈ lf, 0 ≤ x ∧ x < nm.length) :
    ∃ h' σ', EvI (fun k s => stepF Try.prog (gm Try.prog k) drawn k Try.f33 [1, 1, 1, 1, 1, 1, 1, 1, 1, 1, 1, 1, 0, 1, 0] [131, 130, 129, 15, 11, 10, 8, 6] s)
      ([.int .i64 0, .int .i64 lf.length, .slice hl, .slice Hdl.nil, .int .i64 top, .slice hm, .slice hl, .ptr q], σ) (AX.exit 6, [(15, .slice h'), (11, .int .i64 top), (8, .slice hl), (6, .ptr q)], σ') ∧ Kp σ.objs.length σ σ' ∧ GrowI σ' σ.objs.length h' (lf.map (rd nm)) := by
  have key := EvI.up (f := fun k s => stepF Try.prog (gm Try.prog k) drawn k Try.f33 [1, 1, 1, 1, 1, 1, 1, 1, 1, 1, 1, 1, 0, 1, 0] [131, 130, 129, 15, 11, 10, 8, 6] s) lf.length
    (fun i s => ∃ h' σ1, s = ([.int .i64 i, .int .i64 lf.length, .slice hl, .slice h', .int .i64 top, .slice hm, .slice hl, .ptr q], σ1) ∧ Kp σ.objs.length σ σ1 ∧ GrowI σ1 σ.objs.length h' ((lf.take i).map (rd nm)))
    (fun r => ∃ h' σ', r = (AX.exit 6, [(15, .slice h'), (11, .int .i64 top), (8, .slice hl), (6, .ptr q)], σ') ∧ Kp σ.objs.length σ σ' ∧ GrowI σ' σ.objs.length h' (lf.map (rd nm)))
    (by
      rintro i s hi ⟨h', σ1, rfl, k1, g⟩
      have i0 : (0 : Int) ≤ i := by omega
      have i1 : (i : Int) < lf.length := by omega
      have w1 : IntKind.wrap .i64 ((i : Int) + 1) = (i + 1 : Nat) := wrap64 (by omega) (by omega)
      have ll := hL.ilen
      have lm := hM.ilen
      have r1 := Store.Ints.rd (Store.Sl.kp hL k1) i0 i1
      obtain ⟨x0, x1⟩ := hr _ (rd_mem i0 i1)
      have r2 := Store.Ints.rd (Store.Sl.kp hM k1) x0 x1
      obtain ⟨h2, σ2, e2, k2, g2⟩ := g.app (by have := k1.prot; omega) k1.len (rd nm (rd lf i)) (by simp; omega)
      refine ⟨_, Ev.of fun k => ?_, h2, σ2, rfl, k1.trans k2, by rw [take_rd (by omega), List.map_append]; exact g2⟩
      simp only [f33_L111111111111010]
      simp only [Option.bind_some, decide_eq_true_eq, decide_eq_false_iff_not, Bool.not_eq_true', Bool.not_true, Bool.not_false, Bool.false_eq_true, Bool.true_eq_false, Bool.not_eq_eq_eq_not, beq_self_eq_true, beqFT, beqTF, decide_true, decide_false, not_false_eq_true, not_true_eq_false, ne_eq, true_and, and_true, false_and, and_false, and_self, if_true, if_false, ite_true, ite_false, Bool.and_true, Bool.and_false, Bool.true_and, Bool.false_and, Bool.or_true, Bool.true_or, Bool.or_false, Bool.false_or, or_true, true_or, or_false, false_or, or_self, AV.asInt, AV.asBool, AV.asSl, AV.asPtr, AV.asFn, AV.asStr, AV.asMap, AV.asIfc, AV.item, List.length_cons, List.length_nil, List.getElem?_cons_zero, List.getElem?_cons_succ, Nat.zero_add, i0, i1, ll, lm, r1, r2, x0, x1, w1, read1, e2])
    (by
      rintro s ⟨h', σ1, rfl, k1, g⟩
      rw [List.take_length] at g
      exact ⟨_, Ev.of fun k => by simp only [f33_L111111111111010]; simp only [Option.bind_some, decide_eq_true_eq, decide_eq_false_iff_not, Bool.not_eq_true', Bool.not_true, Bool.not_false, Bool.false_eq_true, Bool.true_eq_false, Bool.not_eq_eq_eq_not, beq_self_eq_true, beqFT, beqTF, decide_true, decide_false, not_false_eq_true, not_true_eq_false, ne_eq, true_and, and_true, false_and, and_false, and_self, if_true, if_false, ite_true, ite_false, Bool.and_true, Bool.and_false, Bool.true_and, Bool.false_and, Bool.or_true, Bool.true_or, Bool.or_false, Bool.false_or, or_true, true_or, or_false, false_or, or_self, AV.asInt, AV.asBool, AV.asSl, AV.asPtr, AV.asFn, AV.asStr, AV.asMap, AV.asIfc, AV.item, List.length_cons, List.length_nil, List.getElem?_cons_zero, List.getElem?_cons_succ, Nat.zero_add, Int.lt_irrefl], h', σ1, rfl, k1, g⟩)
    (s := ([.int .i64 0, .int .i64 lf.length, .slice hl, .slice Hdl.nil, .int .i64 top, .slice hm, .slice hl, .ptr q], σ)) ⟨_, _, rfl, Kp.refl _ _, Grow.nil _ _ _⟩
  obtain ⟨r, e, h', σ', rfl, h1, h2⟩ := key
  exact ⟨h', σ', e, h1, h2⟩
theorem some_loop {hl hm : Hdl} {lf nm : List Int} {q : Ptr} (hL : σ.Ints hl lf) (hM : σ.Ints hm nm) (hp : σ.prot ≤ σ.objs.length) (hn : lf.length < 2 ^ 41) (hr : ∀ x ∈ lf, 0 ≤ x ∧ x < nm.length) :
    ∃ h' σ', EvI (fun k s => stepF Try.prog (gm Try.prog k) drawn k Try.f33 [1, 1, 1, 1, 1, 1, 1, 1, 1, 1, 1, 1, 1, 1, 0, 1, 0] [148, 147, 146, 18, 8, 6] s)
      ([.int .i64 0, .int .i64 lf.length, .slice hl, .slice Hdl.nil, .slice hm, .ptr q], σ) (AX.exit 8, [(18, .slice h'), (6, .ptr q)], σ') ∧ Kp σ.objs.length σ σ' ∧ GrowI σ' σ.objs.length h' (lf.map (rd nm)) := by
  have key := EvI.up (f := fun k s => stepF Try.prog (gm Try.prog k) drawn k Try.f33 [1, 1, 1, 1, 1, 1, 1, 1, 1, 1, 1, 1, 1, 1, 0, 1, 0] [148, 147, 146, 18, 8, 6] s) lf.length
    (fun i s => ∃ h' σ1, s = ([.int .i64 i, .int .i64 lf.length, .slice hl, .slice h', .slice hm, .ptr q], σ1) ∧ Kp σ.objs.length σ σ1 ∧ GrowI σ1 σ.objs.length h' ((lf.take i).map (rd nm)))
    (fun r => ∃ h' σ', r = (AX.exit 8, [(18, .slice h'), (6, .ptr q)], σ') ∧ Kp σ.objs.length σ σ' ∧ GrowI σ' σ.objs.length h' (lf.map (rd nm)))
    (by
      rintro i s hi ⟨h', σ1, rfl, k1, g⟩
      have i0 : (0 : Int) ≤ i := by omega
      have i1 : (i : Int) < lf.length := by omega
      have w1 : IntKind.wrap .i64 ((i : Int) + 1) = (i + 1 : Nat) := wrap64 (by omega) (by omega)
      have ll := hL.ilen
      have lm := hM.ilen
      have r1 := Store.Ints.rd (Store.Sl.kp hL k1) i0 i1
      obtain ⟨x0, x1⟩ := hr _ (rd_mem i0 i1)
      have r2 := Store.Ints.rd (Store.Sl.kp hM k1) x0 x1
      obtain ⟨h2, σ2, e2, k2, g2⟩ := g.app (by have := k1.prot; omega) k1.len (rd nm (rd lf i)) (by simp; omega)
      refine ⟨_, Ev.of fun k => ?_, h2, σ2, rfl, k1.trans k2, by rw [take_rd (by omega), List.map_append]; exact g2⟩
      simp only [f33_L11111111111111010]
      simp only [Option.bind_some, decide_eq_true_eq, decide_eq_false_iff_not, Bool.not_eq_true', Bool.not_true, Bool.not_false, Bool.false_eq_true, Bool.true_eq_false, Bool.not_eq_eq_eq_not, beq_self_eq_true, beqFT, beqTF, decide_true, decide_false, not_false_eq_true, not_true_eq_false, ne_eq, true_and, and_true, false_and, and_false, and_self, if_true, if_false, ite_true, ite_false, Bool.and_true, Bool.and_false, Bool.true_and, Bool.false_and, Bool.or_true, Bool.true_or, Bool.or_false, Bool.false_or, or_true, true_or, or_false, false_or, or_self, AV.asInt, AV.asBool, AV.asSl, AV.asPtr, AV.asFn, AV.asStr, AV.asMap, AV.asIfc, AV.item, List.length_cons, List.length_nil, List.getElem?_cons_zero, List.getElem?_cons_succ, Nat.zero_add, i0, i1, ll, lm, r1, r2, x0, x1, w1, read1, e2])
    (by
      rintro s ⟨h', σ1, rfl, k1, g⟩
      rw [List.take_length] at g
      exact ⟨_, Ev.of fun k => by simp only [f33_L11111111111111010]; simp only [Option.bind_some, decide_eq_true_eq, decide_eq_false_iff_not, Bool.not_eq_true', Bool.not_true, Bool.not_false, Bool.false_eq_true, Bool.true_eq_false, Bool.not_eq_eq_eq_not, beq_self_eq_true, beqFT, beqTF, decide_true, decide_false, not_false_eq_true, not_true_eq_false, ne_eq, true_and, and_true, false_and, and_false, and_self, if_true, if_false, ite_true, ite_false, Bool.and_true, Bool.and_false, Bool.true_and, Bool.false_and, Bool.or_true, Bool.true_or, Bool.or_false, Bool.false_or, or_true, true_or, or_false, false_or, or_self, AV.asInt, AV.asBool, AV.asSl, AV.asPtr, AV.asFn, AV.asStr, AV.asMap, AV.asIfc, AV.item, List.length_cons, List.length_nil, List.getElem?_cons_zero, List.getElem?_cons_succ, Nat.zero_add, Int.lt_irrefl], h', σ1, rfl, k1, g⟩)
    (s := ([.int .i64 0, .int .i64 lf.length, .slice hl, .slice Hdl.nil, .slice hm, .ptr q], σ)) ⟨_, _, rfl, Kp.refl _ _, Grow.nil _ _ _⟩
  obtain ⟨r, e, h', σ', rfl, h1, h2⟩ := key
  exact ⟨h', σ', e, h1, h2⟩
end
end Go.Ab

/- sort, whole; Array. -/
namespace Go.Ab
open Go Go.Proofs Go.Ab.Wd Go.Ab.Bs Go.Ab.Sai
set_option linter.unusedVariables false
set_option linter.unusedSimpArgs false
theorem saOf_len (t : List Int) : (saOf t).length = t.length := (saOf_spec t).perm.len
theorem saOf_rng {t : List Int} {x : Int} (h : x ∈ saOf t) : 0 ≤ x ∧ x < t.length := (saOf_spec t).perm.rng x h
theorem Grow.row {σ : Store} {n : Nat} {h : Hdl} {es : Nat} {l : List AV} (g : Grow σ n h es l) : ∀ b, h.row = some b → n ≤ b ∧ b < σ.objs.length := fun b e => by
  cases ha : h.a with
  | none => simp [Hdl.row, ha] at e
  | some bo => obtain ⟨c, o⟩ := bo; simp [Hdl.row, ha] at e; subst e; exact g.rowLt c o ha
theorem sort_run (n : Nat) : ∀ (t : List Int) (kk : Nat) (h : Hdl) (σ : Store), t.length ≤ n → t.length ≤ 4194304 → kk ≤ 4194304 → (∀ x ∈ t, 0 ≤ x ∧ x < kk) → σ.Ints h t → σ.prot ≤ σ.objs.length → (∀ b, h.row = some b → b < σ.objs.length) →
    ∃ σ', Runs Try.prog 33 [.slice h, .int .i64 kk] σ (.slice (hdS (σ.objs.length + 1) t.length)) σ' ∧ Kp σ.objs.length σ σ' ∧ σ.objs.length + 3 ≤ σ'.objs.length ∧ σ'.Ints (hdS (σ.objs.length + 1) t.length) (saOf t) ∧ σ'.Wr (hdS (σ.objs.length + 1) t.length) := by
  induction n using Nat.strongRecOn with
  | ind n IH =>
  intro t kk h σ hn hmax hk hrng hT hpr hh
  have lh := hT.ilen
  -- the sorter's rows
  obtain ⟨σ1, hσ1⟩ : ∃ x, x = ((σ.push (boolsL (List.replicate t.length false)) 1).push (intsL (List.replicate t.length 0)) 1).push [.slice h, .int .i64 kk, .slice (hdS σ.objs.length t.length), .slice (hdS (σ.objs.length + 1) t.length)] 4 := ⟨_, rfl⟩
  have len1 : σ1.objs.length = σ.objs.length + 3 := by rw [hσ1]; simp
  have k1 : Kp σ.objs.length σ σ1 := by
    rw [hσ1]; exact ((Kp.push _ _ (Nat.le_refl _)).push' (by simp)).push' (by simp; omega)
  have r0 : σ1.Row σ.objs.length 1 (boolsL (List.replicate t.length false)) := by rw [hσ1]; exact Store.Row.new.push.push
  have r1 : σ1.Row (σ.objs.length + 1) 1 (intsL (List.replicate t.length 0)) := by
    rw [hσ1]; have := (Store.Row.new (σ := σ.push (boolsL (List.replicate t.length false)) 1) (es := 1) (l := intsL (List.replicate t.length 0))).push (l' := [.slice h, .int .i64 kk, .slice (hdS σ.objs.length t.length), .slice (hdS (σ.objs.length + 1) t.length)]) (es' := 4)
    simpa using this
  have r2 : σ1.Row (σ.objs.length + 2) 4 [.slice h, .int .i64 kk, .slice (hdS σ.objs.length t.length), .slice (hdS (σ.objs.length + 1) t.length)] := by
    rw [hσ1]; have := (Store.Row.new (σ := (σ.push (boolsL (List.replicate t.length false)) 1).push (intsL (List.replicate t.length 0)) 1) (es := 4) (l := [.slice h, .int .i64 kk, .slice (hdS σ.objs.length t.length), .slice (hdS (σ.objs.length + 1) t.length)]))
    simpa using this
  have S1 : SS σ σ1 h kk t (List.replicate t.length false) (List.replicate t.length 0) := ⟨k1, hT, r0, r2, r1.sl (by simp), ⟨_, 0, _, rfl, r1, by rw [k1.prot]; omega⟩, by simp, by simp, hpr, hh⟩
  have start : ∀ (Γ : Gam) (k : Nat), evBody Try.prog Γ drawn k Try.f33 [.slice h, .int .i64 kk] σ = if (t.length : Int) = 0 then (σ1.ldSl (some (σ.objs.length + 2, 3))).bind fun x => some (.slice x, σ1) else
      Option.bind (loopF Try.prog Γ drawn k Try.f33 [1, 1, 1, 1, 0, 1, 0] [7, 6, 5, 0] ([.int .i64 (IntKind.wrap .i64 ((t.length : Int) - 2)), .ptr (some (σ.objs.length + 2, 0)), .int .i64 t.length, .slice h], σ1)) (contF Try.prog Γ drawn k Try.f33 [1, 1, 1, 1, 0, 1, 0]) := by
    intro Γ k
    rw [f33_eq]
    simp only [lh, Int.toNat_natCast, mkCells_bool, mkCells_int, push_len, ← hσ1, Ptr.add, Option.map_some, decide_eq_true_eq, show σ.objs.length + 1 + 1 = σ.objs.length + 2 from rfl, Nat.zero_add]
    rw [if_pos (by omega), if_pos (by omega)]
  by_cases h0 : t.length = 0
  · have ht0 : t = [] := List.eq_nil_of_length_eq_zero h0
    subst ht0
    refine ⟨σ1, Runs.intro (fn := Try.f33) (by kernel_rfl) (by kernel_rfl) (Ev.of fun k => ?_), k1, by omega, S1.a, S1.wa⟩
    rw [start, if_pos (by simp)]
    have : σ1.ldSl (some (σ.objs.length + 2, 3)) = some (hdS (σ.objs.length + 1) ([] : List Int).length) := S1.sorter.a_
    rw [this]; rfl
  · have hpos : 0 < t.length := by omega
    obtain ⟨sa1, nm, top, p1, p2, p3, p4, p5, p6, p7, p8⟩ := sort_plain hpos hrng
    have q61 : t.length < 2 ^ 61 := by omega
    have q62 : t.length < 2 ^ 62 := by omega
    have q41 : t.length < 2 ^ 41 := by omega
    have qk : kk * 8 ≤ 281474976710656 := by omega
    obtain ⟨σ2, g2, S2, len2⟩ := short_loop q61 (t.length - 1) σ1 (by omega) (by rw [shU_last hpos]; exact S1)
    obtain ⟨hl, σ3, g3, S3, G3, k3⟩ := left_loop q41 S2
    have len3 := k3.len
    have a3 := fun b hb => (G3.row b hb)
    obtain ⟨σ4, ⟨n4, g4⟩, So4, w4, pr4, len4, off4⟩ := induce_run (ba := σ.objs.length + 1) (lf := lefU (shF t) t.length) S3.sorter S3.wa rfl (by have := S3.prot; have := S3.len; omega)
      ⟨by simp [Ptr.row], fun e => by have := hh (σ.objs.length + 1) e; omega, by simp [Hdl.row], fun e => by have := a3 (σ.objs.length + 1) e; omega⟩
      (by
        intro b hb
        rcases hb with hb | hb | hb | hb | hb
        · simp [Ptr.row] at hb; omega
        · have := hh _ hb; omega
        · simp [Hdl.row] at hb; omega
        · exact (a3 b hb).2
        · omega) q62 qk hrng S3.la G3.ints (by have := lefU_length (shF t) t.length; omega) p1
    have S4 : SS σ σ4 h kk t (shF t) sa1 := ⟨⟨pr4.trans S3.kp.prot, by omega, fun c hc => (off4 c (by omega) (by omega)).trans (S3.kp.keep c hc)⟩, hT, (off4 _ (by omega) (by omega)).trans S3.rs, (off4 _ (by omega) (by omega)).trans S3.rg, So4.a, w4, S3.ls, by have := p2.len; omega, hpr, hh⟩
    have G4 : GrowI σ4 σ2.objs.length hl (lefU (shF t) t.length) := G3.keep fun b o e => off4 b (G3.rowLt b o e).2 (by have := (G3.rowLt b o e).1; omega)
    obtain ⟨σ5, g5, k5, r5⟩ := name_loop (hl := hl) q41 S4 (fun x hx => p2.rng x hx) p3
    have len5 := k5.len
    have S5 := S4.keep (by omega) k5
    have G5 := G4.kp k5
    have M5 : σ5.Ints (hdS σ4.objs.length t.length) nm := r5.sl (by simp [p4])
    have lfr : ∀ x ∈ lefU (shF t) t.length, 0 ≤ x ∧ x < nm.length := fun x hx => by have := (lefU_mem.1 hx).1; omega
    have lfl := lefU_lt (short := shF t) hpos
    have ll5 := G5.ints.ilen
    obtain ⟨h6, σ6, g6, k6, G6⟩ := less_loop (top := top) (q := some (σ.objs.length + 2, 0)) G5.ints M5 (by have := S5.prot; omega) (by omega) lfr
    have S6 := S5.keep (by omega) k6
    have len6 := k6.len
    have w6 : IntKind.wrap .i64 (top + 1) = ((top + 1).toNat : Nat) := by rw [wrap64 (by omega) (by omega)]; omega
    obtain ⟨σ7, ⟨n7, g7⟩, k7, len7, I7, _⟩ := IH ((lefU (shF t) t.length).map (rd nm)).length (by simp; omega) ((lefU (shF t) t.length).map (rd nm)) (top + 1).toNat h6 σ6 (Nat.le_refl _) (by simp; omega) (by omega)
      (fun x hx => by have := p7 x hx; omega) G6.ints (by have := S6.prot; omega) (fun b hb => (G6.row b hb).2)
    have S7 := S6.keep (by omega) k7
    have G7 := (G5.kp k6).kp k7
    have ll7 := G7.ints.ilen
    obtain ⟨h8, σ8, g8, k8, G8⟩ := some_loop (q := some (σ.objs.length + 2, 0)) I7 G7.ints (by have := S7.prot; omega) (by rw [saOf_len]; simp; omega) (fun x hx => by have := saOf_rng hx; simpa using this)
    have S8 := S7.keep (by omega) k8
    have len8 := k8.len
    have a8 := fun b hb => (G8.row b hb)
    obtain ⟨σ9, ⟨n9, g9⟩, So9, w9, pr9, len9, off9⟩ := induce_run (ba := σ.objs.length + 1) S8.sorter S8.wa rfl (by have := S8.prot; have := S8.len; omega)
      ⟨by simp [Ptr.row], fun e => by have := hh (σ.objs.length + 1) e; omega, by simp [Hdl.row], fun e => by have := a8 (σ.objs.length + 1) e; omega⟩
      (by
        intro b hb
        rcases hb with hb | hb | hb | hb | hb
        · simp [Ptr.row] at hb; omega
        · have := hh _ hb; omega
        · simp [Hdl.row] at hb; omega
        · exact (a8 b hb).2
        · omega) q62 qk hrng S8.la G8.ints (by rw [List.length_map, saOf_len]; simp; omega) p8
    refine ⟨σ9, Runs.intro (fn := Try.f33) (by kernel_rfl) (by kernel_rfl) ?_, ⟨pr9.trans S8.kp.prot, by omega, fun c hc => (off9 c (by omega) (by omega)).trans (S8.kp.keep c hc)⟩, by omega, So9.a, w9⟩
    obtain ⟨n2, g2⟩ := loopF_ev g2
    obtain ⟨n3, g3⟩ := loopF_ev g3
    obtain ⟨n5, g5⟩ := loopF_ev g5
    obtain ⟨n6, g6⟩ := loopF_ev g6
    obtain ⟨n8, g8⟩ := loopF_ev g8
    refine ⟨n2 + n3 + n4 + n5 + n6 + n7 + n8 + n9, fun k hk => ?_⟩
    have g2 := g2 k (by omega)
    have g3 := g3 k (by omega)
    have g4 := g4 k (by omega)
    have g5 := g5 k (by omega)
    have g6 := g6 k (by omega)
    have g7 := g7 k (by omega)
    have g8 := g8 k (by omega)
    have g9 := g9 k (by omega)
    simp only at g2 g3 g4 g5 g6 g7 g8 g9
    have ew : IntKind.wrap .i64 ((t.length : Int) - 2) = ((t.length - 1 : Nat) : Int) - 1 := by rw [wrap64 (by omega) (by omega)]; omega
    have ea4 : (σ4.push (intsL (List.replicate t.length 0)) 1).ldSl (Ptr.add (some (σ.objs.length + 2, 0)) 3) = some (hdS (σ.objs.length + 1) t.length) := (S4.keep (Nat.le_refl _) (Kp.push _ _ (by have := S4.len; omega))).sorter.a_
    have ea9 : σ9.ldSl (Ptr.add (some (σ.objs.length + 2, 0)) 3) = some (hdS (σ.objs.length + 1) t.length) := So9.a_
    have b1 : (0 : Int) ≤ t.length := by omega
    have b2 : (t.length : Int) * ((8 : Nat) : Int) ≤ 281474976710656 := by omega
    simp only [start, ew]
    rw [if_neg (by omega), g2]
    simp only [Option.bind_some]
    rw [f33_X1111010_1, lh, g3]
    simp only [Option.bind_some]
    rw [f33_X111111010_1, g4]
    simp only [Option.bind_some, decide_eq_true_eq, decide_eq_false_iff_not, Bool.not_eq_true', Bool.not_true, Bool.not_false, Bool.false_eq_true, Bool.true_eq_false, Bool.not_eq_eq_eq_not, beq_self_eq_true, beqFT, beqTF, decide_true, decide_false, not_false_eq_true, not_true_eq_false, ne_eq, true_and, and_true, false_and, and_false, and_self, if_true, if_false, ite_true, ite_false, Bool.and_true, Bool.and_false, Bool.true_and, Bool.false_and, Bool.or_true, Bool.true_or, Bool.or_false, Bool.false_or, or_true, true_or, or_false, false_or, or_self, AV.asInt, AV.asBool, AV.asSl, AV.asPtr, AV.asFn, AV.asStr, AV.asMap, AV.asIfc, AV.item, List.length_cons, List.length_nil, List.getElem?_cons_zero, List.getElem?_cons_succ, Nat.zero_add, Int.toNat_natCast, mkCells_int, b1, b2, Int.le_refl, ea4, g5]
    rw [f33_X1111111111010_1, ll5, g6]
    simp only [Option.bind_some]
    rw [f33_X111111111111010_1, w6, g7]
    simp only [Option.bind_some, decide_eq_true_eq, decide_eq_false_iff_not, Bool.not_eq_true', Bool.not_true, Bool.not_false, Bool.false_eq_true, Bool.true_eq_false, Bool.not_eq_eq_eq_not, beq_self_eq_true, beqFT, beqTF, decide_true, decide_false, not_false_eq_true, not_true_eq_false, ne_eq, true_and, and_true, false_and, and_false, and_self, if_true, if_false, ite_true, ite_false, Bool.and_true, Bool.and_false, Bool.true_and, Bool.false_and, Bool.or_true, Bool.true_or, Bool.or_false, Bool.false_or, or_true, true_or, or_false, false_or, or_self, AV.asInt, AV.asBool, AV.asSl, AV.asPtr, AV.asFn, AV.asStr, AV.asMap, AV.asIfc, AV.item, List.length_cons, List.length_nil, List.getElem?_cons_zero, List.getElem?_cons_succ, Nat.zero_add]
    have e7 : (((hdS (σ6.objs.length + 1) ((lefU (shF t) t.length).map (rd nm)).length).len : Nat) : Int) = ((saOf ((lefU (shF t) t.length).map (rd nm))).length : Nat) := by rw [saOf_len]
    rw [e7, g8]
    simp only [Option.bind_some]
    rw [f33_X11111111111111010_1, g9]
    simp only [Option.bind_some, decide_eq_true_eq, decide_eq_false_iff_not, Bool.not_eq_true', Bool.not_true, Bool.not_false, Bool.false_eq_true, Bool.true_eq_false, Bool.not_eq_eq_eq_not, beq_self_eq_true, beqFT, beqTF, decide_true, decide_false, not_false_eq_true, not_true_eq_false, ne_eq, true_and, and_true, false_and, and_false, and_self, if_true, if_false, ite_true, ite_false, Bool.and_true, Bool.and_false, Bool.true_and, Bool.false_and, Bool.or_true, Bool.true_or, Bool.or_false, Bool.false_or, or_true, true_or, or_false, false_or, or_self, AV.asInt, AV.asBool, AV.asSl, AV.asPtr, AV.asFn, AV.asStr, AV.asMap, AV.asIfc, AV.item, List.length_cons, List.length_nil, List.getElem?_cons_zero, List.getElem?_cons_succ, Nat.zero_add, ea9]
end Go.Ab

/- What a law's call comes to, out of the store that its arguments make. -/
namespace Go.Ab
open Go
set_option linter.unusedVariables false
/-- The store that arguments make: rows that are not written. -/
structure Inp (w : World) (μ : Mu) (σ : Store) (args : List AV) (cargs : List Value) : Prop where
  rel : Rel μ σ w
  vl : VL μ args cargs
  pr : σ.prot = σ.objs.length
  no : ∀ (b : Nat) (o : AObj), σ.objs[b]? = some o → o.free = false ∧ o.other = false
theorem Inp.nil (w : World) : Inp w (fun _ => none) ⟨[], 0⟩ [] [] :=
  ⟨⟨by simp, by simp, by simp, by simp, by simp, by simp⟩, VL.nil _, rfl, by simp⟩
theorem VL.snoc {μ : Mu} {v : AV} {c : Value} {l : List AV} {l' : List Value} (hl : VL μ l l') (h : VR μ v c) : VL μ (l ++ [v]) (l' ++ [c]) := hl.append (VL.cons h (VL.nil _))
theorem Inp.val {w : World} {μ : Mu} {σ : Store} {args : List AV} {cargs : List Value} (I : Inp w μ σ args cargs) {v : AV} {c : Value} (h : VR μ v c) : Inp w μ σ (args ++ [v]) (cargs ++ [c]) :=
  ⟨I.rel, I.vl.snoc h, I.pr, I.no⟩
def Mu.add (μ : Mu) (n : Nat) (L : Option Loc) : Mu := fun b => if b = n then L else μ b
def Store.lay (σ : Store) (o : AObj) : Store := ⟨σ.objs ++ [o], σ.objs.length + 1⟩
theorem lay_old {σ : Store} {o : AObj} {b : Nat} (h : b < σ.objs.length) : (σ.lay o).objs[b]? = σ.objs[b]? := by simp only [Store.lay]; rw [List.getElem?_append_left h]
theorem lay_new {σ : Store} {o : AObj} : (σ.lay o).objs[σ.objs.length]? = some o := by simp [Store.lay]
theorem lay_get {σ : Store} {o : AObj} {b : Nat} {x : AObj} (h : (σ.lay o).objs[b]? = some x) : σ.objs[b]? = some x ∨ (b = σ.objs.length ∧ x = o) := by
  by_cases c : b < σ.objs.length
  · rw [lay_old c] at h; exact .inl h
  · have : b < (σ.lay o).objs.length := (List.getElem?_eq_some_iff.1 h).1
    simp [Store.lay] at this
    have e : b = σ.objs.length := by omega
    subst e
    rw [lay_new] at h; injection h with h; exact .inr ⟨rfl, h.symm⟩
@[simp] theorem lay_len {σ : Store} {o : AObj} : (σ.lay o).objs.length = σ.objs.length + 1 := by simp [Store.lay]
theorem Mu.add_mono {μ : Mu} {σ : Store} {w : World} (h : Rel μ σ w) (L : Option Loc) : ∀ b M, μ b = some M → Mu.add μ σ.objs.length L b = some M := fun b M hb => by
  have := h.dom b M hb
  unfold Mu.add; rw [if_neg (by omega)]; exact hb
/-- A dead row is laid. -/
theorem Inp.dead {w : World} {μ : Mu} {σ : Store} {args : List AV} {cargs : List Value} (I : Inp w μ σ args cargs) : Inp w μ (σ.lay .dead) args cargs := by
  refine ⟨⟨fun b L h => by have := I.rel.dom b L h; simp; omega, I.rel.dat, ?_, ?_, ?_, ?_⟩, I.vl, by simp [Store.lay], fun b o h => ?_⟩
  · intro b l rw es L h hb
    rw [lay_old (I.rel.dom b L hb)] at h; exact I.rel.cells b l rw es L h hb
  · intro b l es L h hb
    rw [lay_old (I.rel.dom b L hb)] at h; exact I.rel.rw b l es L h hb
  · intro b o L h ho hb
    rw [lay_old (I.rel.dom b L hb)] at h; exact I.rel.obj b o L h ho hb
  · intro b b' o o' L L' h hf h' ha hne hb hb'
    rw [lay_old (I.rel.dom b L hb)] at h; rw [lay_old (I.rel.dom b' L' hb')] at h'; exact I.rel.sep b b' o o' L L' h hf h' ha hne hb hb'
  · rcases lay_get h with h | ⟨_, rfl⟩
    · exact I.no b o h
    · exact ⟨rfl, rfl⟩
/-- A row of cells is laid. -/
theorem Inp.row {w : World} {μ : Mu} {σ : Store} {args : List AV} {cargs : List Value} (I : Inp w μ σ args cargs) {l : List AV} {es : Nat} {L : Loc} (hes : L.es = es) (hN : l.length = L.N) (hd : Dat w L.blk)
    (hc : ∀ (j : Nat) v, l[j]? = some v → ∃ c, w.cell? ⟨L.blk, L.off + j, none⟩ = some c ∧ VR μ v c) : Inp w (Mu.add μ σ.objs.length (some L)) (σ.lay (.cells l false es)) args cargs := by
  have hm := Mu.add_mono I.rel (some L)
  have hnew : Mu.add μ σ.objs.length (some L) σ.objs.length = some L := by simp [Mu.add]
  have hold : ∀ b M, Mu.add μ σ.objs.length (some L) b = some M → (b < σ.objs.length ∧ μ b = some M) ∨ (b = σ.objs.length ∧ M = L) := by
    intro b M h
    by_cases e : b = σ.objs.length
    · rw [e, hnew] at h; injection h with h; exact .inr ⟨e, h.symm⟩
    · unfold Mu.add at h; rw [if_neg e] at h; exact .inl ⟨I.rel.dom b M h, h⟩
  have hno : ∀ (b : Nat) (o : AObj), (σ.lay (.cells l false es)).objs[b]? = some o → o.free = false ∧ o.other = false := fun b o h => by
    rcases lay_get h with h | ⟨_, rfl⟩
    · exact I.no b o h
    · exact ⟨rfl, rfl⟩
  refine ⟨⟨fun b M h => ?_, fun b M h => ?_, ?_, ?_, ?_, ?_⟩, I.vl.mono hm, by simp [Store.lay], hno⟩
  · rcases hold b M h with ⟨h1, _⟩ | ⟨h1, _⟩ <;> simp <;> omega
  · rcases hold b M h with ⟨_, h1⟩ | ⟨_, rfl⟩
    · exact I.rel.dat b M h1
    · exact hd
  · intro b l' rw es' M h hb
    rcases hold b M hb with ⟨h1, h2⟩ | ⟨rfl, rfl⟩
    · rw [lay_old h1] at h
      obtain ⟨a1, a2, a3⟩ := I.rel.cells b l' rw es' M h h2
      exact ⟨a1, a2, fun j v hj => by obtain ⟨c, c1, c2⟩ := a3 j v hj; exact ⟨c, c1, c2.mono hm⟩⟩
    · rw [lay_new] at h; injection h with h; injection h with e1 e2 e3; subst e1 e2 e3
      exact ⟨hes, by omega, fun j v hj => by obtain ⟨c, c1, c2⟩ := hc j v hj; exact ⟨c, c1, c2.mono hm⟩⟩
  · intro b l' es' M h hb
    have := (hno b _ h).1
    cases this
  · intro b o M h ho hb
    rw [(hno b o h).2] at ho; cases ho
  · intro b b' o o' M M' h hf h' ha hne hb hb'
    rw [(hno b o h).1] at hf; cases hf
/-- Did a run answer true? -/
def okTrue : Option (AV × Store) → Bool
  | some (.bool true, _) => true
  | _ => false
/-- A function that may be told: run on no store, it answers true. -/
def FirstOk (P : Program) (g : FuncId) : Prop := ∃ fn k, P.funcs[g]? = some fn ∧ (fn.name == "runtime.NumGoroutine") = false ∧ fn.body.isNone = false ∧ okTrue (gam P drawn (fun _ => none) k (.fn g) [] ⟨[], 0⟩) = true
theorem Rel.empty (w : World) : Rel (fun _ => none) ⟨[], 0⟩ w := ⟨by simp, by simp, by simp, by simp, by simp, by simp⟩
theorem Ste.same {μ : Mu} {σ : Store} {w w' : World} (h : Rel μ σ w) (h1 : w'.os = w.os) (h2 : w'.tape = w.tape) (h3 : w'.output = w.output) (hs : w.heap.size ≤ w'.heap.size) (hb : ∀ c, c < w.heap.size → w'.heap[c]? = w.heap[c]?) : Ste μ σ w μ σ w' :=
  ⟨h.same hs fun b L hL => hb _ (h.lt b L hL), fun _ _ => rfl, Nat.le_refl _, rfl, fun _ _ _ => rfl, hs, h1, h2, h3, fun c hc _ => hb c hc, fun _ h _ => h⟩
theorem tell_sound {P : Program} (hm : P.follows .mixedOrders = true) {fs : List Nat} (h : ∀ g ∈ fs, FirstOk P g) : SpS P (tell fs) ∧ SpK (tell fs) := by
  have shape : ∀ g f, tell fs g = some f → g ∈ fs ∧ ∀ args σ v σ', f args σ = some (v, σ') → args = [] ∧ v = .bool true ∧ σ' = σ := by
    intro g f e
    unfold tell at e
    split at e
    · rename_i ha
      injection e with e; subst e
      obtain ⟨x, hx, hb⟩ := List.any_eq_true.1 ha
      have : x = g := Nat.eq_of_beq_eq_true hb
      subst this
      refine ⟨hx, fun args σ v σ' h => ?_⟩
      cases args with
      | nil => simp at h; exact ⟨rfl, h.1.symm, h.2.symm⟩
      | cons => simp at h
    · cases e
  constructor
  · intro g f e args σ v σ' hf
    obtain ⟨hg, hs⟩ := shape g f e
    obtain ⟨rfl, rfl, rfl⟩ := hs args σ v σ' hf
    obtain ⟨fn, k, k1, k2, k3, k4⟩ := h g hg
    refine ⟨fun cargs w => callFunc_enter k1 k2 k3 cargs w, fun μ w cargs hR hv => ?_⟩
    have hc : cargs.toList = [] := hv.inv_nil
    obtain ⟨σ1, hr⟩ : ∃ σ1, gam P drawn (fun _ => none) k (.fn g) [] ⟨[], 0⟩ = some (.bool true, σ1) := by
      cases hx : gam P drawn (fun _ => none) k (.fn g) [] ⟨[], 0⟩ with
      | none => rw [hx] at k4; cases k4
      | some r =>
        obtain ⟨v, s⟩ := r
        rw [hx] at k4
        cases v with
        | bool b => cases b with
          | true => exact ⟨s, rfl⟩
          | false => cases k4
        | _ => cases k4
    have hs := read_sound (P := P) hm (sp := fun _ => none) (fun g f h => by cases h) (fun g f h => by cases h) k _ _ _ _ _ hr (fun _ => none) w cargs (Rel.empty w) (by rw [hc]; exact VL.nil _)
    refine hs.2.mono fun e w' ⟨μ', c, e1, e2, e3⟩ => ?_
    subst e1
    cases e2
    refine ⟨μ, _, rfl, .bool _, Ste.same hR e3.os e3.tape e3.output e3.size fun c hc => e3.pres c hc ?_⟩
    rintro ⟨b, o, L, h1, _⟩
    simp at h1
  · intro g f e args σ v σ' hf
    obtain ⟨_, hs⟩ := shape g f e
    obtain ⟨_, _, rfl⟩ := hs args σ v σ' hf
    exact Pre.refl _
/-- A law's call. -/
theorem law_calls {P : Program} [Told P] (hm : P.follows .mixedOrders = true) (ht : SpS P (Told.sp P) ∧ SpK (Told.sp P)) {f : FuncId} {w : World} {μ : Mu} {σ σ' : Store} {args : List AV} {cargs : Array Value} (I : Inp w μ σ args cargs.toList) (h : Runs P f args σ (.bool true) σ') :
    Calls P f cargs w fun e w' => e = .returned (.bool true) ∧ Go.RowKit.Below w.heap.size w w' := by
  obtain ⟨k, h⟩ := h
  have hs := read_sound (P := P) hm ht.1 ht.2 k
  refine ((hs _ _ _ _ _ (h k (Nat.le_refl _))) μ w cargs I.rel I.vl).2.mono fun e w' ⟨μ', c, e1, e2, e3⟩ => ?_
  subst e1
  cases e2
  refine ⟨rfl, e3.os, e3.tape, e3.output, e3.size, fun k hk => e3.pres k hk ?_⟩
  rintro ⟨b, o, L, h1, h2, _⟩
  rw [(I.no b o h1).1] at h2; cases h2
/-! ### slices of numbers -/
def numsL (k : IntKind) (l : List Int) : List AV := l.map (AV.int k)
@[simp] theorem numsL_length (k : IntKind) (l : List Int) : (numsL k l).length = l.length := by simp [numsL]
def IsRow (k : IntKind) (w : World) (a : Option Addr) (len cap : Nat) (zs : List Int) : Prop :=
  (a = none ∧ len = 0 ∧ cap = 0 ∧ zs = []) ∨
  ∃ x, a = some x ∧ len ≤ cap ∧ cap ≤ maxLen ∧ zs.length = cap ∧ (∀ i, i < zs.length → w.cell? (x.add i) = some (.int k (zs.getD i 0))) ∧ ∀ n ∈ zs, (Lit.int k n).wf = true
/-- What an earlier store reads, a later one reads. -/
def Store.More (σ σ' : Store) : Prop := σ.objs.length ≤ σ'.objs.length ∧ ∀ b, b < σ.objs.length → σ'.objs[b]? = σ.objs[b]?
theorem Store.More.refl (σ : Store) : σ.More σ := ⟨Nat.le_refl _, fun _ _ => rfl⟩
theorem Store.More.trans {σ σ1 σ2 : Store} (h : σ.More σ1) (k : σ1.More σ2) : σ.More σ2 := ⟨Nat.le_trans h.1 k.1, fun b hb => (k.2 b (Nat.lt_of_lt_of_le hb h.1)).trans (h.2 b hb)⟩
theorem Store.More.lay (σ : Store) (o : AObj) : σ.More (σ.lay o) := ⟨by simp, fun b hb => lay_old hb⟩
theorem Store.Sl.more {σ σ' : Store} {h : Hdl} {es : Nat} {l : List AV} (s : σ.Sl h es l) (m : σ.More σ') : σ'.Sl h es l := by
  refine ⟨s.len, ?_⟩
  rcases s.row with h1 | ⟨b, o, cs, rw, h1, h2, h3, h4⟩
  · exact .inl h1
  · exact .inr ⟨b, o, cs, rw, h1, (m.2 b (List.getElem?_eq_some_iff.1 h2).1).trans h2, h3, h4⟩
/-- A slice's row is there. -/
def Store.Has (σ : Store) (h : Hdl) : Prop := ∀ b, h.row = some b → b < σ.objs.length
theorem Store.Has.more {σ σ' : Store} {h : Hdl} (s : σ.Has h) (m : σ.More σ') : σ'.Has h := fun b hb => Nat.lt_of_lt_of_le (s b hb) m.1
theorem cell_dat {w : World} {a : Addr} {c : Value} (h : w.cell? a = some c) : Dat w a.block ∧ a.spot = none := by
  unfold World.cell? at h
  split at h
  · rename_i x ty fz e
    split at h
    · cases h
    · rename_i hs
      exact ⟨.inl ⟨_, _, _, e⟩, by simpa using hs⟩
  · cases h
/-- A slice of values, each known. -/
theorem Inp.slice {w : World} {μ : Mu} {σ : Store} {args : List AV} {cargs : List Value} (I : Inp w μ σ args cargs) {a : Option Addr} {len cap : Nat} {l : List AV}
    (h : (a = none ∧ len = 0 ∧ cap = 0 ∧ l = []) ∨ ∃ x, a = some x ∧ len ≤ cap ∧ l.length = cap ∧ ∀ (j : Nat) v, l[j]? = some v → ∃ c, w.cell? (x.add j) = some c ∧ VR μ v c) :
    ∃ h' μ' σ', Inp w μ' σ' (args ++ [.slice h']) (cargs ++ [.slice a len cap]) ∧ σ.More σ' ∧ σ'.Sl h' 1 (l.take len) ∧ σ'.Has h' ∧ (∀ b L, μ b = some L → μ' b = some L) ∧ VR μ' (.slice h') (.slice a len cap) := by
  rcases h with ⟨rfl, rfl, rfl, rfl⟩ | ⟨x, rfl, hl, hc, hx⟩
  · have hv : VR μ (.slice ⟨none, 0, some 0⟩) (.slice none 0 0) := .slN (by simp)
    exact ⟨⟨none, 0, some 0⟩, μ, σ, I.val hv, .refl _, ⟨by simp, .inl rfl⟩, fun b hb => by simp [Hdl.row] at hb, fun _ _ h => h, hv⟩
  · by_cases c0 : cap = 0
    · subst c0
      have : len = 0 := by omega
      subst this
      have hv : VR μ (.slice ⟨some (σ.objs.length, 0), 0, some 0⟩) (.slice (some x) 0 0) := .sl0 (by simp)
      exact ⟨⟨some (σ.objs.length, 0), 0, some 0⟩, μ, _, I.dead.val hv, .lay _ _, ⟨by simp, .inl rfl⟩, fun b hb => by simp [Hdl.row] at hb; simp; omega, fun _ _ h => h, hv⟩
    · obtain ⟨v0, hv0⟩ : ∃ v, l[0]? = some v := ⟨_, List.getElem?_eq_getElem (by omega)⟩
      obtain ⟨c0', hc0, _⟩ := hx 0 v0 hv0
      obtain ⟨hd, hs⟩ := cell_dat (by simpa [Addr.add] using hc0 : w.cell? x = some c0')
      have hrow := I.row (l := l) (es := 1) (L := ⟨x.block, x.off, cap, 1⟩) rfl hc hd fun j v hj => by
        obtain ⟨c, h1, h2⟩ := hx j v hj
        refine ⟨c, ?_, h2⟩
        rw [← h1]
        cases j with
        | zero => cases x; simp at hs; subst hs; simp [Addr.add]
        | succ j => simp [Addr.add]
      have hnew : Mu.add μ σ.objs.length (some ⟨x.block, x.off, cap, 1⟩) σ.objs.length = some ⟨x.block, x.off, cap, 1⟩ := by simp [Mu.add]
      have hv : VR (Mu.add μ σ.objs.length (some ⟨x.block, x.off, cap, 1⟩)) (.slice ⟨some (σ.objs.length, 0), len, some cap⟩) (.slice (some x) len cap) := by
        have := VR.sl (len := len) (cap := cap) (c := some cap) (o := 0) hnew (by simp) hl (by simp)
        have e : (⟨x.block, x.off + 0, none⟩ : Addr) = x := by cases x; simp at hs; subst hs; rfl
        rwa [e] at this
      refine ⟨⟨some (σ.objs.length, 0), len, some cap⟩, _, _, hrow.val hv, .lay _ _, ⟨by simp; omega, .inr ⟨σ.objs.length, 0, l, false, rfl, lay_new, by simp; omega, ?_⟩⟩, fun b hb => by simp [Hdl.row] at hb; simp; omega, Mu.add_mono I.rel _, hv⟩
      rw [List.drop_zero, List.length_take, Nat.min_eq_left (by omega)]
/-- A slice of numbers. -/
theorem Inp.nums {w : World} {μ : Mu} {σ : Store} {args : List AV} {cargs : List Value} (I : Inp w μ σ args cargs) {k : IntKind} {a : Option Addr} {len cap : Nat} {zs : List Int} (h : IsRow k w a len cap zs) :
    ∃ h' μ' σ' l, Inp w μ' σ' (args ++ [.slice h']) (cargs ++ [.slice a len cap]) ∧ σ.More σ' ∧ σ'.Sl h' 1 (numsL k l) ∧ σ'.Has h' ∧ l.length = len ∧ (∀ n ∈ l, (Lit.int k n).wf = true) ∧ (∀ b L, μ b = some L → μ' b = some L) ∧ VR μ' (.slice h') (.slice a len cap) := by
  obtain ⟨h', μ', σ', h1, h2, h3, h4, h5, h6⟩ := I.slice (a := a) (len := len) (cap := cap) (l := numsL k zs) (by
    rcases h with ⟨rfl, rfl, rfl, rfl⟩ | ⟨x, rfl, hl, hm, hz, hcell, hw⟩
    · exact .inl ⟨rfl, rfl, rfl, rfl⟩
    · refine .inr ⟨x, rfl, hl, by simpa using hz, fun j v hj => ?_⟩
      simp only [numsL, List.getElem?_map, Option.map_eq_some_iff] at hj
      obtain ⟨n, hn, rfl⟩ := hj
      obtain ⟨hlt, e⟩ := List.getElem?_eq_some_iff.1 hn
      refine ⟨_, hcell j hlt, ?_⟩
      rw [List.getD_eq_getElem?_getD, hn]; exact .int ..)
  refine ⟨h', μ', σ', zs.take len, h1, h2, by simpa [numsL, List.map_take] using h3, h4, ?_, fun n hn => ?_, h5, h6⟩
  · rcases h with ⟨rfl, rfl, rfl, rfl⟩ | ⟨x, rfl, hl, hm, hz, _⟩
    · rfl
    · simp; omega
  · rcases h with ⟨rfl, rfl, rfl, rfl⟩ | ⟨x, rfl, hl, hm, hz, _, hw⟩
    · cases (List.mem_of_mem_take hn)
    · exact hw n (List.mem_of_mem_take hn)
end Go.Ab

/- Slices of numbers of any kind, read and written by whole numbers. -/
namespace Go.Ab
open Go Go.Ab.Wd Go.Ab.Bs
set_option linter.unusedVariables false
abbrev Store.Nums (k : IntKind) (σ : Store) (h : Hdl) (l : List Int) : Prop := σ.Sl h 1 (numsL k l)
theorem nums_len {k : IntKind} {σ : Store} {h : Hdl} {l : List Int} (s : Store.Nums k σ h l) : h.len = l.length := by have := Store.Sl.len s; simpa using this
theorem nums_rd {k : IntKind} {σ : Store} {h : Hdl} {l : List Int} (s : Store.Nums k σ h l) {i : Int} (h0 : 0 ≤ i) (h1 : i < l.length) : σ.ldInt k (h.idx i 1) = some (rd l i) := by
  have hlt : i.toNat < l.length := by omega
  have : σ.cell (h.idx i 1) = some (.int k l[i.toNat]) := Store.Sl.at s h0 (by simp [numsL, hlt])
  simp [Store.ldInt, this, hlt, rd]
theorem bools_rd {σ : Store} {h : Hdl} {l : List Bool} (s : σ.Bools h l) {i : Int} (h0 : 0 ≤ i) (h1 : i < l.length) : σ.ldBool (h.idx i 1) = some (rdOf false l i) := Store.Bools.ld s h0 h1
theorem numsL_set (k : IntKind) (l : List Int) (n : Nat) (x : Int) : (numsL k l).set n (.int k x) = numsL k (l.set n x) := by simp [numsL, List.map_set]
theorem numsL_append (k : IntKind) (l m : List Int) : numsL k (l ++ m) = numsL k l ++ numsL k m := by simp [numsL]
theorem mkCells_num (k : IntKind) (n : Nat) : mkCells [.int k 0] n = numsL k (List.replicate n 0) := by simp [mkCells, numsL]
section
variable {k : IntKind} {σ σ' : Store} {b n : Nat} {l : List Int}
theorem row_nums (r : σ.Row b 1 (numsL k l)) {len : Nat} {cp : Option Nat} (hl : len = l.length) : Store.Nums k σ ⟨some (b, 0), len, cp⟩ l := r.sl (by simp [hl])
theorem row_rd (r : σ.Row b 1 (numsL k l)) {i : Int} (h0 : 0 ≤ i) (h1 : i < l.length) {len : Nat} {cp : Option Nat} : σ.ldInt k (Hdl.idx ⟨some (b, 0), len, cp⟩ i 1) = some (rd l i) := by
  have := nums_rd (row_nums r (cp := cp) rfl) h0 h1
  simpa [Hdl.idx] using this
theorem st_nums (r : σ.Row b 1 (numsL k l)) (hp : σ.prot ≤ b) {i : Int} (h0 : 0 ≤ i) (h1 : i < l.length) {x : Int} {len : Nat} {cp : Option Nat} :
    σ.stL (Hdl.idx ⟨some (b, 0), len, cp⟩ i 1) [.int k x] 0 = some (σ.setO b (.cells (numsL k (l.set i.toNat x)) true 1)) := by
  rw [st_row r hp h0 (by simpa using h1) rfl, numsL_set]
end
abbrev GrowN (k : IntKind) (σ : Store) (n : Nat) (h : Hdl) (l : List Int) : Prop := Grow σ n h 1 (numsL k l)
theorem growN_app {k : IntKind} {σ : Store} {n : Nat} {h : Hdl} {l : List Int} (g : GrowN k σ n h l) (hp : σ.prot ≤ n) (hn : n ≤ σ.objs.length) (x : Int) {bs : Nat} (hb : 0 < bs) (hb8 : bs ≤ 8) (hc : l.length < 2 ^ 42) :
    ∃ h' σ', Store.app (σ.push [.int k x] 1) h 1 bs [.int k x] 1 = some (h', σ') ∧ Kp n σ σ' ∧ GrowN k σ' n h' (l ++ [x]) := by
  obtain ⟨h', σ', e, kp, g'⟩ := Grow.app1 g hp hn (v := .int k x) rfl (bs := bs) hb (by
    have : (l.length + 1) * bs ≤ (l.length + 1) * 8 := Nat.mul_le_mul_left _ hb8
    simp only [numsL_length]; omega)
  exact ⟨h', σ', e, kp, by rw [GrowN, numsL_append]; exact g'⟩
theorem growN_appX {k : IntKind} {σ : Store} {n : Nat} {h : Hdl} {l : List Int} (g : GrowN k σ n h l) (hp : σ.prot ≤ n) (hn : n ≤ σ.objs.length) (x : Int) {bs : Nat} (hb : 0 < bs) (hb8 : bs ≤ 8) (hc : l.length < 2 ^ 42) :
    ∃ h' σ', Store.app (σ.push [.int k x] 1) h 1 bs [.int k x] 1 = some (h', σ') ∧ Kp n σ σ' ∧ GrowN k σ' n h' (l ++ [x]) ∧ (∀ b, b < σ.objs.length → h.row ≠ some b → σ'.objs[b]? = σ.objs[b]?) ∧ (h'.row = h.row ∨ ∀ b, h'.row = some b → σ.objs.length ≤ b) := by
  obtain ⟨h', σ', e, kp, g', f, r⟩ := Grow.app1X g hp hn (v := .int k x) rfl (bs := bs) hb (by
    have : (l.length + 1) * bs ≤ (l.length + 1) * 8 := Nat.mul_le_mul_left _ hb8
    simp only [numsL_length]; omega)
  exact ⟨h', σ', e, kp, by rw [GrowN, numsL_append]; exact g', f, r⟩
theorem growN_st {k : IntKind} {σ : Store} {n : Nat} {h : Hdl} {l : List Int} (g : GrowN k σ n h l) (hp : σ.prot ≤ n) {i : Int} (h0 : 0 ≤ i) (h1 : i < l.length) (x : Int) :
    ∃ σ', σ.stL (h.idx i 1) [.int k x] 0 = some σ' ∧ Kp n σ σ' ∧ GrowN k σ' n h (l.set i.toNat x) ∧ σ'.objs.length = σ.objs.length := by
  obtain ⟨σ', e, kp, g', hl⟩ := Grow.st g hp h0 (by simpa using h1) (v := .int k x) rfl
  exact ⟨σ', e, kp, by rw [GrowN, ← numsL_set]; exact g', hl⟩
theorem Grow.nums {k : IntKind} {σ : Store} {n : Nat} {h : Hdl} {l : List Int} (g : Grow σ n h 1 (numsL k l)) : Store.Nums k σ h l := g.sl
theorem Grow.has {σ : Store} {n : Nat} {h : Hdl} {es : Nat} {l : List AV} (g : Grow σ n h es l) : σ.Has h := fun b hb => by
  cases ha : h.a with
  | none => simp [Hdl.row, ha] at hb
  | some bo => obtain ⟨c, o⟩ := bo; simp [Hdl.row, ha] at hb; subst hb; exact (g.rowLt c o ha).2
theorem Store.Has.kp {σ σ' : Store} {h : Hdl} (s : σ.Has h) {n : Nat} (k : Kp n σ σ') : σ'.Has h := fun b hb => Nat.lt_of_lt_of_le (s b hb) k.len
/-- append([]T{}, l...). -/
theorem copy_app {σ : Store} {h : Hdl} {l : List AV} {bs : Nat} (s : σ.Sl h 1 l) (hp : σ.prot ≤ σ.objs.length) (ho : l.all AV.one = true) (hb : 0 < bs) (hc : l.length * bs ≤ 140737488355328) :
    ∃ h' σ', Store.readSl (σ.push [] 1) h 1 = some l ∧ Store.app (σ.push [] 1) ⟨some (σ.objs.length, 0), 0, some 0⟩ 1 bs l h.len = some (h', σ') ∧ Kp σ.objs.length σ σ' ∧ Grow σ' σ.objs.length h' 1 l := by
  have k := Kp.push [] 1 (σ := σ) (Nat.le_refl _)
  have hl := s.len
  have g0 : Grow (σ.push [] 1) σ.objs.length ⟨some (σ.objs.length, 0), 0, some 0⟩ 1 [] :=
    ⟨⟨by simp, .inl rfl⟩, ⟨fun b o e => by
      simp only [Option.some.injEq, Prod.mk.injEq] at e
      obtain ⟨rfl, rfl⟩ := e
      exact ⟨Nat.le_refl _, [], Store.Row.new, by simp, by simp⟩, by simp⟩⟩
  obtain ⟨h', σ', e, k', s', o', _⟩ := app_spec (xs := l) (by_ := bs) (m := h.len) g0.sl g0.own (by simpa using hp) (by simp) (by omega) (by omega) ho hb (by simp only []; rw [show 0 + h.len = l.length by omega]; exact hc)
  exact ⟨h', σ', (s.kp k).read, e, k.trans k', ⟨by simpa using s', o'⟩⟩
theorem numsL_one (k : IntKind) (l : List Int) : (numsL k l).all AV.one = true := by simp [numsL, AV.one]
theorem intsL_one (l : List Int) : (intsL l).all AV.one = true := by simp [intsL, AV.one]
theorem Store.Has.nil (σ : Store) : σ.Has Hdl.nil := fun b hb => by simp [Hdl.row, Hdl.nil] at hb
theorem nums_nil (k : IntKind) (σ : Store) : Store.Nums k σ Hdl.nil [] := ⟨by simp [Hdl.nil], .inl rfl⟩
theorem ints_nil (σ : Store) : σ.Ints Hdl.nil [] := ⟨by simp [Hdl.nil], .inl rfl⟩
/-- A part of a slice. -/
theorem sub_spec {σ : Store} {h : Hdl} {l : List AV} (s : σ.Sl h 1 l) (hh : σ.Has h) {lo hi : Option Int} (h0 : 0 ≤ lo.getD 0) (h1 : lo.getD 0 ≤ hi.getD h.len) (h2 : hi.getD h.len ≤ h.len) :
    ∃ h', σ.sub h 1 lo hi none = some h' ∧ σ.Sl h' 1 ((l.take (hi.getD h.len).toNat).drop (lo.getD 0).toNat) ∧ σ.Has h' ∧ h'.row = h.row := by
  have hl := s.len
  have hes : σ.esOk h 1 = true := by
    unfold Store.esOk
    cases ha : h.a with
    | none => rfl
    | some bo =>
      obtain ⟨b, o⟩ := bo
      rcases s.row with h1 | ⟨b', o', cs, rw, k1, k2, _⟩
      · simp [h1]
      · rw [ha] at k1; injection k1 with k1; injection k1 with k1 k1'; subst k1 k1'
        simp only [k2]
        cases Nat.beq h.len 0 <;> rfl
  have lhi : (hi.getD h.len).toNat ≤ l.length := by omega
  refine ⟨⟨h.a.map fun x => (x.1, x.2 + (lo.getD 0).toNat * 1), (hi.getD h.len).toNat - (lo.getD 0).toNat, h.cap.map (· - (lo.getD 0).toNat)⟩, ?_, ⟨?_, ?_⟩, fun b hb => hh b ?_, ?_⟩
  · unfold Store.sub
    rw [if_pos ⟨⟨hes, by simp, by simp⟩, ⟨by omega, by simpa using h2⟩, h0, h1⟩]
  · rw [List.length_drop, List.length_take, Nat.min_eq_left lhi]; simp
  · by_cases c : (hi.getD h.len).toNat - (lo.getD 0).toNat = 0
    · exact .inl c
    · rcases s.row with k0 | ⟨b, o, cs, rw, k1, k2, k3, k4⟩
      · omega
      · refine .inr ⟨b, o + (lo.getD 0).toNat * 1, cs, rw, by simp [k1], k2, ?_, ?_⟩
        · rw [List.length_drop, List.length_take, Nat.min_eq_left lhi]; omega
        · rw [List.length_drop, List.length_take, Nat.min_eq_left lhi, ← k4]
          rw [List.take_take, Nat.min_eq_left lhi, List.drop_take, List.drop_drop]
          simp
  · cases ha : h.a with
    | none => simp [Hdl.row, ha] at hb
    | some bo => simpa [Hdl.row, ha] using hb
  · cases ha : h.a with
    | none => simp [Hdl.row, ha]
    | some bo => simp [Hdl.row, ha]
end Go.Ab

/- Lists compared; what of a list has a property; which lists are right. -/
namespace Go.Ab
open Go Go.Proofs Go.Ab.Wd Go.Ab.Bs Go.Ab.Sai
set_option linter.unusedVariables false
set_option linter.unusedSimpArgs false
theorem wsucc {i n : Nat} (hi : i < n) (hn : n < 2 ^ 62) : IntKind.wrap .i64 ((i : Int) + 1) = (i + 1 : Nat) := wrap64 (by omega) (by omega)
theorem take_rd' {l : List Int} {i : Nat} (h : i < l.length) : l.take (i + 1) = l.take i ++ [rd l i] := take_rd h
theorem same_run {σ : Store} {h h' : Hdl} {a b : List Int} (ha : σ.Ints h a) (hb : σ.Ints h' b) (hn : a.length < 2 ^ 62) : Runs Try.prog 16 [.slice h, .slice h'] σ (.bool (decide (a = b))) σ := by
  refine Runs.intro (fn := Try.f16) (by kernel_rfl) (by kernel_rfl) ?_
  have la := ha.ilen
  have lb := hb.ilen
  by_cases c : a.length = b.length
  · obtain ⟨r, e, q⟩ := EvI.upX (f := fun k s => stepF Try.prog (gm Try.prog k) drawn k Try.f16 [1, 1, 0, 1, 0] [13, 12, 1, 0] s) a.length
      (fun i s => s = ([.int .i64 i, .int .i64 a.length, .slice h', .slice h], σ) ∧ a.take i = b.take i)
      (fun r => (r = (AX.ret, [(4, .bool false)], σ) ∧ a ≠ b) ∨ (r = (AX.exit 0, [], σ) ∧ a = b))
      (by
        rintro i s hi ⟨rfl, hp⟩
        have i0 : (0 : Int) ≤ i := by omega
        have i1 : (i : Int) < a.length := by omega
        have i2 : (i : Int) < b.length := by omega
        have w := wsucc hi hn
        by_cases e : rd a i = rd b i
        · exact .inl ⟨_, Ev.of fun k => by simp only [f16_L11010]; simp only [Option.bind_some, decide_eq_true_eq, decide_eq_false_iff_not, Bool.not_eq_true', Bool.not_true, Bool.not_false, Bool.false_eq_true, Bool.true_eq_false, Bool.not_eq_eq_eq_not, beq_self_eq_true, beqFT, beqTF, decide_true, decide_false, not_false_eq_true, not_true_eq_false, ne_eq, true_and, and_true, false_and, and_false, and_self, if_true, if_false, ite_true, ite_false, Bool.and_true, Bool.and_false, Bool.true_and, Bool.false_and, Bool.or_true, Bool.true_or, Bool.or_false, Bool.false_or, or_true, true_or, or_false, false_or, or_self, AV.asInt, AV.asBool, AV.asSl, AV.asPtr, AV.asFn, AV.asStr, AV.asMap, AV.asIfc, AV.item, List.length_cons, List.length_nil, List.getElem?_cons_zero, List.getElem?_cons_succ, Nat.zero_add, la, lb, i0, i1, i2, ha.rd i0 i1, hb.rd i0 i2, e, w], rfl, by rw [take_rd hi, take_rd (by omega), hp, e]⟩
        · exact .inr ⟨_, Ev.of fun k => by simp only [f16_L11010]; simp only [Option.bind_some, decide_eq_true_eq, decide_eq_false_iff_not, Bool.not_eq_true', Bool.not_true, Bool.not_false, Bool.false_eq_true, Bool.true_eq_false, Bool.not_eq_eq_eq_not, beq_self_eq_true, beqFT, beqTF, decide_true, decide_false, not_false_eq_true, not_true_eq_false, ne_eq, true_and, and_true, false_and, and_false, and_self, if_true, if_false, ite_true, ite_false, Bool.and_true, Bool.and_false, Bool.true_and, Bool.false_and, Bool.or_true, Bool.true_or, Bool.or_false, Bool.false_or, or_true, true_or, or_false, false_or, or_self, AV.asInt, AV.asBool, AV.asSl, AV.asPtr, AV.asFn, AV.asStr, AV.asMap, AV.asIfc, AV.item, List.length_cons, List.length_nil, List.getElem?_cons_zero, List.getElem?_cons_succ, Nat.zero_add, la, lb, i0, i1, i2, ha.rd i0 i1, hb.rd i0 i2, e, w], .inl ⟨rfl, fun h => e (by rw [h])⟩⟩)
      (by
        rintro s ⟨rfl, hp⟩
        refine ⟨_, Ev.of fun k => by simp only [f16_L11010]; simp only [Option.bind_some, decide_eq_true_eq, decide_eq_false_iff_not, Bool.not_eq_true', Bool.not_true, Bool.not_false, Bool.false_eq_true, Bool.true_eq_false, Bool.not_eq_eq_eq_not, beq_self_eq_true, beqFT, beqTF, decide_true, decide_false, not_false_eq_true, not_true_eq_false, ne_eq, true_and, and_true, false_and, and_false, and_self, if_true, if_false, ite_true, ite_false, Bool.and_true, Bool.and_false, Bool.true_and, Bool.false_and, Bool.or_true, Bool.true_or, Bool.or_false, Bool.false_or, or_true, true_or, or_false, false_or, or_self, AV.asInt, AV.asBool, AV.asSl, AV.asPtr, AV.asFn, AV.asStr, AV.asMap, AV.asIfc, AV.item, List.length_cons, List.length_nil, List.getElem?_cons_zero, List.getElem?_cons_succ, Nat.zero_add, Int.lt_irrefl], .inr ⟨rfl, ?_⟩⟩
        rw [List.take_of_length_le (Nat.le_refl _), List.take_of_length_le (by omega)] at hp; exact hp)
      (Nat.zero_le _) (s := ([.int .i64 0, .int .i64 a.length, .slice h', .slice h], σ)) ⟨rfl, by simp⟩
    rcases q with ⟨rfl, q⟩ | ⟨rfl, q⟩
    · rw [decide_eq_false q]
      refine (Ev.bind (loopF_ev e) (Ev.of fun k => f16_X11010_1 (gm Try.prog k) k σ _)).congr fun k => ?_
      rw [f16_eq]; simp only [Option.bind_some, decide_eq_true_eq, decide_eq_false_iff_not, Bool.not_eq_true', Bool.not_true, Bool.not_false, Bool.false_eq_true, Bool.true_eq_false, Bool.not_eq_eq_eq_not, beq_self_eq_true, beqFT, beqTF, decide_true, decide_false, not_false_eq_true, not_true_eq_false, ne_eq, true_and, and_true, false_and, and_false, and_self, if_true, if_false, ite_true, ite_false, Bool.and_true, Bool.and_false, Bool.true_and, Bool.false_and, Bool.or_true, Bool.true_or, Bool.or_false, Bool.false_or, or_true, true_or, or_false, false_or, or_self, AV.asInt, AV.asBool, AV.asSl, AV.asPtr, AV.asFn, AV.asStr, AV.asMap, AV.asIfc, AV.item, List.length_cons, List.length_nil, List.getElem?_cons_zero, List.getElem?_cons_succ, Nat.zero_add, la, lb, c]
    · rw [decide_eq_true q]
      refine (Ev.bind (loopF_ev e) (Ev.of fun k => f16_X11010_2 (gm Try.prog k) k σ)).congr fun k => ?_
      rw [f16_eq]; simp only [Option.bind_some, decide_eq_true_eq, decide_eq_false_iff_not, Bool.not_eq_true', Bool.not_true, Bool.not_false, Bool.false_eq_true, Bool.true_eq_false, Bool.not_eq_eq_eq_not, beq_self_eq_true, beqFT, beqTF, decide_true, decide_false, not_false_eq_true, not_true_eq_false, ne_eq, true_and, and_true, false_and, and_false, and_self, if_true, if_false, ite_true, ite_false, Bool.and_true, Bool.and_false, Bool.true_and, Bool.false_and, Bool.or_true, Bool.true_or, Bool.or_false, Bool.false_or, or_true, true_or, or_false, false_or, or_self, AV.asInt, AV.asBool, AV.asSl, AV.asPtr, AV.asFn, AV.asStr, AV.asMap, AV.asIfc, AV.item, List.length_cons, List.length_nil, List.getElem?_cons_zero, List.getElem?_cons_succ, Nat.zero_add, la, lb, c]
  · have : ¬ a = b := fun h => c (by rw [h])
    rw [decide_eq_false this]
    refine Ev.of fun k => ?_
    have c' : ¬ (a.length : Int) = b.length := by omega
    rw [f16_eq]; simp only [Option.bind_some, decide_eq_true_eq, decide_eq_false_iff_not, Bool.not_eq_true', Bool.not_true, Bool.not_false, Bool.false_eq_true, Bool.true_eq_false, Bool.not_eq_eq_eq_not, beq_self_eq_true, beqFT, beqTF, decide_true, decide_false, not_false_eq_true, not_true_eq_false, ne_eq, true_and, and_true, false_and, and_false, and_self, if_true, if_false, ite_true, ite_false, Bool.and_true, Bool.and_false, Bool.true_and, Bool.false_and, Bool.or_true, Bool.true_or, Bool.or_false, Bool.false_or, or_true, true_or, or_false, false_or, or_self, AV.asInt, AV.asBool, AV.asSl, AV.asPtr, AV.asFn, AV.asStr, AV.asMap, AV.asIfc, AV.item, List.length_cons, List.length_nil, List.getElem?_cons_zero, List.getElem?_cons_succ, Nat.zero_add, la, lb, c']
/-! ### slices.ContainsFunc -/
theorem indexFunc_run {σ : Store} {h : Hdl} {l : List Int} {g : FuncId} {a c : List AV} {p : Int → Bool} (hl : σ.Ints h l) (hn : l.length < 2 ^ 62) (hp : ∀ x ∈ l, Runs Try.prog g (a ++ [.int .i64 x] ++ c) σ (.bool (p x)) σ) :
    ∃ i : Int, Runs Try.prog 36 [.slice h, .func g a c] σ (.int .i64 i) σ ∧ decide (0 ≤ i) = l.any p := by
  have ll := hl.ilen
  obtain ⟨r, e, q⟩ := EvI.upX (f := fun k s => stepF Try.prog (gm Try.prog k) drawn k Try.f36 [1, 0, 1, 0] [8, 7, 1, 0] s) l.length
    (fun i s => s = ([.int .i64 i, .int .i64 l.length, .func g a c, .slice h], σ) ∧ ∀ x ∈ l.take i, p x = false)
    (fun r => (∃ i : Nat, r = (AX.ret, [(4, .int .i64 i)], σ) ∧ l.any p = true) ∨ (r = (AX.exit 0, [], σ) ∧ l.any p = false))
    (by
      rintro i s hi ⟨rfl, hq⟩
      have i0 : (0 : Int) ≤ i := by omega
      have i1 : (i : Int) < l.length := by omega
      have w := wsucc hi hn
      obtain ⟨k0, r0⟩ := hp _ (rd_mem i0 i1)
      cases e : p (rd l i) with
      | false =>
        rw [e] at r0
        refine .inl ⟨_, ⟨k0, fun k hk => ?_⟩, rfl, fun x hx => ?_⟩
        · have r0 := r0 k hk
          simp only at r0
          simp only [f36_L1010]; simp only [Option.bind_some, decide_eq_true_eq, decide_eq_false_iff_not, Bool.not_eq_true', Bool.not_true, Bool.not_false, Bool.false_eq_true, Bool.true_eq_false, Bool.not_eq_eq_eq_not, beq_self_eq_true, beqFT, beqTF, decide_true, decide_false, not_false_eq_true, not_true_eq_false, ne_eq, true_and, and_true, false_and, and_false, and_self, if_true, if_false, ite_true, ite_false, Bool.and_true, Bool.and_false, Bool.true_and, Bool.false_and, Bool.or_true, Bool.true_or, Bool.or_false, Bool.false_or, or_true, true_or, or_false, false_or, or_self, AV.asInt, AV.asBool, AV.asSl, AV.asPtr, AV.asFn, AV.asStr, AV.asMap, AV.asIfc, AV.item, List.length_cons, List.length_nil, List.getElem?_cons_zero, List.getElem?_cons_succ, Nat.zero_add, ll, i0, i1, hl.rd i0 i1, r0, w]
        · rw [take_rd hi] at hx
          rcases List.mem_append.1 hx with hx | hx
          · exact hq x hx
          · rw [List.mem_singleton] at hx; rw [hx]; exact e
      | true =>
        rw [e] at r0
        refine .inr ⟨_, ⟨k0, fun k hk => ?_⟩, .inl ⟨i, rfl, List.any_eq_true.2 ⟨_, rd_mem i0 i1, e⟩⟩⟩
        have r0 := r0 k hk
        simp only at r0
        simp only [f36_L1010]; simp only [Option.bind_some, decide_eq_true_eq, decide_eq_false_iff_not, Bool.not_eq_true', Bool.not_true, Bool.not_false, Bool.false_eq_true, Bool.true_eq_false, Bool.not_eq_eq_eq_not, beq_self_eq_true, beqFT, beqTF, decide_true, decide_false, not_false_eq_true, not_true_eq_false, ne_eq, true_and, and_true, false_and, and_false, and_self, if_true, if_false, ite_true, ite_false, Bool.and_true, Bool.and_false, Bool.true_and, Bool.false_and, Bool.or_true, Bool.true_or, Bool.or_false, Bool.false_or, or_true, true_or, or_false, false_or, or_self, AV.asInt, AV.asBool, AV.asSl, AV.asPtr, AV.asFn, AV.asStr, AV.asMap, AV.asIfc, AV.item, List.length_cons, List.length_nil, List.getElem?_cons_zero, List.getElem?_cons_succ, Nat.zero_add, ll, i0, i1, hl.rd i0 i1, r0, w])
    (by
      rintro s ⟨rfl, hq⟩
      refine ⟨_, Ev.of fun k => by simp only [f36_L1010]; simp only [Option.bind_some, decide_eq_true_eq, decide_eq_false_iff_not, Bool.not_eq_true', Bool.not_true, Bool.not_false, Bool.false_eq_true, Bool.true_eq_false, Bool.not_eq_eq_eq_not, beq_self_eq_true, beqFT, beqTF, decide_true, decide_false, not_false_eq_true, not_true_eq_false, ne_eq, true_and, and_true, false_and, and_false, and_self, if_true, if_false, ite_true, ite_false, Bool.and_true, Bool.and_false, Bool.true_and, Bool.false_and, Bool.or_true, Bool.true_or, Bool.or_false, Bool.false_or, or_true, true_or, or_false, false_or, or_self, AV.asInt, AV.asBool, AV.asSl, AV.asPtr, AV.asFn, AV.asStr, AV.asMap, AV.asIfc, AV.item, List.length_cons, List.length_nil, List.getElem?_cons_zero, List.getElem?_cons_succ, Nat.zero_add, Int.lt_irrefl], .inr ⟨rfl, ?_⟩⟩
      rw [List.take_length] at hq
      rw [Bool.eq_false_iff]; intro h
      obtain ⟨x, hx, hp⟩ := List.any_eq_true.1 h
      rw [hq x hx] at hp; cases hp)
    (Nat.zero_le _) (s := ([.int .i64 0, .int .i64 l.length, .func g a c, .slice h], σ)) ⟨rfl, by simp⟩
  rcases q with ⟨i, rfl, q⟩ | ⟨rfl, q⟩
  · refine ⟨i, Runs.intro (fn := Try.f36) (by kernel_rfl) (by kernel_rfl) ((Ev.bind (loopF_ev e) (Ev.of fun k => f36_X1010_1 (gm Try.prog k) k σ _)).congr fun k => by rw [f36_eq, ll]), ?_⟩
    rw [q]; simp
  · refine ⟨-1, Runs.intro (fn := Try.f36) (by kernel_rfl) (by kernel_rfl) ((Ev.bind (loopF_ev e) (Ev.of fun k => f36_X1010_2 (gm Try.prog k) k σ)).congr fun k => by rw [f36_eq, ll]), ?_⟩
    rw [q]; rfl
theorem containsFunc_run {σ : Store} {h : Hdl} {l : List Int} {g : FuncId} {a c : List AV} {p : Int → Bool} (hl : σ.Ints h l) (hn : l.length < 2 ^ 62) (hp : ∀ x ∈ l, Runs Try.prog g (a ++ [.int .i64 x] ++ c) σ (.bool (p x)) σ) :
    Runs Try.prog 31 [.slice h, .func g a c] σ (.bool (l.any p)) σ := by
  obtain ⟨i, ⟨k0, r⟩, e⟩ := indexFunc_run hl hn hp
  refine Runs.intro (fn := Try.f31) (by kernel_rfl) (by kernel_rfl) ⟨k0, fun k hk => ?_⟩
  have r := r k hk
  simp only at r
  simp only [f31_eq]
  simp only [Option.bind_some, decide_eq_true_eq, decide_eq_false_iff_not, Bool.not_eq_true', Bool.not_true, Bool.not_false, Bool.false_eq_true, Bool.true_eq_false, Bool.not_eq_eq_eq_not, beq_self_eq_true, beqFT, beqTF, decide_true, decide_false, not_false_eq_true, not_true_eq_false, ne_eq, true_and, and_true, false_and, and_false, and_self, if_true, if_false, ite_true, ite_false, Bool.and_true, Bool.and_false, Bool.true_and, Bool.false_and, Bool.or_true, Bool.true_or, Bool.or_false, Bool.false_or, or_true, true_or, or_false, false_or, or_self, AV.asInt, AV.asBool, AV.asSl, AV.asPtr, AV.asFn, AV.asStr, AV.asMap, AV.asIfc, AV.item, List.length_cons, List.length_nil, List.getElem?_cons_zero, List.getElem?_cons_succ, Nat.zero_add, r, e]
/-! ### slices.Compare -/
def cmpL : List Int → List Int → Int
  | [], [] => 0
  | [], _ :: _ => -1
  | _ :: _, [] => 1
  | x :: xs, y :: ys => if x < y then -1 else if y < x then 1 else cmpL xs ys
theorem isNaN_run (σ : Store) (x : Int) : Runs Try.prog 44 [.int .i64 x] σ (.bool false) σ :=
  Runs.intro (fn := Try.f44) (by kernel_rfl) (by kernel_rfl) (Ev.of fun k => by rw [f44_eq]; simp)
theorem cmp_run (σ : Store) (x y : Int) : Runs Try.prog 40 [.int .i64 x, .int .i64 y] σ (.int .i64 (if x < y then -1 else if y < x then 1 else 0)) σ := by
  obtain ⟨k1, r1⟩ := isNaN_run σ x
  obtain ⟨k2, r2⟩ := isNaN_run σ y
  refine Runs.intro (fn := Try.f40) (by kernel_rfl) (by kernel_rfl) ⟨k1 + k2, fun k hk => ?_⟩
  have r1 := r1 k (by omega)
  have r2 := r2 k (by omega)
  simp only at r1 r2
  simp only [f40_eq]
  by_cases c1 : x < y
  · simp only [Option.bind_some, decide_eq_true_eq, decide_eq_false_iff_not, Bool.not_eq_true', Bool.not_true, Bool.not_false, Bool.false_eq_true, Bool.true_eq_false, Bool.not_eq_eq_eq_not, beq_self_eq_true, beqFT, beqTF, decide_true, decide_false, not_false_eq_true, not_true_eq_false, ne_eq, true_and, and_true, false_and, and_false, and_self, if_true, if_false, ite_true, ite_false, Bool.and_true, Bool.and_false, Bool.true_and, Bool.false_and, Bool.or_true, Bool.true_or, Bool.or_false, Bool.false_or, or_true, true_or, or_false, false_or, or_self, AV.asInt, AV.asBool, AV.asSl, AV.asPtr, AV.asFn, AV.asStr, AV.asMap, AV.asIfc, AV.item, List.length_cons, List.length_nil, List.getElem?_cons_zero, List.getElem?_cons_succ, Nat.zero_add, r1, r2, c1]
  · by_cases c2 : y < x
    · simp only [Option.bind_some, decide_eq_true_eq, decide_eq_false_iff_not, Bool.not_eq_true', Bool.not_true, Bool.not_false, Bool.false_eq_true, Bool.true_eq_false, Bool.not_eq_eq_eq_not, beq_self_eq_true, beqFT, beqTF, decide_true, decide_false, not_false_eq_true, not_true_eq_false, ne_eq, true_and, and_true, false_and, and_false, and_self, if_true, if_false, ite_true, ite_false, Bool.and_true, Bool.and_false, Bool.true_and, Bool.false_and, Bool.or_true, Bool.true_or, Bool.or_false, Bool.false_or, or_true, true_or, or_false, false_or, or_self, AV.asInt, AV.asBool, AV.asSl, AV.asPtr, AV.asFn, AV.asStr, AV.asMap, AV.asIfc, AV.item, List.length_cons, List.length_nil, List.getElem?_cons_zero, List.getElem?_cons_succ, Nat.zero_add, r1, r2, c1, c2]
    · simp only [Option.bind_some, decide_eq_true_eq, decide_eq_false_iff_not, Bool.not_eq_true', Bool.not_true, Bool.not_false, Bool.false_eq_true, Bool.true_eq_false, Bool.not_eq_eq_eq_not, beq_self_eq_true, beqFT, beqTF, decide_true, decide_false, not_false_eq_true, not_true_eq_false, ne_eq, true_and, and_true, false_and, and_false, and_self, if_true, if_false, ite_true, ite_false, Bool.and_true, Bool.and_false, Bool.true_and, Bool.false_and, Bool.or_true, Bool.true_or, Bool.or_false, Bool.false_or, or_true, true_or, or_false, false_or, or_self, AV.asInt, AV.asBool, AV.asSl, AV.asPtr, AV.asFn, AV.asStr, AV.asMap, AV.asIfc, AV.item, List.length_cons, List.length_nil, List.getElem?_cons_zero, List.getElem?_cons_succ, Nat.zero_add, r1, r2, c1, c2]
theorem compare_run {σ : Store} {h h' : Hdl} {a b : List Int} (ha : σ.Ints h a) (hb : σ.Ints h' b) (hn : a.length < 2 ^ 62) : Runs Try.prog 34 [.slice h, .slice h'] σ (.int .i64 (cmpL a b)) σ := by
  have la := ha.ilen
  have lb := hb.ilen
  obtain ⟨r, e, q⟩ := EvI.upX (f := fun k s => stepF Try.prog (gm Try.prog k) drawn k Try.f34 [1, 0, 1, 0] [11, 10, 9, 1, 0] s) a.length
    (fun i s => s = ([.int .i64 i, .int .i64 a.length, .slice h, .slice h', .slice h], σ) ∧ i ≤ b.length ∧ cmpL (a.drop i) (b.drop i) = cmpL a b)
    (fun r => r = (AX.ret, [(4, .int .i64 (cmpL a b))], σ) ∨ (r = (AX.exit 0, [(1, .slice h'), (0, .slice h)], σ) ∧ cmpL a b = if a.length < b.length then -1 else 0))
    (by
      rintro i s hi ⟨rfl, hb', hp⟩
      have i0 : (0 : Int) ≤ i := by omega
      have i1 : (i : Int) < a.length := by omega
      have w := wsucc hi hn
      by_cases i2 : (i : Int) < b.length
      · have i2' : ¬ (b.length : Int) ≤ i := by omega
        obtain ⟨k0, r0⟩ := cmp_run σ (rd a i) (rd b i)
        rw [drop_rd hi, drop_rd (show i < b.length by omega), cmpL] at hp
        by_cases c1 : rd a i < rd b i
        · rw [if_pos c1] at hp r0
          refine .inr ⟨_, ⟨k0, fun k hk => ?_⟩, .inl (by rw [← hp])⟩
          have r0 := r0 k hk
          simp only at r0
          simp only [f34_L1010]; simp only [Option.bind_some, decide_eq_true_eq, decide_eq_false_iff_not, Bool.not_eq_true', Bool.not_true, Bool.not_false, Bool.false_eq_true, Bool.true_eq_false, Bool.not_eq_eq_eq_not, beq_self_eq_true, beqFT, beqTF, decide_true, decide_false, not_false_eq_true, not_true_eq_false, ne_eq, true_and, and_true, false_and, and_false, and_self, if_true, if_false, ite_true, ite_false, Bool.and_true, Bool.and_false, Bool.true_and, Bool.false_and, Bool.or_true, Bool.true_or, Bool.or_false, Bool.false_or, or_true, true_or, or_false, false_or, or_self, AV.asInt, AV.asBool, AV.asSl, AV.asPtr, AV.asFn, AV.asStr, AV.asMap, AV.asIfc, AV.item, List.length_cons, List.length_nil, List.getElem?_cons_zero, List.getElem?_cons_succ, Nat.zero_add, la, lb, i0, i1, i2, i2', ha.rd i0 i1, hb.rd i0 i2, r0, show ¬ (-1 : Int) = 0 by decide]
        · by_cases c2 : rd b i < rd a i
          · rw [if_neg c1, if_pos c2] at hp r0
            refine .inr ⟨_, ⟨k0, fun k hk => ?_⟩, .inl (by rw [← hp])⟩
            have r0 := r0 k hk
            simp only at r0
            simp only [f34_L1010]; simp only [Option.bind_some, decide_eq_true_eq, decide_eq_false_iff_not, Bool.not_eq_true', Bool.not_true, Bool.not_false, Bool.false_eq_true, Bool.true_eq_false, Bool.not_eq_eq_eq_not, beq_self_eq_true, beqFT, beqTF, decide_true, decide_false, not_false_eq_true, not_true_eq_false, ne_eq, true_and, and_true, false_and, and_false, and_self, if_true, if_false, ite_true, ite_false, Bool.and_true, Bool.and_false, Bool.true_and, Bool.false_and, Bool.or_true, Bool.true_or, Bool.or_false, Bool.false_or, or_true, true_or, or_false, false_or, or_self, AV.asInt, AV.asBool, AV.asSl, AV.asPtr, AV.asFn, AV.asStr, AV.asMap, AV.asIfc, AV.item, List.length_cons, List.length_nil, List.getElem?_cons_zero, List.getElem?_cons_succ, Nat.zero_add, la, lb, i0, i1, i2, i2', ha.rd i0 i1, hb.rd i0 i2, r0, show ¬ (1 : Int) = 0 by decide]
          · rw [if_neg c1, if_neg c2] at hp r0
            refine .inl ⟨_, ⟨k0, fun k hk => ?_⟩, rfl, by omega, hp⟩
            have r0 := r0 k hk
            simp only at r0
            simp only [f34_L1010]; simp only [Option.bind_some, decide_eq_true_eq, decide_eq_false_iff_not, Bool.not_eq_true', Bool.not_true, Bool.not_false, Bool.false_eq_true, Bool.true_eq_false, Bool.not_eq_eq_eq_not, beq_self_eq_true, beqFT, beqTF, decide_true, decide_false, not_false_eq_true, not_true_eq_false, ne_eq, true_and, and_true, false_and, and_false, and_self, if_true, if_false, ite_true, ite_false, Bool.and_true, Bool.and_false, Bool.true_and, Bool.false_and, Bool.or_true, Bool.true_or, Bool.or_false, Bool.false_or, or_true, true_or, or_false, false_or, or_self, AV.asInt, AV.asBool, AV.asSl, AV.asPtr, AV.asFn, AV.asStr, AV.asMap, AV.asIfc, AV.item, List.length_cons, List.length_nil, List.getElem?_cons_zero, List.getElem?_cons_succ, Nat.zero_add, la, lb, i0, i1, i2, i2', ha.rd i0 i1, hb.rd i0 i2, r0, w]
      · have i2' : (b.length : Int) ≤ i := by omega
        rw [drop_rd hi, List.drop_eq_nil_of_le (show b.length ≤ i by omega), cmpL] at hp
        exact .inr ⟨(AX.ret, [(4, .int .i64 1)], σ), Ev.of fun k => by simp only [f34_L1010]; simp only [Option.bind_some, decide_eq_true_eq, decide_eq_false_iff_not, Bool.not_eq_true', Bool.not_true, Bool.not_false, Bool.false_eq_true, Bool.true_eq_false, Bool.not_eq_eq_eq_not, beq_self_eq_true, beqFT, beqTF, decide_true, decide_false, not_false_eq_true, not_true_eq_false, ne_eq, true_and, and_true, false_and, and_false, and_self, if_true, if_false, ite_true, ite_false, Bool.and_true, Bool.and_false, Bool.true_and, Bool.false_and, Bool.or_true, Bool.true_or, Bool.or_false, Bool.false_or, or_true, true_or, or_false, false_or, or_self, AV.asInt, AV.asBool, AV.asSl, AV.asPtr, AV.asFn, AV.asStr, AV.asMap, AV.asIfc, AV.item, List.length_cons, List.length_nil, List.getElem?_cons_zero, List.getElem?_cons_succ, Nat.zero_add, la, lb, i0, i1, i2', ha.rd i0 i1], .inl (by rw [← hp])⟩)
    (by
      rintro s ⟨rfl, hb', hp⟩
      refine ⟨_, Ev.of fun k => by simp only [f34_L1010]; simp only [Option.bind_some, decide_eq_true_eq, decide_eq_false_iff_not, Bool.not_eq_true', Bool.not_true, Bool.not_false, Bool.false_eq_true, Bool.true_eq_false, Bool.not_eq_eq_eq_not, beq_self_eq_true, beqFT, beqTF, decide_true, decide_false, not_false_eq_true, not_true_eq_false, ne_eq, true_and, and_true, false_and, and_false, and_self, if_true, if_false, ite_true, ite_false, Bool.and_true, Bool.and_false, Bool.true_and, Bool.false_and, Bool.or_true, Bool.true_or, Bool.or_false, Bool.false_or, or_true, true_or, or_false, false_or, or_self, AV.asInt, AV.asBool, AV.asSl, AV.asPtr, AV.asFn, AV.asStr, AV.asMap, AV.asIfc, AV.item, List.length_cons, List.length_nil, List.getElem?_cons_zero, List.getElem?_cons_succ, Nat.zero_add, Int.lt_irrefl], .inr ⟨rfl, ?_⟩⟩
      rw [← hp, List.drop_eq_nil_of_le (Nat.le_refl a.length)]
      by_cases c : a.length < b.length
      · rw [if_pos c, drop_rd c, cmpL]
      · rw [if_neg c, List.drop_eq_nil_of_le (by omega), cmpL])
    (Nat.zero_le _) (s := ([.int .i64 0, .int .i64 a.length, .slice h, .slice h', .slice h], σ)) ⟨rfl, by omega, by simp⟩
  refine Runs.intro (fn := Try.f34) (by kernel_rfl) (by kernel_rfl) ?_
  rcases q with rfl | ⟨rfl, q⟩
  · exact (Ev.bind (loopF_ev e) (Ev.of fun k => f34_X1010_1 (gm Try.prog k) k σ _)).congr fun k => by rw [f34_eq, la]
  · refine (Ev.bind (loopF_ev e) (?_ : Ev (fun k => contF Try.prog (gm Try.prog k) drawn k Try.f34 [1, 0, 1, 0] (AX.exit 0, [(1, .slice h'), (0, .slice h)], σ)) _)).congr fun k => by rw [f34_eq, la]
    refine Ev.of fun k => ?_
    rw [f34_X1010_2, q, la, lb]
    by_cases c : a.length < b.length
    · have c' : (a.length : Int) < b.length := by omega
      simp only [Option.bind_some, decide_eq_true_eq, decide_eq_false_iff_not, Bool.not_eq_true', Bool.not_true, Bool.not_false, Bool.false_eq_true, Bool.true_eq_false, Bool.not_eq_eq_eq_not, beq_self_eq_true, beqFT, beqTF, decide_true, decide_false, not_false_eq_true, not_true_eq_false, ne_eq, true_and, and_true, false_and, and_false, and_self, if_true, if_false, ite_true, ite_false, Bool.and_true, Bool.and_false, Bool.true_and, Bool.false_and, Bool.or_true, Bool.true_or, Bool.or_false, Bool.false_or, or_true, true_or, or_false, false_or, or_self, AV.asInt, AV.asBool, AV.asSl, AV.asPtr, AV.asFn, AV.asStr, AV.asMap, AV.asIfc, AV.item, List.length_cons, List.length_nil, List.getElem?_cons_zero, List.getElem?_cons_succ, Nat.zero_add, c, c']
    · have c' : ¬ (a.length : Int) < b.length := by omega
      simp only [Option.bind_some, decide_eq_true_eq, decide_eq_false_iff_not, Bool.not_eq_true', Bool.not_true, Bool.not_false, Bool.false_eq_true, Bool.true_eq_false, Bool.not_eq_eq_eq_not, beq_self_eq_true, beqFT, beqTF, decide_true, decide_false, not_false_eq_true, not_true_eq_false, ne_eq, true_and, and_true, false_and, and_false, and_self, if_true, if_false, ite_true, ite_false, Bool.and_true, Bool.and_false, Bool.true_and, Bool.false_and, Bool.or_true, Bool.true_or, Bool.or_false, Bool.false_or, or_true, true_or, or_false, false_or, or_self, AV.asInt, AV.asBool, AV.asSl, AV.asPtr, AV.asFn, AV.asStr, AV.asMap, AV.asIfc, AV.item, List.length_cons, List.length_nil, List.getElem?_cons_zero, List.getElem?_cons_succ, Nat.zero_add, c, c']
end Go.Ab

/- Array; Right; Less; Least. -/
namespace Go.Ab
open Go Go.Proofs Go.Ab.Wd Go.Ab.Bs Go.Ab.Sai
set_option linter.unusedVariables false
set_option linter.unusedSimpArgs false
/-- May a list be sorted? -/
def okT (t : List Int) (al : Int) : Bool := decide (0 ≤ al) && decide (al ≤ 4194304) && decide (t.length ≤ 4194304) && !(t.any fun c => decide (c < 0) || decide (al ≤ c))
theorem okT_iff {t : List Int} {al : Int} : okT t al = true ↔ 0 ≤ al ∧ al ≤ 4194304 ∧ t.length ≤ 4194304 ∧ ∀ x ∈ t, 0 ≤ x ∧ x < al := by
  simp only [okT, Bool.and_eq_true, decide_eq_true_eq, Bool.not_eq_true', List.any_eq_false, Bool.or_eq_true, and_assoc]
  refine and_congr_right fun _ => and_congr_right fun _ => and_congr_right fun _ => ?_
  exact ⟨fun h x hx => by have := h x hx; omega, fun h x hx => by have := h x hx; omega⟩
theorem box_ld {σ : Store} {v : AV} : (σ.push [v] 1).cell (some (σ.objs.length, 0)) = some v := push_cell σ v
theorem array_c1_run {σ : Store} {b : Nat} {al : Int} (h : σ.ldInt .i64 (some (b, 0)) = some al) (x : Int) : Runs Try.prog 32 [.int .i64 x, .ptr (some (b, 0))] σ (.bool (decide (x < 0) || decide (al ≤ x))) σ := by
  refine Runs.intro (fn := Try.f32) (by kernel_rfl) (by kernel_rfl) (Ev.of fun k => ?_)
  rw [f32_eq]
  by_cases c : x < 0
  · simp [c]
  · simp [c, h]
theorem array_run {σ : Store} {h : Hdl} {t : List Int} {al : Int} (hT : σ.Ints h t) (hH : σ.Has h) (hp : σ.prot ≤ σ.objs.length) (hn : t.length < 2 ^ 62) :
    ∃ ho σ', Runs Try.prog 25 [.slice h, .int .i64 al] σ (.tuple [.slice ho, .int .i64 (if okT t al = true then 0 else 2)]) σ' ∧ Kp σ.objs.length σ σ' ∧ σ'.Ints ho (if okT t al = true then saOf t else []) ∧ σ'.Has ho ∧ ∀ b, ho.row = some b → σ.objs.length ≤ b := by
  have ll := hT.ilen
  obtain ⟨σ1, h1⟩ : ∃ x, x = σ.push [.int .i64 al] 1 := ⟨_, rfl⟩
  have k1 : Kp σ.objs.length σ σ1 := by rw [h1]; exact Kp.push _ _ (Nat.le_refl _)
  have e1 : σ1.ldInt .i64 (some (σ.objs.length, 0)) = some al := by rw [h1]; simp only [Store.ldInt, push_cell]; simp
  have hT1 : σ1.Ints h t := Store.Sl.kp hT k1
  have bad : okT t al = false → (∃ k0, ∀ k, k0 ≤ k → evBody Try.prog (gm Try.prog k) drawn k Try.f25 [.slice h, .int .i64 al] σ = some (.tuple [.slice Hdl.nil, .int .i64 2], σ1)) →
      ∃ ho σ', Runs Try.prog 25 [.slice h, .int .i64 al] σ (.tuple [.slice ho, .int .i64 (if okT t al = true then 0 else 2)]) σ' ∧ Kp σ.objs.length σ σ' ∧ σ'.Ints ho (if okT t al = true then saOf t else []) ∧ σ'.Has ho ∧ ∀ b, ho.row = some b → σ.objs.length ≤ b := by
    intro hb hr
    rw [if_neg (by rw [hb]; simp), if_neg (by rw [hb]; simp)]
    exact ⟨Hdl.nil, σ1, Runs.intro (fn := Try.f25) (by kernel_rfl) (by kernel_rfl) hr, k1, ints_nil _, Store.Has.nil _, fun b hb => by simp [Hdl.row, Hdl.nil] at hb⟩
  by_cases c1 : al < 0
  · exact bad (by simp [okT]; omega) ⟨0, fun k _ => by rw [f25_eq, ← h1]; simp only [Option.bind_some, decide_eq_true_eq, decide_eq_false_iff_not, Bool.not_eq_true', Bool.not_true, Bool.not_false, Bool.false_eq_true, Bool.true_eq_false, Bool.not_eq_eq_eq_not, beq_self_eq_true, beqFT, beqTF, decide_true, decide_false, not_false_eq_true, not_true_eq_false, ne_eq, true_and, and_true, false_and, and_false, and_self, if_true, if_false, ite_true, ite_false, Bool.and_true, Bool.and_false, Bool.true_and, Bool.false_and, Bool.or_true, Bool.true_or, Bool.or_false, Bool.false_or, or_true, true_or, or_false, false_or, or_self, AV.asInt, AV.asBool, AV.asSl, AV.asPtr, AV.asFn, AV.asStr, AV.asMap, AV.asIfc, AV.item, List.length_cons, List.length_nil, List.getElem?_cons_zero, List.getElem?_cons_succ, Nat.zero_add, e1, c1]⟩
  by_cases c2 : 4194304 < al
  · exact bad (by simp [okT]; omega) ⟨0, fun k _ => by rw [f25_eq, ← h1]; simp only [Option.bind_some, decide_eq_true_eq, decide_eq_false_iff_not, Bool.not_eq_true', Bool.not_true, Bool.not_false, Bool.false_eq_true, Bool.true_eq_false, Bool.not_eq_eq_eq_not, beq_self_eq_true, beqFT, beqTF, decide_true, decide_false, not_false_eq_true, not_true_eq_false, ne_eq, true_and, and_true, false_and, and_false, and_self, if_true, if_false, ite_true, ite_false, Bool.and_true, Bool.and_false, Bool.true_and, Bool.false_and, Bool.or_true, Bool.true_or, Bool.or_false, Bool.false_or, or_true, true_or, or_false, false_or, or_self, AV.asInt, AV.asBool, AV.asSl, AV.asPtr, AV.asFn, AV.asStr, AV.asMap, AV.asIfc, AV.item, List.length_cons, List.length_nil, List.getElem?_cons_zero, List.getElem?_cons_succ, Nat.zero_add, e1, c1, c2]⟩
  by_cases c3 : 4194304 < t.length
  · have c3' : (4194304 : Int) < t.length := by omega
    exact bad (by simp [okT]; omega) ⟨0, fun k _ => by rw [f25_eq, ← h1]; simp only [Option.bind_some, decide_eq_true_eq, decide_eq_false_iff_not, Bool.not_eq_true', Bool.not_true, Bool.not_false, Bool.false_eq_true, Bool.true_eq_false, Bool.not_eq_eq_eq_not, beq_self_eq_true, beqFT, beqTF, decide_true, decide_false, not_false_eq_true, not_true_eq_false, ne_eq, true_and, and_true, false_and, and_false, and_self, if_true, if_false, ite_true, ite_false, Bool.and_true, Bool.and_false, Bool.true_and, Bool.false_and, Bool.or_true, Bool.true_or, Bool.or_false, Bool.false_or, or_true, true_or, or_false, false_or, or_self, AV.asInt, AV.asBool, AV.asSl, AV.asPtr, AV.asFn, AV.asStr, AV.asMap, AV.asIfc, AV.item, List.length_cons, List.length_nil, List.getElem?_cons_zero, List.getElem?_cons_succ, Nat.zero_add, e1, c1, c2, ll, c3']⟩
  have c3' : ¬ (4194304 : Int) < t.length := by omega
  obtain ⟨k2, r2⟩ := containsFunc_run (g := 32) (a := []) (c := [.ptr (some (σ.objs.length, 0))]) hT1 hn (fun x _ => array_c1_run e1 x)
  by_cases c4 : (t.any fun c => decide (c < 0) || decide (al ≤ c)) = true
  · rw [c4] at r2
    refine bad (by simp only [okT, c4]; simp) ⟨k2, fun k hk => ?_⟩
    have r2 := r2 k hk
    simp only at r2
    rw [f25_eq, ← h1]; simp only [Option.bind_some, decide_eq_true_eq, decide_eq_false_iff_not, Bool.not_eq_true', Bool.not_true, Bool.not_false, Bool.false_eq_true, Bool.true_eq_false, Bool.not_eq_eq_eq_not, beq_self_eq_true, beqFT, beqTF, decide_true, decide_false, not_false_eq_true, not_true_eq_false, ne_eq, true_and, and_true, false_and, and_false, and_self, if_true, if_false, ite_true, ite_false, Bool.and_true, Bool.and_false, Bool.true_and, Bool.false_and, Bool.or_true, Bool.true_or, Bool.or_false, Bool.false_or, or_true, true_or, or_false, false_or, or_self, AV.asInt, AV.asBool, AV.asSl, AV.asPtr, AV.asFn, AV.asStr, AV.asMap, AV.asIfc, AV.item, List.length_cons, List.length_nil, List.getElem?_cons_zero, List.getElem?_cons_succ, Nat.zero_add, e1, c1, c2, ll, c3', r2]
  · have c4' : (t.any fun c => decide (c < 0) || decide (al ≤ c)) = false := by simpa using c4
    have hok : okT t al = true := by simp only [okT, c4']; simp; omega
    obtain ⟨g1, g2, g3, g4⟩ := okT_iff.1 hok
    rw [if_pos hok, if_pos hok]
    obtain ⟨σ2, ⟨k3, r3⟩, k, l3, i3, w3⟩ := sort_run t.length t al.toNat h σ1 (Nat.le_refl _) g3 (by omega) (fun x hx => by have := g4 x hx; omega) hT1 (by rw [k1.prot]; have := k1.len; omega) (fun b hb => Nat.lt_of_lt_of_le (hH b hb) k1.len)
    rw [show ((al.toNat : Nat) : Int) = al by omega] at r3
    refine ⟨_, σ2, Runs.intro (fn := Try.f25) (by kernel_rfl) (by kernel_rfl) ⟨k2 + k3, fun k hk => ?_⟩, k1.all k, i3, fun b hb => by simp [Hdl.row] at hb; omega, fun b hb => by simp [Hdl.row] at hb; have := k1.len; omega⟩
    have r2 := r2 k (by omega)
    have r3 := r3 k (by omega)
    simp only [c4'] at r2 r3
    simp only [f25_eq, ← h1]; simp only [Option.bind_some, decide_eq_true_eq, decide_eq_false_iff_not, Bool.not_eq_true', Bool.not_true, Bool.not_false, Bool.false_eq_true, Bool.true_eq_false, Bool.not_eq_eq_eq_not, beq_self_eq_true, beqFT, beqTF, decide_true, decide_false, not_false_eq_true, not_true_eq_false, ne_eq, true_and, and_true, false_and, and_false, and_self, if_true, if_false, ite_true, ite_false, Bool.and_true, Bool.and_false, Bool.true_and, Bool.false_and, Bool.or_true, Bool.true_or, Bool.or_false, Bool.false_or, or_true, true_or, or_false, false_or, or_self, AV.asInt, AV.asBool, AV.asSl, AV.asPtr, AV.asFn, AV.asStr, AV.asMap, AV.asIfc, AV.item, List.length_cons, List.length_nil, List.getElem?_cons_zero, List.getElem?_cons_succ, Nat.zero_add, e1, c1, c2, ll, c3', r2, r3]
/-! ### Right -/
theorem right_run {σ : Store} {h : Hdl} {t : List Int} {al : Int} (hT : σ.Ints h t) (hn : t.length < 2 ^ 62) : Runs Try.prog 24 [.slice h, .int .i64 al] σ (.bool (okT t al)) σ := by
  have ll := hT.ilen
  refine Runs.intro (fn := Try.f24) (by kernel_rfl) (by kernel_rfl) ?_
  by_cases c1 : al < 0
  · rw [show okT t al = false by simp [okT]; omega]
    exact Ev.of fun k => by rw [f24_eq]; simp only [Option.bind_some, decide_eq_true_eq, decide_eq_false_iff_not, Bool.not_eq_true', Bool.not_true, Bool.not_false, Bool.false_eq_true, Bool.true_eq_false, Bool.not_eq_eq_eq_not, beq_self_eq_true, beqFT, beqTF, decide_true, decide_false, not_false_eq_true, not_true_eq_false, ne_eq, true_and, and_true, false_and, and_false, and_self, if_true, if_false, ite_true, ite_false, Bool.and_true, Bool.and_false, Bool.true_and, Bool.false_and, Bool.or_true, Bool.true_or, Bool.or_false, Bool.false_or, or_true, true_or, or_false, false_or, or_self, AV.asInt, AV.asBool, AV.asSl, AV.asPtr, AV.asFn, AV.asStr, AV.asMap, AV.asIfc, AV.item, List.length_cons, List.length_nil, List.getElem?_cons_zero, List.getElem?_cons_succ, Nat.zero_add, c1]
  by_cases c2 : 4194304 < al
  · rw [show okT t al = false by simp [okT]; omega]
    exact Ev.of fun k => by rw [f24_eq]; simp only [Option.bind_some, decide_eq_true_eq, decide_eq_false_iff_not, Bool.not_eq_true', Bool.not_true, Bool.not_false, Bool.false_eq_true, Bool.true_eq_false, Bool.not_eq_eq_eq_not, beq_self_eq_true, beqFT, beqTF, decide_true, decide_false, not_false_eq_true, not_true_eq_false, ne_eq, true_and, and_true, false_and, and_false, and_self, if_true, if_false, ite_true, ite_false, Bool.and_true, Bool.and_false, Bool.true_and, Bool.false_and, Bool.or_true, Bool.true_or, Bool.or_false, Bool.false_or, or_true, true_or, or_false, false_or, or_self, AV.asInt, AV.asBool, AV.asSl, AV.asPtr, AV.asFn, AV.asStr, AV.asMap, AV.asIfc, AV.item, List.length_cons, List.length_nil, List.getElem?_cons_zero, List.getElem?_cons_succ, Nat.zero_add, c1, c2]
  by_cases c3 : 4194304 < t.length
  · have c3' : (4194304 : Int) < t.length := by omega
    rw [show okT t al = false by simp [okT]; omega]
    exact Ev.of fun k => by rw [f24_eq]; simp only [Option.bind_some, decide_eq_true_eq, decide_eq_false_iff_not, Bool.not_eq_true', Bool.not_true, Bool.not_false, Bool.false_eq_true, Bool.true_eq_false, Bool.not_eq_eq_eq_not, beq_self_eq_true, beqFT, beqTF, decide_true, decide_false, not_false_eq_true, not_true_eq_false, ne_eq, true_and, and_true, false_and, and_false, and_self, if_true, if_false, ite_true, ite_false, Bool.and_true, Bool.and_false, Bool.true_and, Bool.false_and, Bool.or_true, Bool.true_or, Bool.or_false, Bool.false_or, or_true, true_or, or_false, false_or, or_self, AV.asInt, AV.asBool, AV.asSl, AV.asPtr, AV.asFn, AV.asStr, AV.asMap, AV.asIfc, AV.item, List.length_cons, List.length_nil, List.getElem?_cons_zero, List.getElem?_cons_succ, Nat.zero_add, c1, c2, ll, c3']
  have c3' : ¬ (4194304 : Int) < t.length := by omega
  obtain ⟨r, e, q⟩ := EvI.upX (f := fun k s => stepF Try.prog (gm Try.prog k) drawn k Try.f24 [1, 1, 0, 1, 0] [20, 19, 18, 1] s) t.length
    (fun i s => s = ([.int .i64 i, .int .i64 t.length, .slice h, .int .i64 al], σ) ∧ ∀ x ∈ t.take i, 0 ≤ x ∧ x < al)
    (fun r => (r = (AX.ret, [(4, .bool false)], σ) ∧ okT t al = false) ∨ (r = (AX.exit 0, [], σ) ∧ okT t al = true))
    (by
      rintro i s hi ⟨rfl, hp⟩
      have i0 : (0 : Int) ≤ i := by omega
      have i1 : (i : Int) < t.length := by omega
      have w := wsucc hi hn
      have no : ¬ (0 ≤ rd t i ∧ rd t i < al) → okT t al = false := fun h => by
        rw [Bool.eq_false_iff]; intro e
        exact h ((okT_iff.1 e).2.2.2 _ (rd_mem i0 i1))
      by_cases c5 : rd t i < 0
      · exact .inr ⟨_, Ev.of fun k => by simp only [f24_L11010]; simp only [Option.bind_some, decide_eq_true_eq, decide_eq_false_iff_not, Bool.not_eq_true', Bool.not_true, Bool.not_false, Bool.false_eq_true, Bool.true_eq_false, Bool.not_eq_eq_eq_not, beq_self_eq_true, beqFT, beqTF, decide_true, decide_false, not_false_eq_true, not_true_eq_false, ne_eq, true_and, and_true, false_and, and_false, and_self, if_true, if_false, ite_true, ite_false, Bool.and_true, Bool.and_false, Bool.true_and, Bool.false_and, Bool.or_true, Bool.true_or, Bool.or_false, Bool.false_or, or_true, true_or, or_false, false_or, or_self, AV.asInt, AV.asBool, AV.asSl, AV.asPtr, AV.asFn, AV.asStr, AV.asMap, AV.asIfc, AV.item, List.length_cons, List.length_nil, List.getElem?_cons_zero, List.getElem?_cons_succ, Nat.zero_add, ll, i0, i1, hT.rd i0 i1, c5], .inl ⟨rfl, no (by omega)⟩⟩
      by_cases c6 : al ≤ rd t i
      · exact .inr ⟨_, Ev.of fun k => by simp only [f24_L11010]; simp only [Option.bind_some, decide_eq_true_eq, decide_eq_false_iff_not, Bool.not_eq_true', Bool.not_true, Bool.not_false, Bool.false_eq_true, Bool.true_eq_false, Bool.not_eq_eq_eq_not, beq_self_eq_true, beqFT, beqTF, decide_true, decide_false, not_false_eq_true, not_true_eq_false, ne_eq, true_and, and_true, false_and, and_false, and_self, if_true, if_false, ite_true, ite_false, Bool.and_true, Bool.and_false, Bool.true_and, Bool.false_and, Bool.or_true, Bool.true_or, Bool.or_false, Bool.false_or, or_true, true_or, or_false, false_or, or_self, AV.asInt, AV.asBool, AV.asSl, AV.asPtr, AV.asFn, AV.asStr, AV.asMap, AV.asIfc, AV.item, List.length_cons, List.length_nil, List.getElem?_cons_zero, List.getElem?_cons_succ, Nat.zero_add, ll, i0, i1, hT.rd i0 i1, c5, c6], .inl ⟨rfl, no (by omega)⟩⟩
      refine .inl ⟨_, Ev.of fun k => by simp only [f24_L11010]; simp only [Option.bind_some, decide_eq_true_eq, decide_eq_false_iff_not, Bool.not_eq_true', Bool.not_true, Bool.not_false, Bool.false_eq_true, Bool.true_eq_false, Bool.not_eq_eq_eq_not, beq_self_eq_true, beqFT, beqTF, decide_true, decide_false, not_false_eq_true, not_true_eq_false, ne_eq, true_and, and_true, false_and, and_false, and_self, if_true, if_false, ite_true, ite_false, Bool.and_true, Bool.and_false, Bool.true_and, Bool.false_and, Bool.or_true, Bool.true_or, Bool.or_false, Bool.false_or, or_true, true_or, or_false, false_or, or_self, AV.asInt, AV.asBool, AV.asSl, AV.asPtr, AV.asFn, AV.asStr, AV.asMap, AV.asIfc, AV.item, List.length_cons, List.length_nil, List.getElem?_cons_zero, List.getElem?_cons_succ, Nat.zero_add, ll, i0, i1, hT.rd i0 i1, c5, c6, w], rfl, fun x hx => ?_⟩
      rw [take_rd hi] at hx
      rcases List.mem_append.1 hx with hx | hx
      · exact hp x hx
      · rw [List.mem_singleton] at hx; omega)
    (by
      rintro s ⟨rfl, hp⟩
      rw [List.take_length] at hp
      exact ⟨_, Ev.of fun k => by simp only [f24_L11010]; simp only [Option.bind_some, decide_eq_true_eq, decide_eq_false_iff_not, Bool.not_eq_true', Bool.not_true, Bool.not_false, Bool.false_eq_true, Bool.true_eq_false, Bool.not_eq_eq_eq_not, beq_self_eq_true, beqFT, beqTF, decide_true, decide_false, not_false_eq_true, not_true_eq_false, ne_eq, true_and, and_true, false_and, and_false, and_self, if_true, if_false, ite_true, ite_false, Bool.and_true, Bool.and_false, Bool.true_and, Bool.false_and, Bool.or_true, Bool.true_or, Bool.or_false, Bool.false_or, or_true, true_or, or_false, false_or, or_self, AV.asInt, AV.asBool, AV.asSl, AV.asPtr, AV.asFn, AV.asStr, AV.asMap, AV.asIfc, AV.item, List.length_cons, List.length_nil, List.getElem?_cons_zero, List.getElem?_cons_succ, Nat.zero_add, Int.lt_irrefl], .inr ⟨rfl, okT_iff.2 ⟨by omega, by omega, by omega, hp⟩⟩⟩)
    (Nat.zero_le _) (s := ([.int .i64 0, .int .i64 t.length, .slice h, .int .i64 al], σ)) ⟨rfl, by simp⟩
  rcases q with ⟨rfl, q⟩ | ⟨rfl, q⟩
  · rw [q]
    refine (Ev.bind (loopF_ev e) (Ev.of fun k => f24_X11010_1 (gm Try.prog k) k σ _)).congr fun k => ?_
    rw [f24_eq]; simp only [Option.bind_some, decide_eq_true_eq, decide_eq_false_iff_not, Bool.not_eq_true', Bool.not_true, Bool.not_false, Bool.false_eq_true, Bool.true_eq_false, Bool.not_eq_eq_eq_not, beq_self_eq_true, beqFT, beqTF, decide_true, decide_false, not_false_eq_true, not_true_eq_false, ne_eq, true_and, and_true, false_and, and_false, and_self, if_true, if_false, ite_true, ite_false, Bool.and_true, Bool.and_false, Bool.true_and, Bool.false_and, Bool.or_true, Bool.true_or, Bool.or_false, Bool.false_or, or_true, true_or, or_false, false_or, or_self, AV.asInt, AV.asBool, AV.asSl, AV.asPtr, AV.asFn, AV.asStr, AV.asMap, AV.asIfc, AV.item, List.length_cons, List.length_nil, List.getElem?_cons_zero, List.getElem?_cons_succ, Nat.zero_add, c1, c2, ll, c3']
  · rw [q]
    refine (Ev.bind (loopF_ev e) (Ev.of fun k => f24_X11010_2 (gm Try.prog k) k σ)).congr fun k => ?_
    rw [f24_eq]; simp only [Option.bind_some, decide_eq_true_eq, decide_eq_false_iff_not, Bool.not_eq_true', Bool.not_true, Bool.not_false, Bool.false_eq_true, Bool.true_eq_false, Bool.not_eq_eq_eq_not, beq_self_eq_true, beqFT, beqTF, decide_true, decide_false, not_false_eq_true, not_true_eq_false, ne_eq, true_and, and_true, false_and, and_false, and_self, if_true, if_false, ite_true, ite_false, Bool.and_true, Bool.and_false, Bool.true_and, Bool.false_and, Bool.or_true, Bool.true_or, Bool.or_false, Bool.false_or, or_true, true_or, or_false, false_or, or_self, AV.asInt, AV.asBool, AV.asSl, AV.asPtr, AV.asFn, AV.asStr, AV.asMap, AV.asIfc, AV.item, List.length_cons, List.length_nil, List.getElem?_cons_zero, List.getElem?_cons_succ, Nat.zero_add, c1, c2, ll, c3']
/-! ### Less -/
theorem less_run {σ : Store} {h : Hdl} {t : List Int} (hT : σ.Ints h t) (hn : t.length < 2 ^ 61) {a b : Int} (a0 : 0 ≤ a) (a1 : a ≤ t.length) (b0 : 0 ≤ b) (b1 : b ≤ t.length) :
    Runs Try.prog 27 [.slice h, .int .i64 a, .int .i64 b] σ (.bool (decide (sl t a b))) σ := by
  have ll := hT.ilen
  have key : ∀ (m : Nat) (a b : Int), 0 ≤ a → a ≤ t.length → 0 ≤ b → b ≤ t.length → (t.length : Int) - a = m → ∃ r : LX, EvI (fun k s => stepF Try.prog (gm Try.prog k) drawn k Try.f27 [1, 0, 0] [2, 1, 0] s) ([.int .i64 b, .int .i64 a, .slice h], σ) r ∧
      ∀ k, contF Try.prog (gm Try.prog k) drawn k Try.f27 [1, 0, 0] r = some (.bool (decide (sl t a b)), σ) := by
    intro m
    induction m with
    | zero =>
      intro a b a0 a1 b0 b1 hm
      have ea : a = t.length := by omega
      subst ea
      refine ⟨(AX.exit 0, [(2, .int .i64 b), (1, .int .i64 t.length), (0, .slice h)], σ), EvI.done (Ev.of fun k => by simp only [f27_L100]; simp only [Option.bind_some, decide_eq_true_eq, decide_eq_false_iff_not, Bool.not_eq_true', Bool.not_true, Bool.not_false, Bool.false_eq_true, Bool.true_eq_false, Bool.not_eq_eq_eq_not, beq_self_eq_true, beqFT, beqTF, decide_true, decide_false, not_false_eq_true, not_true_eq_false, ne_eq, true_and, and_true, false_and, and_false, and_self, if_true, if_false, ite_true, ite_false, Bool.and_true, Bool.and_false, Bool.true_and, Bool.false_and, Bool.or_true, Bool.true_or, Bool.or_false, Bool.false_or, or_true, true_or, or_false, false_or, or_self, AV.asInt, AV.asBool, AV.asSl, AV.asPtr, AV.asFn, AV.asStr, AV.asMap, AV.asIfc, AV.item, List.length_cons, List.length_nil, List.getElem?_cons_zero, List.getElem?_cons_succ, Nat.zero_add, ll, Int.lt_irrefl]), fun k => ?_⟩
      rw [f27_X100_2]
      by_cases c : b < t.length
      · have := sl_end (t := t) (Int.le_refl _) b0 c
        simp only [Option.bind_some, decide_eq_true_eq, decide_eq_false_iff_not, Bool.not_eq_true', Bool.not_true, Bool.not_false, Bool.false_eq_true, Bool.true_eq_false, Bool.not_eq_eq_eq_not, beq_self_eq_true, beqFT, beqTF, decide_true, decide_false, not_false_eq_true, not_true_eq_false, ne_eq, true_and, and_true, false_and, and_false, and_self, if_true, if_false, ite_true, ite_false, Bool.and_true, Bool.and_false, Bool.true_and, Bool.false_and, Bool.or_true, Bool.true_or, Bool.or_false, Bool.false_or, or_true, true_or, or_false, false_or, or_self, AV.asInt, AV.asBool, AV.asSl, AV.asPtr, AV.asFn, AV.asStr, AV.asMap, AV.asIfc, AV.item, List.length_cons, List.length_nil, List.getElem?_cons_zero, List.getElem?_cons_succ, Nat.zero_add, ll, c, this]
      · have := not_sl_end (t := t) (p := (t.length : Int)) (q := b) (by omega)
        simp only [Option.bind_some, decide_eq_true_eq, decide_eq_false_iff_not, Bool.not_eq_true', Bool.not_true, Bool.not_false, Bool.false_eq_true, Bool.true_eq_false, Bool.not_eq_eq_eq_not, beq_self_eq_true, beqFT, beqTF, decide_true, decide_false, not_false_eq_true, not_true_eq_false, ne_eq, true_and, and_true, false_and, and_false, and_self, if_true, if_false, ite_true, ite_false, Bool.and_true, Bool.and_false, Bool.true_and, Bool.false_and, Bool.or_true, Bool.true_or, Bool.or_false, Bool.false_or, or_true, true_or, or_false, false_or, or_self, AV.asInt, AV.asBool, AV.asSl, AV.asPtr, AV.asFn, AV.asStr, AV.asMap, AV.asIfc, AV.item, List.length_cons, List.length_nil, List.getElem?_cons_zero, List.getElem?_cons_succ, Nat.zero_add, ll, c, this]
    | succ m ih =>
      intro a b a0 a1 b0 b1 hm
      have c1 : a < t.length := by omega
      by_cases c2 : b < t.length
      · have hs := sl_step a0 c1 b0 c2
        by_cases c3 : rd t a = rd t b
        · obtain ⟨r, e, q⟩ := ih (a + 1) (b + 1) (by omega) (by omega) (by omega) (by omega) (by omega)
          have w1 : IntKind.wrap .i64 (a + 1) = a + 1 := wrap64 (by omega) (by omega)
          have w2 : IntKind.wrap .i64 (b + 1) = b + 1 := wrap64 (by omega) (by omega)
          refine ⟨r, EvI.step (Ev.of fun k => by simp only [f27_L100]; simp only [Option.bind_some, decide_eq_true_eq, decide_eq_false_iff_not, Bool.not_eq_true', Bool.not_true, Bool.not_false, Bool.false_eq_true, Bool.true_eq_false, Bool.not_eq_eq_eq_not, beq_self_eq_true, beqFT, beqTF, decide_true, decide_false, not_false_eq_true, not_true_eq_false, ne_eq, true_and, and_true, false_and, and_false, and_self, if_true, if_false, ite_true, ite_false, Bool.and_true, Bool.and_false, Bool.true_and, Bool.false_and, Bool.or_true, Bool.true_or, Bool.or_false, Bool.false_or, or_true, true_or, or_false, false_or, or_self, AV.asInt, AV.asBool, AV.asSl, AV.asPtr, AV.asFn, AV.asStr, AV.asMap, AV.asIfc, AV.item, List.length_cons, List.length_nil, List.getElem?_cons_zero, List.getElem?_cons_succ, Nat.zero_add, ll, c1, c2, a0, b0, hT.rd a0 c1, hT.rd b0 c2, c3, w1, w2]) e, fun k => ?_⟩
          rw [q]
          have : sl t a b ↔ sl t (a + 1) (b + 1) := by rw [hs, c3]; simp
          simp only [this]
        · refine ⟨(AX.ret, [(6, .bool (decide (rd t a < rd t b)))], σ), EvI.done (Ev.of fun k => by simp only [f27_L100]; simp only [Option.bind_some, decide_eq_true_eq, decide_eq_false_iff_not, Bool.not_eq_true', Bool.not_true, Bool.not_false, Bool.false_eq_true, Bool.true_eq_false, Bool.not_eq_eq_eq_not, beq_self_eq_true, beqFT, beqTF, decide_true, decide_false, not_false_eq_true, not_true_eq_false, ne_eq, true_and, and_true, false_and, and_false, and_self, if_true, if_false, ite_true, ite_false, Bool.and_true, Bool.and_false, Bool.true_and, Bool.false_and, Bool.or_true, Bool.true_or, Bool.or_false, Bool.false_or, or_true, true_or, or_false, false_or, or_self, AV.asInt, AV.asBool, AV.asSl, AV.asPtr, AV.asFn, AV.asStr, AV.asMap, AV.asIfc, AV.item, List.length_cons, List.length_nil, List.getElem?_cons_zero, List.getElem?_cons_succ, Nat.zero_add, ll, c1, c2, a0, b0, hT.rd a0 c1, hT.rd b0 c2, c3]), fun k => ?_⟩
          rw [f27_X100_1]
          have : sl t a b ↔ rd t a < rd t b := by rw [hs]; simp [c3]
          simp only [this]
      · refine ⟨(AX.exit 0, [(2, .int .i64 b), (1, .int .i64 a), (0, .slice h)], σ), EvI.done (Ev.of fun k => by simp only [f27_L100]; simp only [Option.bind_some, decide_eq_true_eq, decide_eq_false_iff_not, Bool.not_eq_true', Bool.not_true, Bool.not_false, Bool.false_eq_true, Bool.true_eq_false, Bool.not_eq_eq_eq_not, beq_self_eq_true, beqFT, beqTF, decide_true, decide_false, not_false_eq_true, not_true_eq_false, ne_eq, true_and, and_true, false_and, and_false, and_self, if_true, if_false, ite_true, ite_false, Bool.and_true, Bool.and_false, Bool.true_and, Bool.false_and, Bool.or_true, Bool.true_or, Bool.or_false, Bool.false_or, or_true, true_or, or_false, false_or, or_self, AV.asInt, AV.asBool, AV.asSl, AV.asPtr, AV.asFn, AV.asStr, AV.asMap, AV.asIfc, AV.item, List.length_cons, List.length_nil, List.getElem?_cons_zero, List.getElem?_cons_succ, Nat.zero_add, ll, c1, c2]), fun k => ?_⟩
        rw [f27_X100_2]
        have c4 : ¬ a = t.length := by omega
        have := not_sl_end (t := t) (p := a) (q := b) (by omega)
        simp only [Option.bind_some, decide_eq_true_eq, decide_eq_false_iff_not, Bool.not_eq_true', Bool.not_true, Bool.not_false, Bool.false_eq_true, Bool.true_eq_false, Bool.not_eq_eq_eq_not, beq_self_eq_true, beqFT, beqTF, decide_true, decide_false, not_false_eq_true, not_true_eq_false, ne_eq, true_and, and_true, false_and, and_false, and_self, if_true, if_false, ite_true, ite_false, Bool.and_true, Bool.and_false, Bool.true_and, Bool.false_and, Bool.or_true, Bool.true_or, Bool.or_false, Bool.false_or, or_true, true_or, or_false, false_or, or_self, AV.asInt, AV.asBool, AV.asSl, AV.asPtr, AV.asFn, AV.asStr, AV.asMap, AV.asIfc, AV.item, List.length_cons, List.length_nil, List.getElem?_cons_zero, List.getElem?_cons_succ, Nat.zero_add, ll, c4, this]
  obtain ⟨r, e, q⟩ := key (t.length - a).toNat a b a0 a1 b0 b1 (by omega)
  refine Runs.intro (fn := Try.f27) (by kernel_rfl) (by kernel_rfl) ?_
  exact (Ev.bind (loopF_ev e) (Ev.of q)).congr fun k => by rw [f27_eq]
/-! ### Least -/
def leastOf (t : List Int) (a b : Int) : Int := if mn2 a b < 0 ∨ (t.length : Int) ≤ mx2 a b then 0 else cmpL (t.drop a.toNat) (t.drop b.toNat)
theorem intsL_drop (l : List Int) (n : Nat) : (intsL l).drop n = intsL (l.drop n) := by simp [intsL, List.map_drop]
theorem intsL_take (l : List Int) (n : Nat) : (intsL l).take n = intsL (l.take n) := by simp [intsL, List.map_take]
theorem least_run {σ : Store} {h : Hdl} {t : List Int} (hT : σ.Ints h t) (hH : σ.Has h) (hn : t.length < 2 ^ 62) (a b : Int) : Runs Try.prog 28 [.slice h, .int .i64 a, .int .i64 b] σ (.int .i64 (leastOf t a b)) σ := by
  have ll := hT.ilen
  refine Runs.intro (fn := Try.f28) (by kernel_rfl) (by kernel_rfl) ?_
  unfold leastOf
  by_cases c1 : mn2 a b < 0
  · rw [if_pos (.inl c1)]
    exact Ev.of fun k => by rw [f28_eq]; simp only [Option.bind_some, decide_eq_true_eq, decide_eq_false_iff_not, Bool.not_eq_true', Bool.not_true, Bool.not_false, Bool.false_eq_true, Bool.true_eq_false, Bool.not_eq_eq_eq_not, beq_self_eq_true, beqFT, beqTF, decide_true, decide_false, not_false_eq_true, not_true_eq_false, ne_eq, true_and, and_true, false_and, and_false, and_self, if_true, if_false, ite_true, ite_false, Bool.and_true, Bool.and_false, Bool.true_and, Bool.false_and, Bool.or_true, Bool.true_or, Bool.or_false, Bool.false_or, or_true, true_or, or_false, false_or, or_self, AV.asInt, AV.asBool, AV.asSl, AV.asPtr, AV.asFn, AV.asStr, AV.asMap, AV.asIfc, AV.item, List.length_cons, List.length_nil, List.getElem?_cons_zero, List.getElem?_cons_succ, Nat.zero_add, c1]
  by_cases c2 : (t.length : Int) ≤ mx2 a b
  · rw [if_pos (.inr c2)]
    exact Ev.of fun k => by rw [f28_eq]; simp only [Option.bind_some, decide_eq_true_eq, decide_eq_false_iff_not, Bool.not_eq_true', Bool.not_true, Bool.not_false, Bool.false_eq_true, Bool.true_eq_false, Bool.not_eq_eq_eq_not, beq_self_eq_true, beqFT, beqTF, decide_true, decide_false, not_false_eq_true, not_true_eq_false, ne_eq, true_and, and_true, false_and, and_false, and_self, if_true, if_false, ite_true, ite_false, Bool.and_true, Bool.and_false, Bool.true_and, Bool.false_and, Bool.or_true, Bool.true_or, Bool.or_false, Bool.false_or, or_true, true_or, or_false, false_or, or_self, AV.asInt, AV.asBool, AV.asSl, AV.asPtr, AV.asFn, AV.asStr, AV.asMap, AV.asIfc, AV.item, List.length_cons, List.length_nil, List.getElem?_cons_zero, List.getElem?_cons_succ, Nat.zero_add, c1, ll, c2]
  rw [if_neg (by rintro (h | h); exact c1 h; exact c2 h)]
  have d1 : 0 ≤ a ∧ a < t.length ∧ 0 ≤ b ∧ b < t.length := by
    unfold mn2 at c1; unfold mx2 at c2
    split at c1 <;> split at c2 <;> omega
  obtain ⟨h1, e1, s1, H1, _⟩ := sub_spec (lo := some a) (hi := none) hT hH (by simp; omega) (by simp; omega) (by simp)
  obtain ⟨h2, e2, s2, H2, _⟩ := sub_spec (lo := some b) (hi := none) hT hH (by simp; omega) (by simp; omega) (by simp)
  have i1 : σ.Ints h1 (t.drop a.toNat) := by
    simp only [Option.getD_some, Option.getD_none, Int.toNat_natCast, ll] at s1
    rw [List.take_of_length_le (by simp), intsL_drop] at s1; exact s1
  have i2 : σ.Ints h2 (t.drop b.toNat) := by
    simp only [Option.getD_some, Option.getD_none, Int.toNat_natCast, ll] at s2
    rw [List.take_of_length_le (by simp), intsL_drop] at s2; exact s2
  obtain ⟨k0, r⟩ := compare_run i1 i2 (by simp; omega)
  refine ⟨k0, fun k hk => ?_⟩
  have r := r k hk
  simp only at r
  simp only [f28_eq]; simp only [Option.bind_some, decide_eq_true_eq, decide_eq_false_iff_not, Bool.not_eq_true', Bool.not_true, Bool.not_false, Bool.false_eq_true, Bool.true_eq_false, Bool.not_eq_eq_eq_not, beq_self_eq_true, beqFT, beqTF, decide_true, decide_false, not_false_eq_true, not_true_eq_false, ne_eq, true_and, and_true, false_and, and_false, and_self, if_true, if_false, ite_true, ite_false, Bool.and_true, Bool.and_false, Bool.true_and, Bool.false_and, Bool.or_true, Bool.true_or, Bool.or_false, Bool.false_or, or_true, true_or, or_false, false_or, or_self, AV.asInt, AV.asBool, AV.asSl, AV.asPtr, AV.asFn, AV.asStr, AV.asMap, AV.asIfc, AV.item, List.length_cons, List.length_nil, List.getElem?_cons_zero, List.getElem?_cons_succ, Nat.zero_add, c1, ll, c2, e1, e2, r]
end Go.Ab

/- The reference's array. -/
namespace Go.Ab
open Go Go.Proofs Go.Ab.Wd Go.Ab.Bs Go.Ab.Sai
set_option linter.unusedVariables false
set_option linter.unusedSimpArgs false
theorem set_mid {l : List Int} {i : Nat} (h0 : 0 < i) (h : i ≤ l.length) (x : Int) : (l.take i ++ x :: l.drop i).set i (rd (l.take i ++ x :: l.drop i) ((i : Int) - 1)) = l.take (i - 1) ++ rd l ((i : Int) - 1) :: l.drop (i - 1) := by
  obtain ⟨j, rfl⟩ : ∃ j, i = j + 1 := ⟨i - 1, by omega⟩
  have e1 : rd (l.take (j + 1) ++ x :: l.drop (j + 1)) (((j + 1 : Nat) : Int) - 1) = rd l j := by
    rw [rd_append_left (by omega) (by simp; omega), show ((j + 1 : Nat) : Int) - 1 = (j : Int) by omega, rd_getElem (by simp; omega), rd_getElem (by omega)]
    simp
  rw [e1, List.set_append_right _ _ (by simp; omega), List.length_take, Nat.min_eq_left h, Nat.sub_self, List.set_cons_zero, take_rd (by omega), show ((j + 1 : Nat) : Int) - 1 = (j : Int) by omega, show j + 1 - 1 = j by omega, drop_rd (l := l) (i := j) (by omega)]
  simp
theorem set_at {l : List Int} {i : Nat} (h : i ≤ l.length) (x y : Int) : (l.take i ++ x :: l.drop i).set i y = l.take i ++ y :: l.drop i := by
  rw [List.set_append_right _ _ (by simp; omega), List.length_take, Nat.min_eq_left h, Nat.sub_self, List.set_cons_zero]
section
variable {σ0 : Store} {ht : Hdl} {t : List Int}
theorem ref9_find (hT : σ0.Ints ht t) (hn : t.length < 2 ^ 41) {σ : Store} (k0 : Kp σ0.objs.length σ0 σ) {n : Nat} {h : Hdl} {p : Nat} (hp : p < t.length) (g : GrowI σ n h (saUpto t p)) {a b : Int} :
    EvI (fun k s => stepF Try.prog (gm Try.prog k) drawn k Try.f19 [1, 1, 0, 1, 0, 0, 1, 1, 0, 0, 1, 1, 0, 0] [9, 8, 5, 4, 3, 0] s)
      ([.int .i64 a, .int .i64 b, .int .i64 0, .int .i64 p, .slice h, .slice ht], σ) (AX.exit 2, [(9, .int .i64 a), (8, .int .i64 b), (5, .int .i64 (lessN t p (saUpto t p))), (4, .int .i64 p), (3, .slice h), (0, .slice ht)], σ) := by
  have S := srt_upto t p (by omega)
  have lo : ((saUpto t p).length : Int) = p := S.len (by omega)
  have ll := g.ints.ilen
  have hT1 : σ.Ints ht t := Store.Sl.kp hT k0
  obtain ⟨r, e, q⟩ := EvI.upX (f := fun k s => stepF Try.prog (gm Try.prog k) drawn k Try.f19 [1, 1, 0, 1, 0, 0, 1, 1, 0, 0, 1, 1, 0, 0] [9, 8, 5, 4, 3, 0] s) (saUpto t p).length
    (fun i s => s = ([.int .i64 a, .int .i64 b, .int .i64 i, .int .i64 p, .slice h, .slice ht], σ) ∧ lessN t p (saUpto t p) = i + lessN t p ((saUpto t p).drop i))
    (fun r => r = (AX.exit 2, [(9, .int .i64 a), (8, .int .i64 b), (5, .int .i64 (lessN t p (saUpto t p))), (4, .int .i64 p), (3, .slice h), (0, .slice ht)], σ))
    (by
      rintro i s hi ⟨rfl, hq⟩
      have i0 : (0 : Int) ≤ i := by omega
      have i1 : (i : Int) < (saUpto t p).length := by omega
      have w : IntKind.wrap .i64 ((i : Int) + 1) = (i + 1 : Nat) := wrap64 (by omega) (by omega)
      have rx := S.rng _ (rd_mem i0 i1)
      obtain ⟨k1, r1⟩ := less_run hT1 (by omega) (a := rd (saUpto t p) i) (b := p) rx.1 (by omega) (by omega) (by omega)
      rw [drop_rd hi, lessN] at hq
      by_cases c : sl t (rd (saUpto t p) i) p
      · rw [if_pos c] at hq
        refine .inl ⟨_, ⟨k1, fun k hk => ?_⟩, rfl, by omega⟩
        have r1 := r1 k hk
        simp only [c, decide_true] at r1
        simp only [f19_L11010011001100]; simp only [Option.bind_some, decide_eq_true_eq, decide_eq_false_iff_not, Bool.not_eq_true', Bool.not_true, Bool.not_false, Bool.false_eq_true, Bool.true_eq_false, Bool.not_eq_eq_eq_not, beq_self_eq_true, beqFT, beqTF, decide_true, decide_false, not_false_eq_true, not_true_eq_false, ne_eq, true_and, and_true, false_and, and_false, and_self, if_true, if_false, ite_true, ite_false, Bool.and_true, Bool.and_false, Bool.true_and, Bool.false_and, Bool.or_true, Bool.true_or, Bool.or_false, Bool.false_or, or_true, true_or, or_false, false_or, or_self, AV.asInt, AV.asBool, AV.asSl, AV.asPtr, AV.asFn, AV.asStr, AV.asMap, AV.asIfc, AV.item, List.length_cons, List.length_nil, List.getElem?_cons_zero, List.getElem?_cons_succ, Nat.zero_add, ll, i0, i1, g.ints.rd i0 i1, r1, w]
      · rw [if_neg c] at hq
        refine .inr ⟨_, ⟨k1, fun k hk => ?_⟩, rfl⟩
        have r1 := r1 k hk
        simp only [c, decide_false] at r1
        simp only [f19_L11010011001100]; simp only [Option.bind_some, decide_eq_true_eq, decide_eq_false_iff_not, Bool.not_eq_true', Bool.not_true, Bool.not_false, Bool.false_eq_true, Bool.true_eq_false, Bool.not_eq_eq_eq_not, beq_self_eq_true, beqFT, beqTF, decide_true, decide_false, not_false_eq_true, not_true_eq_false, ne_eq, true_and, and_true, false_and, and_false, and_self, if_true, if_false, ite_true, ite_false, Bool.and_true, Bool.and_false, Bool.true_and, Bool.false_and, Bool.or_true, Bool.true_or, Bool.or_false, Bool.false_or, or_true, true_or, or_false, false_or, or_self, AV.asInt, AV.asBool, AV.asSl, AV.asPtr, AV.asFn, AV.asStr, AV.asMap, AV.asIfc, AV.item, List.length_cons, List.length_nil, List.getElem?_cons_zero, List.getElem?_cons_succ, Nat.zero_add, ll, i0, i1, g.ints.rd i0 i1, r1, hq, Nat.add_zero])
    (by
      rintro s ⟨rfl, hq⟩
      rw [List.drop_length, lessN, Nat.add_zero] at hq
      refine ⟨_, Ev.of fun k => by simp only [f19_L11010011001100]; simp only [Option.bind_some, decide_eq_true_eq, decide_eq_false_iff_not, Bool.not_eq_true', Bool.not_true, Bool.not_false, Bool.false_eq_true, Bool.true_eq_false, Bool.not_eq_eq_eq_not, beq_self_eq_true, beqFT, beqTF, decide_true, decide_false, not_false_eq_true, not_true_eq_false, ne_eq, true_and, and_true, false_and, and_false, and_self, if_true, if_false, ite_true, ite_false, Bool.and_true, Bool.and_false, Bool.true_and, Bool.false_and, Bool.or_true, Bool.true_or, Bool.or_false, Bool.false_or, or_true, true_or, or_false, false_or, or_self, AV.asInt, AV.asBool, AV.asSl, AV.asPtr, AV.asFn, AV.asStr, AV.asMap, AV.asIfc, AV.item, List.length_cons, List.length_nil, List.getElem?_cons_zero, List.getElem?_cons_succ, Nat.zero_add, ll, Int.lt_irrefl, hq], rfl⟩)
    (Nat.zero_le _) (s := ([.int .i64 a, .int .i64 b, .int .i64 0, .int .i64 p, .slice h, .slice ht], σ)) ⟨rfl, by simp⟩
  subst q; exact e
theorem ref9_shift {σ : Store} {n : Nat} {h : Hdl} {o : List Int} {at_ : Nat} {a b p : Int} (hpr : σ.prot ≤ n) (ho : o.length < 2 ^ 41) (ha : at_ ≤ o.length) (m : Nat) : ∀ (σ1 : Store) (x : Int), at_ + m ≤ o.length → Kp n σ σ1 → GrowI σ1 n h (o.take (at_ + m) ++ x :: o.drop (at_ + m)) →
    ∃ σ2 y, EvI (fun k s => stepF Try.prog (gm Try.prog k) drawn k Try.f19 [1, 1, 0, 1, 0, 0, 1, 1, 0, 0, 1, 1, 1, 1, 0, 1, 0] [9, 8, 6, 5, 4, 3, 0] s)
      ([.int .i64 a, .int .i64 b, .int .i64 (at_ + m : Nat), .int .i64 at_, .int .i64 p, .slice h, .slice ht], σ1) (AX.exit 4, [(9, .int .i64 a), (8, .int .i64 b), (5, .int .i64 at_), (4, .int .i64 p), (3, .slice h), (0, .slice ht)], σ2) ∧
      Kp n σ σ2 ∧ GrowI σ2 n h (o.take at_ ++ y :: o.drop at_) := by
  induction m with
  | zero =>
    intro σ1 x hm k1 g
    exact ⟨σ1, x, EvI.done (Ev.of fun k => by simp only [f19_L11010011001111010]; simp only [Option.bind_some, decide_eq_true_eq, decide_eq_false_iff_not, Bool.not_eq_true', Bool.not_true, Bool.not_false, Bool.false_eq_true, Bool.true_eq_false, Bool.not_eq_eq_eq_not, beq_self_eq_true, beqFT, beqTF, decide_true, decide_false, not_false_eq_true, not_true_eq_false, ne_eq, true_and, and_true, false_and, and_false, and_self, if_true, if_false, ite_true, ite_false, Bool.and_true, Bool.and_false, Bool.true_and, Bool.false_and, Bool.or_true, Bool.true_or, Bool.or_false, Bool.false_or, or_true, true_or, or_false, false_or, or_self, AV.asInt, AV.asBool, AV.asSl, AV.asPtr, AV.asFn, AV.asStr, AV.asMap, AV.asIfc, AV.item, List.length_cons, List.length_nil, List.getElem?_cons_zero, List.getElem?_cons_succ, Nat.zero_add, Nat.add_zero, Int.lt_irrefl]), k1, g⟩
  | succ m ih =>
    intro σ1 x hm k1 g
    have ll := g.ints.ilen
    have lL : (o.take (at_ + (m + 1)) ++ x :: o.drop (at_ + (m + 1))).length = o.length + 1 := by simp; omega
    have w : IntKind.wrap .i64 (((at_ + (m + 1) : Nat) : Int) - 1) = ((at_ + m : Nat) : Int) := by rw [wrap64 (by omega) (by omega)]; omega
    have c1 : (at_ : Int) < (at_ + (m + 1) : Nat) := by omega
    have c2 : (0 : Int) ≤ (at_ + m : Nat) := by omega
    have c3 : ((at_ + m : Nat) : Int) < h.len := by omega
    have c4 : (0 : Int) ≤ (at_ + (m + 1) : Nat) := by omega
    have c5 : ((at_ + (m + 1) : Nat) : Int) < h.len := by omega
    have r1 := g.ints.rd c2 (by omega)
    obtain ⟨σ2, e2, k2, g2, _⟩ := growN_st (k := .i64) g (by rw [k1.prot]; exact hpr) c4 (by omega) (rd (o.take (at_ + (m + 1)) ++ x :: o.drop (at_ + (m + 1))) ((at_ + m : Nat) : Int))
    have sm := set_mid (l := o) (i := at_ + (m + 1)) (by omega) hm x
    rw [show ((at_ + (m + 1) : Nat) : Int) - 1 = ((at_ + m : Nat) : Int) by omega, show at_ + (m + 1) - 1 = at_ + m by omega] at sm
    rw [show ((at_ + (m + 1) : Nat) : Int).toNat = at_ + (m + 1) by omega, sm] at g2
    obtain ⟨σ3, y, e3, k3, g3⟩ := ih σ2 _ (by omega) (k1.trans k2) g2
    exact ⟨σ3, y, EvI.step (Ev.of fun k => by simp only [f19_L11010011001111010]; simp only [Option.bind_some, decide_eq_true_eq, decide_eq_false_iff_not, Bool.not_eq_true', Bool.not_true, Bool.not_false, Bool.false_eq_true, Bool.true_eq_false, Bool.not_eq_eq_eq_not, beq_self_eq_true, beqFT, beqTF, decide_true, decide_false, not_false_eq_true, not_true_eq_false, ne_eq, true_and, and_true, false_and, and_false, and_self, if_true, if_false, ite_true, ite_false, Bool.and_true, Bool.and_false, Bool.true_and, Bool.false_and, Bool.or_true, Bool.true_or, Bool.or_false, Bool.false_or, or_true, true_or, or_false, false_or, or_self, AV.asInt, AV.asBool, AV.asSl, AV.asPtr, AV.asFn, AV.asStr, AV.asMap, AV.asIfc, AV.item, List.length_cons, List.length_nil, List.getElem?_cons_zero, List.getElem?_cons_succ, Nat.zero_add, c1, w, c2, c3, c4, c5, r1, e2]) e3, k3, g3⟩
theorem ref9_array (hT : σ0.Ints ht t) (hn : t.length < 2 ^ 41) (hpr : σ0.prot ≤ σ0.objs.length) :
    ∃ ho σ', Runs Try.prog 19 [.slice ht] σ0 (.slice ho) σ' ∧ Kp σ0.objs.length σ0 σ' ∧ GrowI σ' σ0.objs.length ho (saOf t) := by
  have lt := hT.ilen
  obtain ⟨r, e, ho, σ', rfl, k', g'⟩ := EvI.up (f := fun k s => stepF Try.prog (gm Try.prog k) drawn k Try.f19 [1, 1, 0, 1, 0] [9, 8, 3, 0] s) t.length
    (fun i s => ∃ h σ1, s = ([.int .i64 i, .int .i64 t.length, .slice h, .slice ht], σ1) ∧ Kp σ0.objs.length σ0 σ1 ∧ GrowI σ1 σ0.objs.length h (saUpto t i))
    (fun r => ∃ h σ1, r = (AX.exit 0, [(3, .slice h)], σ1) ∧ Kp σ0.objs.length σ0 σ1 ∧ GrowI σ1 σ0.objs.length h (saOf t))
    (by
      rintro i s hi ⟨h, σ1, rfl, k1, g⟩
      have i1 : (i : Int) < t.length := by omega
      have S := srt_upto t i (by omega)
      have lo : ((saUpto t i).length : Int) = i := S.len (by omega)
      have lN := (lessN_spec t i _ S.ord).1
      have w : IntKind.wrap .i64 ((i : Int) + 1) = (i + 1 : Nat) := wrap64 (by omega) (by omega)
      obtain ⟨n1, e1⟩ := loopF_ev (ref9_find (a := i) (b := t.length) hT hn k1 hi g)
      obtain ⟨h2, σ2, e2, k2, g2⟩ := g.app (by rw [k1.prot]; exact hpr) k1.len 0 (by omega)
      have l2 := g2.ints.ilen
      have g2' : GrowI σ2 σ0.objs.length h2 ((saUpto t i).take (lessN t i (saUpto t i) + ((saUpto t i).length - lessN t i (saUpto t i))) ++ 0 :: (saUpto t i).drop (lessN t i (saUpto t i) + ((saUpto t i).length - lessN t i (saUpto t i)))) := by
        rw [show lessN t i (saUpto t i) + ((saUpto t i).length - lessN t i (saUpto t i)) = (saUpto t i).length by omega, List.take_length, List.drop_length]; exact g2
      obtain ⟨σ3, y, e3, k3, g3⟩ := ref9_shift (σ := σ2) (ht := ht) (a := i) (b := t.length) (p := i) (at_ := lessN t i (saUpto t i)) (by rw [k2.prot, k1.prot]; exact hpr) (by omega) lN _ σ2 0 (by omega) (Kp.refl _ _) g2'
      obtain ⟨n3, e3⟩ := loopF_ev e3
      have l3 := g3.ints.ilen
      obtain ⟨σ4, e4, k4, g4, _⟩ := growN_st (k := .i64) g3 (by rw [k3.prot, k2.prot, k1.prot]; exact hpr) (i := (lessN t i (saUpto t i) : Int)) (by omega) (by simp; omega) (i : Int)
      rw [show (((lessN t i (saUpto t i) : Nat) : Int)).toNat = lessN t i (saUpto t i) by omega, set_at lN] at g4
      refine ⟨_, ⟨n1 + n3, fun k hk => ?_⟩, h2, σ4, rfl, (k1.trans k2).trans (k3.trans k4), g4⟩
      have e1 := e1 k (by omega)
      have e3 := e3 k (by omega)
      simp only at e1 e3
      simp only [f19_L11010]
      simp only [Option.bind_some, decide_eq_true_eq, decide_eq_false_iff_not, Bool.not_eq_true', Bool.not_true, Bool.not_false, Bool.false_eq_true, Bool.true_eq_false, Bool.not_eq_eq_eq_not, beq_self_eq_true, beqFT, beqTF, decide_true, decide_false, not_false_eq_true, not_true_eq_false, ne_eq, true_and, and_true, false_and, and_false, and_self, if_true, if_false, ite_true, ite_false, Bool.and_true, Bool.and_false, Bool.true_and, Bool.false_and, Bool.or_true, Bool.true_or, Bool.or_false, Bool.false_or, or_true, true_or, or_false, false_or, or_self, AV.asInt, AV.asBool, AV.asSl, AV.asPtr, AV.asFn, AV.asStr, AV.asMap, AV.asIfc, AV.item, List.length_cons, List.length_nil, List.getElem?_cons_zero, List.getElem?_cons_succ, Nat.zero_add, i1, e1]
      rw [f19_X11010011001100_1]
      have w2 : IntKind.wrap .i64 (((h2.len : Nat) : Int) - 1) = ((lessN t i (saUpto t i) + ((saUpto t i).length - lessN t i (saUpto t i)) : Nat) : Int) := by
        rw [wrap64 (by simp at l2; omega) (by simp at l2; omega)]; simp at l2; omega
      simp only [Option.bind_some, decide_eq_true_eq, decide_eq_false_iff_not, Bool.not_eq_true', Bool.not_true, Bool.not_false, Bool.false_eq_true, Bool.true_eq_false, Bool.not_eq_eq_eq_not, beq_self_eq_true, beqFT, beqTF, decide_true, decide_false, not_false_eq_true, not_true_eq_false, ne_eq, true_and, and_true, false_and, and_false, and_self, if_true, if_false, ite_true, ite_false, Bool.and_true, Bool.and_false, Bool.true_and, Bool.false_and, Bool.or_true, Bool.true_or, Bool.or_false, Bool.false_or, or_true, true_or, or_false, false_or, or_self, AV.asInt, AV.asBool, AV.asSl, AV.asPtr, AV.asFn, AV.asStr, AV.asMap, AV.asIfc, AV.item, List.length_cons, List.length_nil, List.getElem?_cons_zero, List.getElem?_cons_succ, Nat.zero_add, read1, e2, w2, e3]
      rw [f19_X11010011001111010_1]
      have c1 : (0 : Int) ≤ lessN t i (saUpto t i) := by omega
      have c2 : ((lessN t i (saUpto t i) : Nat) : Int) < h2.len := by simp at l2; omega
      simp only [Option.bind_some, decide_eq_true_eq, decide_eq_false_iff_not, Bool.not_eq_true', Bool.not_true, Bool.not_false, Bool.false_eq_true, Bool.true_eq_false, Bool.not_eq_eq_eq_not, beq_self_eq_true, beqFT, beqTF, decide_true, decide_false, not_false_eq_true, not_true_eq_false, ne_eq, true_and, and_true, false_and, and_false, and_self, if_true, if_false, ite_true, ite_false, Bool.and_true, Bool.and_false, Bool.true_and, Bool.false_and, Bool.or_true, Bool.true_or, Bool.or_false, Bool.false_or, or_true, true_or, or_false, false_or, or_self, AV.asInt, AV.asBool, AV.asSl, AV.asPtr, AV.asFn, AV.asStr, AV.asMap, AV.asIfc, AV.item, List.length_cons, List.length_nil, List.getElem?_cons_zero, List.getElem?_cons_succ, Nat.zero_add, c1, c2, e4, w])
    (by
      rintro s ⟨h, σ1, rfl, k1, g⟩
      exact ⟨_, Ev.of fun k => by simp only [f19_L11010]; simp only [Option.bind_some, decide_eq_true_eq, decide_eq_false_iff_not, Bool.not_eq_true', Bool.not_true, Bool.not_false, Bool.false_eq_true, Bool.true_eq_false, Bool.not_eq_eq_eq_not, beq_self_eq_true, beqFT, beqTF, decide_true, decide_false, not_false_eq_true, not_true_eq_false, ne_eq, true_and, and_true, false_and, and_false, and_self, if_true, if_false, ite_true, ite_false, Bool.and_true, Bool.and_false, Bool.true_and, Bool.false_and, Bool.or_true, Bool.true_or, Bool.or_false, Bool.false_or, or_true, true_or, or_false, false_or, or_self, AV.asInt, AV.asBool, AV.asSl, AV.asPtr, AV.asFn, AV.asStr, AV.asMap, AV.asIfc, AV.item, List.length_cons, List.length_nil, List.getElem?_cons_zero, List.getElem?_cons_succ, Nat.zero_add, Int.lt_irrefl], h, σ1, rfl, k1, g⟩)
    (s := ([.int .i64 0, .int .i64 t.length, .slice Hdl.nil, .slice ht], σ0)) ⟨Hdl.nil, σ0, rfl, Kp.refl _ _, Grow.nil _ _ _⟩
  refine ⟨ho, σ', Runs.intro (fn := Try.f19) (by kernel_rfl) (by kernel_rfl) ?_, k', g'⟩
  exact (Ev.bind (loopF_ev e) (Ev.of fun k => f19_X11010_1 (gm Try.prog k) k σ' ho)).congr fun k => by rw [f19_eq, lt]
end
end Go.Ab

/- Turn; the reference's. -/
namespace Go.Ab
open Go Go.Proofs Go.Ab.Wd Go.Ab.Bs Go.Ab.Sai
set_option linter.unusedVariables false
set_option linter.unusedSimpArgs false
/-- Is a list a list of places, each once? -/
def permB (l : List Int) : Bool := (l.all fun x => decide (0 ≤ x) && decide (x < l.length)) && decide l.Nodup
theorem permB_iff {l : List Int} : permB l = true ↔ IsPerm l.length l := by
  simp only [permB, Bool.and_eq_true, List.all_eq_true, decide_eq_true_eq]
  exact ⟨fun ⟨h1, h2⟩ => ⟨rfl, h1, h2⟩, fun h => ⟨h.rng, h.nd⟩⟩
/-- The first i of l are marked. -/
structure Marks (f : Int → Int) (d : Int) (l : List Int) (i : Nat) (o : List Int) : Prop where
  len : o.length = l.length
  rng : ∀ p ∈ l.take i, 0 ≤ p ∧ p < l.length
  nd : (l.take i).Nodup
  val : ∀ p : Int, 0 ≤ p → p < l.length → rd o p = if p ∈ l.take i then f p else d
theorem Marks.start (f : Int → Int) (d : Int) (l : List Int) : Marks f d l 0 (List.replicate l.length d) :=
  ⟨by simp, by simp, by simp, fun p p0 p1 => by
    obtain ⟨p, rfl⟩ := Int.eq_ofNat_of_zero_le p0
    rw [rd_getElem (by simp; omega)]; simp⟩
theorem Marks.step {f : Int → Int} {d : Int} {l : List Int} {i : Nat} {o : List Int} (m : Marks f d l i o) (hi : i < l.length) (h0 : 0 ≤ rd l i) (h1 : rd l i < l.length) (hn : rd l i ∉ l.take i) : Marks f d l (i + 1) (o.set (rd l i).toNat (f (rd l i))) := by
  refine ⟨by simp [m.len], fun p hp => ?_, ?_, fun p p0 p1 => ?_⟩
  · rw [take_rd hi] at hp
    rcases List.mem_append.1 hp with hp | hp
    · exact m.rng p hp
    · rw [List.mem_singleton] at hp; rw [hp]; exact ⟨h0, h1⟩
  · rw [take_rd hi]
    exact List.nodup_append.2 ⟨m.nd, by simp, fun a ha b hb e => by rw [List.mem_singleton] at hb; subst hb; exact hn (e ▸ ha)⟩
  · rw [rd_set h0 (by rw [m.len]; exact h1) p0, take_rd hi, m.val p p0 p1]
    by_cases e : rd l i = p
    · rw [if_pos e, if_pos (by simp [e]), e]
    · rw [if_neg e]
      by_cases c : p ∈ l.take i
      · rw [if_pos c, if_pos (by simp [c])]
      · rw [if_neg c, if_neg (by simp [c]; exact fun h => e h.symm)]
def idx0 (l : List Int) (p : Int) : Int := (l.idxOf p : Nat)
theorem idx0_at {l : List Int} {i : Nat} (hi : i < l.length) (hn : rd l i ∉ l.take i) : idx0 l (rd l i) = i := by
  unfold idx0
  have e : l = l.take i ++ rd l i :: l.drop (i + 1) := by rw [← drop_rd hi, List.take_append_drop]
  have : ∀ x, (l.take i ++ rd l i :: l.drop (i + 1)).idxOf (rd l i) = x → l.idxOf (rd l i) = x := fun x h => by rwa [← e] at h
  rw [this i (by rw [List.idxOf_append, if_neg hn]; simp; omega)]
theorem Marks.end_ {l o : List Int} {d : Int} (m : Marks (idx0 l) d l l.length o) : IsPerm l.length l ∧ o = inv l := by
  have hp : IsPerm l.length l := ⟨rfl, fun p hp => m.rng p (by rwa [List.take_length]), by have := m.nd; rwa [List.take_length] at this⟩
  refine ⟨hp, Bs.ext_rd (by rw [m.len, inv_length]) fun p p0 p1 => ?_⟩
  rw [m.len] at p1
  rw [m.val p p0 p1, List.take_length, if_pos (hp.mem p0 p1), rd_inv p0 p1]; rfl
theorem not_perm {l : List Int} {i : Nat} (hi : i < l.length) (h : ¬ (0 ≤ rd l i ∧ rd l i < l.length) ∨ rd l i ∈ l.take i) : permB l = false := by
  rw [Bool.eq_false_iff]
  intro hb
  have hp := permB_iff.1 hb
  rcases h with h | h
  · exact h (hp.rng _ (rd_mem (by omega) (by omega)))
  · have hnd := hp.nd
    rw [show l = l.take i ++ rd l i :: l.drop (i + 1) by rw [← drop_rd hi, List.take_append_drop]] at hnd
    exact (List.nodup_append.1 hnd).2.2 _ h _ (List.mem_cons_self ..) rfl
theorem turn_run {σ : Store} {h : Hdl} {l : List Int} (hT : σ.Ints h l) (hp : σ.prot ≤ σ.objs.length) (hn : l.length ≤ 2 ^ 44) :
    ∃ ho σ', Runs Try.prog 26 [.slice h] σ (.tuple [.slice ho, .int .i64 (if permB l = true then 0 else 2)]) σ' ∧ Kp σ.objs.length σ σ' ∧ σ'.Ints ho (if permB l = true then inv l else []) ∧ σ'.Has ho := by
  have ll := hT.ilen
  obtain ⟨N, hN⟩ : ∃ N, N = σ.objs.length := ⟨_, rfl⟩
  obtain ⟨σ1, h1⟩ : ∃ x, x = σ.push (intsL (List.replicate l.length 0)) 1 := ⟨_, rfl⟩
  have k1 : Kp σ.objs.length σ σ1 := by rw [h1]; exact Kp.push _ _ (Nat.le_refl _)
  have r1 : σ1.Row N 1 (intsL (List.replicate l.length 0)) := by rw [h1, hN]; exact Store.Row.new
  -- all are -1
  obtain ⟨ra, ea, σ2, rfl, k2, r2⟩ := EvI.up (f := fun k s => stepF Try.prog (gm Try.prog k) drawn k Try.f26 [1, 1, 0, 1, 0] [13, 12, 4, 0] s) l.length
    (fun i s => ∃ o s1, s = ([.int .i64 i, .int .i64 l.length, .slice (hdS N l.length), .slice h], s1) ∧ Kp σ.objs.length σ s1 ∧ s1.Row N 1 (intsL o) ∧ o.length = l.length ∧ ∀ p : Int, 0 ≤ p → p < i → rd o p = -1)
    (fun r => ∃ s1, r = (AX.exit 0, [(4, .slice (hdS N l.length)), (0, .slice h)], s1) ∧ Kp σ.objs.length σ s1 ∧ s1.Row N 1 (intsL (List.replicate l.length (-1))))
    (by
      rintro i s hi ⟨o, s1, rfl, kk, rr, lo, ho⟩
      have i0 : (0 : Int) ≤ i := by omega
      have i1 : (i : Int) < l.length := by omega
      have w := wsucc hi (by omega)
      have st := st_ints (x := -1) (len := l.length) (cp := some l.length) rr (by rw [kk.prot]; omega) i0 (by omega)
      refine ⟨_, Ev.of fun k => by simp only [f26_L11010]; simp only [Option.bind_some, decide_eq_true_eq, decide_eq_false_iff_not, Bool.not_eq_true', Bool.not_true, Bool.not_false, Bool.false_eq_true, Bool.true_eq_false, Bool.not_eq_eq_eq_not, beq_self_eq_true, beqFT, beqTF, decide_true, decide_false, not_false_eq_true, not_true_eq_false, ne_eq, true_and, and_true, false_and, and_false, and_self, if_true, if_false, ite_true, ite_false, Bool.and_true, Bool.and_false, Bool.true_and, Bool.false_and, Bool.or_true, Bool.true_or, Bool.or_false, Bool.false_or, or_true, true_or, or_false, false_or, or_self, AV.asInt, AV.asBool, AV.asSl, AV.asPtr, AV.asFn, AV.asStr, AV.asMap, AV.asIfc, AV.item, List.length_cons, List.length_nil, List.getElem?_cons_zero, List.getElem?_cons_succ, Nat.zero_add, i0, i1, st, w], o.set (i : Int).toNat (-1), _, rfl, kk.setO (by omega), Store.Row.setO_eq rr.lt, by simpa using lo, fun p p0 p1 => ?_⟩
      rw [rd_set i0 (by omega) p0]
      split
      · rfl
      · exact ho p p0 (by omega))
    (by
      rintro s ⟨o, s1, rfl, kk, rr, lo, ho⟩
      have : o = List.replicate l.length (-1) := Bs.ext_rd (by simp [lo]) fun p p0 p1 => by
        rw [ho p p0 (by omega)]
        obtain ⟨p, rfl⟩ := Int.eq_ofNat_of_zero_le p0
        rw [rd_getElem (by simp; omega)]; simp
      subst this
      exact ⟨_, Ev.of fun k => by simp only [f26_L11010]; simp only [Option.bind_some, decide_eq_true_eq, decide_eq_false_iff_not, Bool.not_eq_true', Bool.not_true, Bool.not_false, Bool.false_eq_true, Bool.true_eq_false, Bool.not_eq_eq_eq_not, beq_self_eq_true, beqFT, beqTF, decide_true, decide_false, not_false_eq_true, not_true_eq_false, ne_eq, true_and, and_true, false_and, and_false, and_self, if_true, if_false, ite_true, ite_false, Bool.and_true, Bool.and_false, Bool.true_and, Bool.false_and, Bool.or_true, Bool.true_or, Bool.or_false, Bool.false_or, or_true, true_or, or_false, false_or, or_self, AV.asInt, AV.asBool, AV.asSl, AV.asPtr, AV.asFn, AV.asStr, AV.asMap, AV.asIfc, AV.item, List.length_cons, List.length_nil, List.getElem?_cons_zero, List.getElem?_cons_succ, Nat.zero_add, Int.lt_irrefl], s1, rfl, kk, rr⟩)
    (s := ([.int .i64 0, .int .i64 l.length, .slice (hdS N l.length), .slice h], σ1)) ⟨_, σ1, rfl, k1, r1, by simp, fun p p0 p1 => by omega⟩
  -- each place's place
  have hT2 : σ2.Ints h l := Store.Sl.kp hT k2
  obtain ⟨rb, eb, q⟩ := EvI.upX (f := fun k s => stepF Try.prog (gm Try.prog k) drawn k Try.f26 [1, 1, 1, 0, 1, 0] [22, 21, 20, 4, 0] s) l.length
    (fun i s => ∃ o s1, s = ([.int .i64 i, .int .i64 l.length, .slice h, .slice (hdS N l.length), .slice h], s1) ∧ Kp σ.objs.length σ s1 ∧ s1.Row N 1 (intsL o) ∧ Marks (idx0 l) (-1) l i o)
    (fun r => ∃ s1, Kp σ.objs.length σ s1 ∧ ((r = (AX.ret, [(3, .int .i64 2), (2, .slice Hdl.nil)], s1) ∧ permB l = false) ∨ (r = (AX.exit 2, [(4, .slice (hdS N l.length))], s1) ∧ permB l = true ∧ s1.Row N 1 (intsL (inv l)))))
    (by
      rintro i s hi ⟨o, s1, rfl, kk, rr, m⟩
      have i0 : (0 : Int) ≤ i := by omega
      have i1 : (i : Int) < l.length := by omega
      have w := wsucc hi (by omega)
      have hr := (Store.Ints.rd (Store.Sl.kp hT kk) i0 i1 : s1.ldInt .i64 (h.idx i 1) = _)
      by_cases c1 : rd l i < 0
      · exact .inr ⟨(AX.ret, [(3, .int .i64 2), (2, .slice Hdl.nil)], s1), Ev.of fun k => by simp only [f26_L111010]; simp only [Option.bind_some, decide_eq_true_eq, decide_eq_false_iff_not, Bool.not_eq_true', Bool.not_true, Bool.not_false, Bool.false_eq_true, Bool.true_eq_false, Bool.not_eq_eq_eq_not, beq_self_eq_true, beqFT, beqTF, decide_true, decide_false, not_false_eq_true, not_true_eq_false, ne_eq, true_and, and_true, false_and, and_false, and_self, if_true, if_false, ite_true, ite_false, Bool.and_true, Bool.and_false, Bool.true_and, Bool.false_and, Bool.or_true, Bool.true_or, Bool.or_false, Bool.false_or, or_true, true_or, or_false, false_or, or_self, AV.asInt, AV.asBool, AV.asSl, AV.asPtr, AV.asFn, AV.asStr, AV.asMap, AV.asIfc, AV.item, List.length_cons, List.length_nil, List.getElem?_cons_zero, List.getElem?_cons_succ, Nat.zero_add, ll, i0, i1, hr, c1], s1, kk, .inl ⟨rfl, not_perm hi (.inl (by omega))⟩⟩
      by_cases c2 : (l.length : Int) ≤ rd l i
      · exact .inr ⟨(AX.ret, [(3, .int .i64 2), (2, .slice Hdl.nil)], s1), Ev.of fun k => by simp only [f26_L111010]; simp only [Option.bind_some, decide_eq_true_eq, decide_eq_false_iff_not, Bool.not_eq_true', Bool.not_true, Bool.not_false, Bool.false_eq_true, Bool.true_eq_false, Bool.not_eq_eq_eq_not, beq_self_eq_true, beqFT, beqTF, decide_true, decide_false, not_false_eq_true, not_true_eq_false, ne_eq, true_and, and_true, false_and, and_false, and_self, if_true, if_false, ite_true, ite_false, Bool.and_true, Bool.and_false, Bool.true_and, Bool.false_and, Bool.or_true, Bool.true_or, Bool.or_false, Bool.false_or, or_true, true_or, or_false, false_or, or_self, AV.asInt, AV.asBool, AV.asSl, AV.asPtr, AV.asFn, AV.asStr, AV.asMap, AV.asIfc, AV.item, List.length_cons, List.length_nil, List.getElem?_cons_zero, List.getElem?_cons_succ, Nat.zero_add, ll, i0, i1, hr, c1, c2], s1, kk, .inl ⟨rfl, not_perm hi (.inl (by omega))⟩⟩
      have c3 : 0 ≤ rd l i := by omega
      have c4 : rd l i < l.length := by omega
      have ro := rr.ld_ints (len := l.length) (cp := some l.length) c3 (by rw [m.len]; exact c4)
      have mo := m.val _ c3 c4
      by_cases c5 : rd l i ∈ l.take i
      · rw [if_pos c5] at mo
        have c6 : 0 ≤ rd o (rd l i) := by rw [mo]; unfold idx0; omega
        exact .inr ⟨(AX.ret, [(3, .int .i64 2), (2, .slice Hdl.nil)], s1), Ev.of fun k => by simp only [f26_L111010]; simp only [Option.bind_some, decide_eq_true_eq, decide_eq_false_iff_not, Bool.not_eq_true', Bool.not_true, Bool.not_false, Bool.false_eq_true, Bool.true_eq_false, Bool.not_eq_eq_eq_not, beq_self_eq_true, beqFT, beqTF, decide_true, decide_false, not_false_eq_true, not_true_eq_false, ne_eq, true_and, and_true, false_and, and_false, and_self, if_true, if_false, ite_true, ite_false, Bool.and_true, Bool.and_false, Bool.true_and, Bool.false_and, Bool.or_true, Bool.true_or, Bool.or_false, Bool.false_or, or_true, true_or, or_false, false_or, or_self, AV.asInt, AV.asBool, AV.asSl, AV.asPtr, AV.asFn, AV.asStr, AV.asMap, AV.asIfc, AV.item, List.length_cons, List.length_nil, List.getElem?_cons_zero, List.getElem?_cons_succ, Nat.zero_add, ll, i0, i1, hr, c1, c2, c3, c4, ro, c6], s1, kk, .inl ⟨rfl, not_perm hi (.inr c5)⟩⟩
      · rw [if_neg c5] at mo
        have c6 : ¬ 0 ≤ rd o (rd l i) := by omega
        have st := st_ints (x := i) (len := l.length) (cp := some l.length) rr (by rw [kk.prot]; omega) c3 (by rw [m.len]; exact c4)
        have ms := m.step hi c3 c4 c5
        rw [idx0_at hi c5] at ms
        exact .inl ⟨_, Ev.of fun k => by simp only [f26_L111010]; simp only [Option.bind_some, decide_eq_true_eq, decide_eq_false_iff_not, Bool.not_eq_true', Bool.not_true, Bool.not_false, Bool.false_eq_true, Bool.true_eq_false, Bool.not_eq_eq_eq_not, beq_self_eq_true, beqFT, beqTF, decide_true, decide_false, not_false_eq_true, not_true_eq_false, ne_eq, true_and, and_true, false_and, and_false, and_self, if_true, if_false, ite_true, ite_false, Bool.and_true, Bool.and_false, Bool.true_and, Bool.false_and, Bool.or_true, Bool.true_or, Bool.or_false, Bool.false_or, or_true, true_or, or_false, false_or, or_self, AV.asInt, AV.asBool, AV.asSl, AV.asPtr, AV.asFn, AV.asStr, AV.asMap, AV.asIfc, AV.item, List.length_cons, List.length_nil, List.getElem?_cons_zero, List.getElem?_cons_succ, Nat.zero_add, ll, i0, i1, hr, c1, c2, c3, c4, ro, c6, st, w], o.set (rd l i).toNat i, _, rfl, kk.setO (by omega), Store.Row.setO_eq rr.lt, ms⟩)
    (by
      rintro s ⟨o, s1, rfl, kk, rr, m⟩
      obtain ⟨hp, rfl⟩ := m.end_
      exact ⟨_, Ev.of fun k => by simp only [f26_L111010]; simp only [Option.bind_some, decide_eq_true_eq, decide_eq_false_iff_not, Bool.not_eq_true', Bool.not_true, Bool.not_false, Bool.false_eq_true, Bool.true_eq_false, Bool.not_eq_eq_eq_not, beq_self_eq_true, beqFT, beqTF, decide_true, decide_false, not_false_eq_true, not_true_eq_false, ne_eq, true_and, and_true, false_and, and_false, and_self, if_true, if_false, ite_true, ite_false, Bool.and_true, Bool.and_false, Bool.true_and, Bool.false_and, Bool.or_true, Bool.true_or, Bool.or_false, Bool.false_or, or_true, true_or, or_false, false_or, or_self, AV.asInt, AV.asBool, AV.asSl, AV.asPtr, AV.asFn, AV.asStr, AV.asMap, AV.asIfc, AV.item, List.length_cons, List.length_nil, List.getElem?_cons_zero, List.getElem?_cons_succ, Nat.zero_add, Int.lt_irrefl], s1, kk, .inr ⟨rfl, permB_iff.2 hp, rr⟩⟩)
    (Nat.zero_le _) (s := ([.int .i64 0, .int .i64 l.length, .slice h, .slice (hdS N l.length), .slice h], σ2)) ⟨_, σ2, rfl, k2, r2, Marks.start _ _ _⟩
  have b1 : (0 : Int) ≤ l.length := by omega
  have b2 : (l.length : Int) * ((8 : Nat) : Int) ≤ 281474976710656 := by omega
  have start : ∀ k, evBody Try.prog (gm Try.prog k) drawn k Try.f26 [.slice h] σ = (loopF Try.prog (gm Try.prog k) drawn k Try.f26 [1, 1, 0, 1, 0] [13, 12, 4, 0] ([.int .i64 0, .int .i64 l.length, .slice (hdS N l.length), .slice h], σ1)).bind (contF Try.prog (gm Try.prog k) drawn k Try.f26 [1, 1, 0, 1, 0]) := by
    intro k
    rw [f26_eq]
    simp only [Option.bind_some, decide_eq_true_eq, decide_eq_false_iff_not, Bool.not_eq_true', Bool.not_true, Bool.not_false, Bool.false_eq_true, Bool.true_eq_false, Bool.not_eq_eq_eq_not, beq_self_eq_true, beqFT, beqTF, decide_true, decide_false, not_false_eq_true, not_true_eq_false, ne_eq, true_and, and_true, false_and, and_false, and_self, if_true, if_false, ite_true, ite_false, Bool.and_true, Bool.and_false, Bool.true_and, Bool.false_and, Bool.or_true, Bool.true_or, Bool.or_false, Bool.false_or, or_true, true_or, or_false, false_or, or_self, AV.asInt, AV.asBool, AV.asSl, AV.asPtr, AV.asFn, AV.asStr, AV.asMap, AV.asIfc, AV.item, List.length_cons, List.length_nil, List.getElem?_cons_zero, List.getElem?_cons_succ, Nat.zero_add, ll, Int.toNat_natCast, mkCells_int, ← h1, ← hN, b1, b2, Int.le_refl]
  have mid : ∀ k, contF Try.prog (gm Try.prog k) drawn k Try.f26 [1, 1, 0, 1, 0] (AX.exit 0, [(4, .slice (hdS N l.length)), (0, .slice h)], σ2) = (loopF Try.prog (gm Try.prog k) drawn k Try.f26 [1, 1, 1, 0, 1, 0] [22, 21, 20, 4, 0] ([.int .i64 0, .int .i64 l.length, .slice h, .slice (hdS N l.length), .slice h], σ2)).bind (contF Try.prog (gm Try.prog k) drawn k Try.f26 [1, 1, 1, 0, 1, 0]) := by
    intro k
    rw [f26_X11010_1, ll]
  obtain ⟨s1, kk, ⟨rfl, hb⟩ | ⟨rfl, hb, rr⟩⟩ := q
  · rw [if_neg (by rw [hb]; simp), if_neg (by rw [hb]; simp)]
    refine ⟨Hdl.nil, s1, Runs.intro (fn := Try.f26) (by kernel_rfl) (by kernel_rfl) ?_, kk, ints_nil _, Store.Has.nil _⟩
    refine (Ev.bind (loopF_ev ea) ?_).congr start
    exact (Ev.bind (loopF_ev eb) (Ev.of fun k => f26_X111010_1 (gm Try.prog k) k s1 _ _)).congr mid
  · rw [if_pos hb, if_pos hb]
    refine ⟨hdS N l.length, s1, Runs.intro (fn := Try.f26) (by kernel_rfl) (by kernel_rfl) ?_, kk, rr.sl (by simp [inv_length]), fun b e => by simp [Hdl.row] at e; have := rr.lt; omega⟩
    refine (Ev.bind (loopF_ev ea) ?_).congr start
    exact (Ev.bind (loopF_ev eb) (Ev.of fun k => f26_X111010_2 (gm Try.prog k) k s1 _)).congr mid
end Go.Ab

/- The reference's turning; the laws of layer 9, the first half. -/
namespace Go.Ab
open Go Go.Proofs Go.Ab.Wd Go.Ab.Bs Go.Ab.Sai
set_option linter.unusedVariables false
set_option linter.unusedSimpArgs false
theorem turned_run {σ : Store} {h : Hdl} {l : List Int} (hT : σ.Ints h l) (hp : σ.prot ≤ σ.objs.length) (hn : l.length ≤ 2 ^ 44) :
    ∃ ho σ', Runs Try.prog 17 [.slice h] σ (.tuple [.slice ho, .bool (permB l)]) σ' ∧ Kp σ.objs.length σ σ' ∧ σ'.Ints ho (if permB l = true then inv l else []) ∧ σ'.Has ho := by
  have ll := hT.ilen
  obtain ⟨N, hN⟩ : ∃ N, N = σ.objs.length := ⟨_, rfl⟩
  obtain ⟨σ1, h1⟩ : ∃ x, x = (σ.push (intsL (List.replicate l.length 0)) 1).push (numsL .u8 (List.replicate l.length 0)) 1 := ⟨_, rfl⟩
  have k1 : Kp σ.objs.length σ σ1 := by rw [h1]; exact (Kp.push _ _ (Nat.le_refl _)).push' (by simp)
  have r1 : σ1.Row N 1 (intsL (List.replicate l.length 0)) := by rw [h1, hN]; exact Store.Row.new.push
  have r2 : σ1.Row (N + 1) 1 (numsL .u8 (List.replicate l.length 0)) := by rw [h1, hN]; have := (Store.Row.new (σ := σ.push (intsL (List.replicate l.length 0)) 1) (es := 1) (l := numsL .u8 (List.replicate l.length 0))); simpa using this
  obtain ⟨rb, eb, q⟩ := EvI.upX (f := fun k s => stepF Try.prog (gm Try.prog k) drawn k Try.f17 [1, 1, 1, 0, 1, 0] [16, 15, 14, 5, 4, 0] s) l.length
    (fun i s => ∃ o e s1, s = ([.int .i64 i, .int .i64 l.length, .slice h, .slice (hdS (N + 1) l.length), .slice (hdS N l.length), .slice h], s1) ∧ Kp σ.objs.length σ s1 ∧ s1.Row N 1 (intsL o) ∧ s1.Row (N + 1) 1 (numsL .u8 e) ∧ Marks (idx0 l) 0 l i o ∧ Marks (fun _ => 1) 0 l i e)
    (fun r => ∃ s1, Kp σ.objs.length σ s1 ∧ ((r = (AX.ret, [(3, .bool false), (2, .slice Hdl.nil)], s1) ∧ permB l = false) ∨ (r = (AX.exit 0, [(4, .slice (hdS N l.length))], s1) ∧ permB l = true ∧ s1.Row N 1 (intsL (inv l)))))
    (by
      rintro i s hi ⟨o, e, s1, rfl, kk, rr, re, m, me⟩
      have i0 : (0 : Int) ≤ i := by omega
      have i1 : (i : Int) < l.length := by omega
      have w := wsucc hi (by omega)
      have hr := (Store.Ints.rd (Store.Sl.kp hT kk) i0 i1 : s1.ldInt .i64 (h.idx i 1) = _)
      by_cases c1 : rd l i < 0
      · exact .inr ⟨(AX.ret, [(3, .bool false), (2, .slice Hdl.nil)], s1), Ev.of fun k => by simp only [f17_L111010]; simp only [Option.bind_some, decide_eq_true_eq, decide_eq_false_iff_not, Bool.not_eq_true', Bool.not_true, Bool.not_false, Bool.false_eq_true, Bool.true_eq_false, Bool.not_eq_eq_eq_not, beq_self_eq_true, beqFT, beqTF, decide_true, decide_false, not_false_eq_true, not_true_eq_false, ne_eq, true_and, and_true, false_and, and_false, and_self, if_true, if_false, ite_true, ite_false, Bool.and_true, Bool.and_false, Bool.true_and, Bool.false_and, Bool.or_true, Bool.true_or, Bool.or_false, Bool.false_or, or_true, true_or, or_false, false_or, or_self, AV.asInt, AV.asBool, AV.asSl, AV.asPtr, AV.asFn, AV.asStr, AV.asMap, AV.asIfc, AV.item, List.length_cons, List.length_nil, List.getElem?_cons_zero, List.getElem?_cons_succ, Nat.zero_add, ll, i0, i1, hr, c1], s1, kk, .inl ⟨rfl, not_perm hi (.inl (by omega))⟩⟩
      by_cases c2 : (l.length : Int) ≤ rd l i
      · exact .inr ⟨(AX.ret, [(3, .bool false), (2, .slice Hdl.nil)], s1), Ev.of fun k => by simp only [f17_L111010]; simp only [Option.bind_some, decide_eq_true_eq, decide_eq_false_iff_not, Bool.not_eq_true', Bool.not_true, Bool.not_false, Bool.false_eq_true, Bool.true_eq_false, Bool.not_eq_eq_eq_not, beq_self_eq_true, beqFT, beqTF, decide_true, decide_false, not_false_eq_true, not_true_eq_false, ne_eq, true_and, and_true, false_and, and_false, and_self, if_true, if_false, ite_true, ite_false, Bool.and_true, Bool.and_false, Bool.true_and, Bool.false_and, Bool.or_true, Bool.true_or, Bool.or_false, Bool.false_or, or_true, true_or, or_false, false_or, or_self, AV.asInt, AV.asBool, AV.asSl, AV.asPtr, AV.asFn, AV.asStr, AV.asMap, AV.asIfc, AV.item, List.length_cons, List.length_nil, List.getElem?_cons_zero, List.getElem?_cons_succ, Nat.zero_add, ll, i0, i1, hr, c1, c2], s1, kk, .inl ⟨rfl, not_perm hi (.inl (by omega))⟩⟩
      have c3 : 0 ≤ rd l i := by omega
      have c4 : rd l i < l.length := by omega
      have ro := row_rd re (len := l.length) (cp := some l.length) c3 (by rw [me.len]; exact c4)
      have mo := me.val _ c3 c4
      by_cases c5 : rd l i ∈ l.take i
      · rw [if_pos c5] at mo
        exact .inr ⟨(AX.ret, [(3, .bool false), (2, .slice Hdl.nil)], s1), Ev.of fun k => by simp only [f17_L111010]; simp only [Option.bind_some, decide_eq_true_eq, decide_eq_false_iff_not, Bool.not_eq_true', Bool.not_true, Bool.not_false, Bool.false_eq_true, Bool.true_eq_false, Bool.not_eq_eq_eq_not, beq_self_eq_true, beqFT, beqTF, decide_true, decide_false, not_false_eq_true, not_true_eq_false, ne_eq, true_and, and_true, false_and, and_false, and_self, if_true, if_false, ite_true, ite_false, Bool.and_true, Bool.and_false, Bool.true_and, Bool.false_and, Bool.or_true, Bool.true_or, Bool.or_false, Bool.false_or, or_true, true_or, or_false, false_or, or_self, AV.asInt, AV.asBool, AV.asSl, AV.asPtr, AV.asFn, AV.asStr, AV.asMap, AV.asIfc, AV.item, List.length_cons, List.length_nil, List.getElem?_cons_zero, List.getElem?_cons_succ, Nat.zero_add, ll, i0, i1, hr, c1, c2, c3, c4, ro, mo], s1, kk, .inl ⟨rfl, not_perm hi (.inr c5)⟩⟩
      · rw [if_neg c5] at mo
        have c6 : ¬ (0 : Int) = 1 := by omega
        have st1 := st_nums (k := .u8) (x := 1) (len := l.length) (cp := some l.length) re (by rw [kk.prot]; omega) c3 (by rw [me.len]; exact c4)
        have rr2 := Store.Row.setO_ne (c := N + 1) (o := .cells (numsL .u8 (e.set (rd l i).toNat 1)) true 1) rr (by omega)
        have re2 := Store.Row.setO_eq (l := numsL .u8 (e.set (rd l i).toNat 1)) (es := 1) re.lt
        have st2 := st_ints (x := i) (len := l.length) (cp := some l.length) rr2 (by rw [setO_prot, kk.prot]; omega) c3 (by rw [m.len]; exact c4)
        have ms := m.step hi c3 c4 c5
        rw [idx0_at hi c5] at ms
        exact .inl ⟨_, Ev.of fun k => by simp only [f17_L111010]; simp only [Option.bind_some, decide_eq_true_eq, decide_eq_false_iff_not, Bool.not_eq_true', Bool.not_true, Bool.not_false, Bool.false_eq_true, Bool.true_eq_false, Bool.not_eq_eq_eq_not, beq_self_eq_true, beqFT, beqTF, decide_true, decide_false, not_false_eq_true, not_true_eq_false, ne_eq, true_and, and_true, false_and, and_false, and_self, if_true, if_false, ite_true, ite_false, Bool.and_true, Bool.and_false, Bool.true_and, Bool.false_and, Bool.or_true, Bool.true_or, Bool.or_false, Bool.false_or, or_true, true_or, or_false, false_or, or_self, AV.asInt, AV.asBool, AV.asSl, AV.asPtr, AV.asFn, AV.asStr, AV.asMap, AV.asIfc, AV.item, List.length_cons, List.length_nil, List.getElem?_cons_zero, List.getElem?_cons_succ, Nat.zero_add, ll, i0, i1, hr, c1, c2, c3, c4, ro, mo, c6, st1, st2, w], o.set (rd l i).toNat i, e.set (rd l i).toNat 1, _, rfl, (kk.setO (by omega)).setO (by omega), Store.Row.setO_eq (by simpa using rr.lt), re2.setO_ne (by omega), ms, me.step hi c3 c4 c5⟩)
    (by
      rintro s ⟨o, e, s1, rfl, kk, rr, re, m, me⟩
      obtain ⟨hp, rfl⟩ := m.end_
      exact ⟨(AX.exit 0, [(4, .slice (hdS N l.length))], s1), Ev.of fun k => by simp only [f17_L111010]; simp only [Option.bind_some, decide_eq_true_eq, decide_eq_false_iff_not, Bool.not_eq_true', Bool.not_true, Bool.not_false, Bool.false_eq_true, Bool.true_eq_false, Bool.not_eq_eq_eq_not, beq_self_eq_true, beqFT, beqTF, decide_true, decide_false, not_false_eq_true, not_true_eq_false, ne_eq, true_and, and_true, false_and, and_false, and_self, if_true, if_false, ite_true, ite_false, Bool.and_true, Bool.and_false, Bool.true_and, Bool.false_and, Bool.or_true, Bool.true_or, Bool.or_false, Bool.false_or, or_true, true_or, or_false, false_or, or_self, AV.asInt, AV.asBool, AV.asSl, AV.asPtr, AV.asFn, AV.asStr, AV.asMap, AV.asIfc, AV.item, List.length_cons, List.length_nil, List.getElem?_cons_zero, List.getElem?_cons_succ, Nat.zero_add, Int.lt_irrefl], s1, kk, .inr ⟨rfl, permB_iff.2 hp, rr⟩⟩)
    (Nat.zero_le _) (s := ([.int .i64 0, .int .i64 l.length, .slice h, .slice (hdS (N + 1) l.length), .slice (hdS N l.length), .slice h], σ1)) ⟨_, _, σ1, rfl, k1, r1, r2, Marks.start _ _ _, Marks.start _ _ _⟩
  have b1 : (0 : Int) ≤ l.length := by omega
  have b2 : (l.length : Int) * ((8 : Nat) : Int) ≤ 281474976710656 := by omega
  have b3 : (l.length : Int) * ((1 : Nat) : Int) ≤ 281474976710656 := by omega
  have start : ∀ k, evBody Try.prog (gm Try.prog k) drawn k Try.f17 [.slice h] σ = (loopF Try.prog (gm Try.prog k) drawn k Try.f17 [1, 1, 1, 0, 1, 0] [16, 15, 14, 5, 4, 0] ([.int .i64 0, .int .i64 l.length, .slice h, .slice (hdS (N + 1) l.length), .slice (hdS N l.length), .slice h], σ1)).bind (contF Try.prog (gm Try.prog k) drawn k Try.f17 [1, 1, 1, 0, 1, 0]) := by
    intro k
    rw [f17_eq]
    simp only [Option.bind_some, decide_eq_true_eq, decide_eq_false_iff_not, Bool.not_eq_true', Bool.not_true, Bool.not_false, Bool.false_eq_true, Bool.true_eq_false, Bool.not_eq_eq_eq_not, beq_self_eq_true, beqFT, beqTF, decide_true, decide_false, not_false_eq_true, not_true_eq_false, ne_eq, true_and, and_true, false_and, and_false, and_self, if_true, if_false, ite_true, ite_false, Bool.and_true, Bool.and_false, Bool.true_and, Bool.false_and, Bool.or_true, Bool.true_or, Bool.or_false, Bool.false_or, or_true, true_or, or_false, false_or, or_self, AV.asInt, AV.asBool, AV.asSl, AV.asPtr, AV.asFn, AV.asStr, AV.asMap, AV.asIfc, AV.item, List.length_cons, List.length_nil, List.getElem?_cons_zero, List.getElem?_cons_succ, Nat.zero_add, ll, Int.toNat_natCast, mkCells_int, mkCells_num .u8, push_len, ← h1, ← hN, b1, b2, b3, Int.le_refl]
  obtain ⟨s1, kk, ⟨rfl, hb⟩ | ⟨rfl, hb, rr⟩⟩ := q
  · rw [if_neg (by rw [hb]; simp), hb]
    refine ⟨Hdl.nil, s1, Runs.intro (fn := Try.f17) (by kernel_rfl) (by kernel_rfl) ?_, kk, ints_nil _, Store.Has.nil _⟩
    exact (Ev.bind (loopF_ev eb) (Ev.of fun k => f17_X111010_1 (gm Try.prog k) k s1 _ _)).congr start
  · rw [if_pos hb, hb]
    refine ⟨hdS N l.length, s1, Runs.intro (fn := Try.f17) (by kernel_rfl) (by kernel_rfl) ?_, kk, rr.sl (by simp [inv_length]), fun b e => by simp [Hdl.row] at e; have := rr.lt; omega⟩
    exact (Ev.bind (loopF_ev eb) (Ev.of fun k => f17_X111010_2 (gm Try.prog k) k s1 _)).congr start
end Go.Ab

/- The laws SuffixSorts, SuffixTurns, SuffixLeast. -/
namespace Go.Ab
open Go Go.Proofs Go.Ab.Wd Go.Ab.Bs Go.Ab.Sai
set_option linter.unusedVariables false
set_option linter.unusedSimpArgs false
theorem first_told (σ : Store) : Runs Try.prog 23 [] σ (.bool true) σ := Runs.told (f := fun args σ => match args with | [] => some (.bool true, σ) | _ => none) (by kernel_rfl) rfl
theorem same_self {σ : Store} {h h' : Hdl} {a : List Int} (ha : σ.Ints h a) (hb : σ.Ints h' a) (hn : a.length < 2 ^ 62) : Runs Try.prog 16 [.slice h, .slice h'] σ (.bool true) σ := by
  have := same_run ha hb hn; rwa [decide_eq_true rfl] at this
theorem law_SuffixSorts {σ : Store} {h : Hdl} {t : List Int} {al : Int} (hT : σ.Ints h t) (hH : σ.Has h) (hn : t.length < 2 ^ 44) (hw : ∀ n ∈ t, IntKind.min .i64 ≤ n ∧ n ≤ IntKind.max .i64) (hal : IntKind.min .i64 ≤ al ∧ al ≤ IntKind.max .i64) (hp : σ.prot ≤ σ.objs.length) : ∃ σ', Runs Try.prog 8 [.slice h, .int .i64 al] σ (.bool true) σ' := by
  have ll := hT.ilen
  obtain ⟨k0, r0⟩ := first_told σ
  obtain ⟨k1, r1⟩ := right_run (al := al) hT (by omega)
  obtain ⟨h1, σ1, e1, e2, K1, G1⟩ := copy_app (bs := 8) hT hp (intsL_one _) (by omega) (by simp; omega)
  obtain ⟨ho, σ2, ⟨k2, r2⟩, K2, I2, H2⟩ := array_run (al := al) G1.ints G1.has (by rw [K1.prot]; have := K1.len; omega) (by omega)
  have K12 := K1.all K2
  have hT2 : σ2.Ints h t := Store.Sl.kp hT K12
  obtain ⟨k3, r3⟩ := same_self (G1.kp K2).ints hT2 (by omega)
  obtain ⟨k4, r4⟩ := right_run (al := al) hT2 (by omega)
  have lo := I2.ilen
  cases hok : okT t al with
  | false =>
    rw [hok] at r1 r2 r4 lo
    refine ⟨σ2, Runs.intro (fn := Try.f8) (by kernel_rfl) (by kernel_rfl) ⟨k0 + k1 + k2 + k3 + k4, fun k hk => ?_⟩⟩
    have r0 := r0 k (by omega)
    have r1 := r1 k (by omega)
    have r2 := r2 k (by omega)
    have r3 := r3 k (by omega)
    have r4 := r4 k (by omega)
    simp only [Option.bind_some, decide_eq_true_eq, decide_eq_false_iff_not, Bool.not_eq_true', Bool.not_true, Bool.not_false, Bool.false_eq_true, Bool.true_eq_false, Bool.not_eq_eq_eq_not, beq_self_eq_true, beqFT, beqTF, decide_true, decide_false, not_false_eq_true, not_true_eq_false, ne_eq, true_and, and_true, false_and, and_false, and_self, if_true, if_false, ite_true, ite_false, Bool.and_true, Bool.and_false, Bool.true_and, Bool.false_and, Bool.or_true, Bool.true_or, Bool.or_false, Bool.false_or, or_true, true_or, or_false, false_or, or_self, AV.asInt, AV.asBool, AV.asSl, AV.asPtr, AV.asFn, AV.asStr, AV.asMap, AV.asIfc, AV.item, List.length_cons, List.length_nil, List.getElem?_cons_zero, List.getElem?_cons_succ, Nat.zero_add] at r0 r1 r2 r3 r4 lo
    have lz : ((ho.len : Nat) : Int) = 0 := by rw [lo]; rfl
    simp only [f8_eq]
    by_cases c : (400 : Int) < h.len
    · simp only [Option.bind_some, decide_eq_true_eq, decide_eq_false_iff_not, Bool.not_eq_true', Bool.not_true, Bool.not_false, Bool.false_eq_true, Bool.true_eq_false, Bool.not_eq_eq_eq_not, beq_self_eq_true, beqFT, beqTF, decide_true, decide_false, not_false_eq_true, not_true_eq_false, ne_eq, true_and, and_true, false_and, and_false, and_self, if_true, if_false, ite_true, ite_false, Bool.and_true, Bool.and_false, Bool.true_and, Bool.false_and, Bool.or_true, Bool.true_or, Bool.or_false, Bool.false_or, or_true, true_or, or_false, false_or, or_self, AV.asInt, AV.asBool, AV.asSl, AV.asPtr, AV.asFn, AV.asStr, AV.asMap, AV.asIfc, AV.item, List.length_cons, List.length_nil, List.getElem?_cons_zero, List.getElem?_cons_succ, Nat.zero_add, r0, c, r1, e1, e2, r2, r3, r4, lz]
    · simp only [Option.bind_some, decide_eq_true_eq, decide_eq_false_iff_not, Bool.not_eq_true', Bool.not_true, Bool.not_false, Bool.false_eq_true, Bool.true_eq_false, Bool.not_eq_eq_eq_not, beq_self_eq_true, beqFT, beqTF, decide_true, decide_false, not_false_eq_true, not_true_eq_false, ne_eq, true_and, and_true, false_and, and_false, and_self, if_true, if_false, ite_true, ite_false, Bool.and_true, Bool.and_false, Bool.true_and, Bool.false_and, Bool.or_true, Bool.true_or, Bool.or_false, Bool.false_or, or_true, true_or, or_false, false_or, or_self, AV.asInt, AV.asBool, AV.asSl, AV.asPtr, AV.asFn, AV.asStr, AV.asMap, AV.asIfc, AV.item, List.length_cons, List.length_nil, List.getElem?_cons_zero, List.getElem?_cons_succ, Nat.zero_add, r0, c, r1, e1, e2, r2, r3, r4, lz]
  | true =>
    rw [hok] at r1 r2 r4 I2
    rw [if_pos rfl] at I2
    obtain ⟨g1, g2, g3, g4⟩ := okT_iff.1 hok
    obtain ⟨hr, σ3, ⟨k5, r5⟩, K3, G3⟩ := ref9_array hT2 (by omega) (by rw [K12.prot]; have := K12.len; omega)
    obtain ⟨k6, r6⟩ := same_self (Store.Sl.kp I2 K3) G3.ints (by rw [saOf_len]; omega)
    by_cases c : (400 : Int) < h.len
    · refine ⟨σ, Runs.intro (fn := Try.f8) (by kernel_rfl) (by kernel_rfl) ⟨k0 + k1, fun k hk => ?_⟩⟩
      have r0 := r0 k (by omega)
      have r1 := r1 k (by omega)
      simp only at r0 r1
      simp only [f8_eq]
      simp only [Option.bind_some, decide_eq_true_eq, decide_eq_false_iff_not, Bool.not_eq_true', Bool.not_true, Bool.not_false, Bool.false_eq_true, Bool.true_eq_false, Bool.not_eq_eq_eq_not, beq_self_eq_true, beqFT, beqTF, decide_true, decide_false, not_false_eq_true, not_true_eq_false, ne_eq, true_and, and_true, false_and, and_false, and_self, if_true, if_false, ite_true, ite_false, Bool.and_true, Bool.and_false, Bool.true_and, Bool.false_and, Bool.or_true, Bool.true_or, Bool.or_false, Bool.false_or, or_true, true_or, or_false, false_or, or_self, AV.asInt, AV.asBool, AV.asSl, AV.asPtr, AV.asFn, AV.asStr, AV.asMap, AV.asIfc, AV.item, List.length_cons, List.length_nil, List.getElem?_cons_zero, List.getElem?_cons_succ, Nat.zero_add, r0, c, r1]
    · refine ⟨σ3, Runs.intro (fn := Try.f8) (by kernel_rfl) (by kernel_rfl) ⟨k0 + k1 + k2 + k3 + k4 + k5 + k6, fun k hk => ?_⟩⟩
      have r0 := r0 k (by omega)
      have r2 := r2 k (by omega)
      have r3 := r3 k (by omega)
      have r4 := r4 k (by omega)
      have r5 := r5 k (by omega)
      have r6 := r6 k (by omega)
      simp only [Option.bind_some, decide_eq_true_eq, decide_eq_false_iff_not, Bool.not_eq_true', Bool.not_true, Bool.not_false, Bool.false_eq_true, Bool.true_eq_false, Bool.not_eq_eq_eq_not, beq_self_eq_true, beqFT, beqTF, decide_true, decide_false, not_false_eq_true, not_true_eq_false, ne_eq, true_and, and_true, false_and, and_false, and_self, if_true, if_false, ite_true, ite_false, Bool.and_true, Bool.and_false, Bool.true_and, Bool.false_and, Bool.or_true, Bool.true_or, Bool.or_false, Bool.false_or, or_true, true_or, or_false, false_or, or_self, AV.asInt, AV.asBool, AV.asSl, AV.asPtr, AV.asFn, AV.asStr, AV.asMap, AV.asIfc, AV.item, List.length_cons, List.length_nil, List.getElem?_cons_zero, List.getElem?_cons_succ, Nat.zero_add] at r0 r2 r3 r4 r5 r6
      simp only [f8_eq]
      simp only [Option.bind_some, decide_eq_true_eq, decide_eq_false_iff_not, Bool.not_eq_true', Bool.not_true, Bool.not_false, Bool.false_eq_true, Bool.true_eq_false, Bool.not_eq_eq_eq_not, beq_self_eq_true, beqFT, beqTF, decide_true, decide_false, not_false_eq_true, not_true_eq_false, ne_eq, true_and, and_true, false_and, and_false, and_self, if_true, if_false, ite_true, ite_false, Bool.and_true, Bool.and_false, Bool.true_and, Bool.false_and, Bool.or_true, Bool.true_or, Bool.or_false, Bool.false_or, or_true, true_or, or_false, false_or, or_self, AV.asInt, AV.asBool, AV.asSl, AV.asPtr, AV.asFn, AV.asStr, AV.asMap, AV.asIfc, AV.item, List.length_cons, List.length_nil, List.getElem?_cons_zero, List.getElem?_cons_succ, Nat.zero_add, r0, c, e1, e2, r2, r3, r4, r5, r6]
theorem inv_perm {n : Nat} {l : List Int} (h : IsPerm n l) : IsPerm n (inv l) := by
  refine ⟨by rw [inv_length, h.len], fun p hp => ?_, ?_⟩
  · obtain ⟨i, i0, i1, rfl⟩ := mem_rd hp
    rw [inv_length, h.len] at i1
    have := inv_at h i0 i1
    exact ⟨this.1, this.2.1⟩
  · rw [List.Nodup, List.pairwise_iff_getElem]
    intro i j hi hj hij e
    rw [← rd_getElem hi, ← rd_getElem hj] at e
    rw [inv_length, h.len] at hi hj
    have h1 := (inv_at h (p := i) (by omega) (by omega)).2.2
    have h2 := (inv_at h (p := j) (by omega) (by omega)).2.2
    rw [e, h2] at h1
    omega
theorem inv_inv {n : Nat} {l : List Int} (h : IsPerm n l) : inv (inv l) = l := by
  have hp := inv_perm h
  refine Bs.ext_rd (by rw [inv_length, inv_length]) fun i i0 i1 => ?_
  rw [inv_length, inv_length, h.len] at i1
  have h1 := inv_at hp i0 i1
  -- rd (inv l) x = i for x = rd (inv (inv l)) i
  have h2 := (inv_at h h1.1 h1.2.1).2.2
  rw [h1.2.2] at h2
  exact h2.symm
theorem law_SuffixTurns {σ : Store} {h : Hdl} {l : List Int} (hT : σ.Ints h l) (hH : σ.Has h) (hn : l.length < 2 ^ 44) (hw : ∀ n ∈ l, IntKind.min .i64 ≤ n ∧ n ≤ IntKind.max .i64) (hp : σ.prot ≤ σ.objs.length) : ∃ σ', Runs Try.prog 10 [.slice h] σ (.bool true) σ' := by
  have ll := hT.ilen
  obtain ⟨k0, r0⟩ := first_told σ
  by_cases c : 2000 < l.length
  · have c' : (2000 : Int) < l.length := by omega
    refine ⟨σ, Runs.intro (fn := Try.f10) (by kernel_rfl) (by kernel_rfl) ⟨k0, fun k hk => ?_⟩⟩
    have r0 := r0 k (by omega)
    simp only at r0
    simp only [f10_eq]
    simp only [Option.bind_some, decide_eq_true_eq, decide_eq_false_iff_not, Bool.not_eq_true', Bool.not_true, Bool.not_false, Bool.false_eq_true, Bool.true_eq_false, Bool.not_eq_eq_eq_not, beq_self_eq_true, beqFT, beqTF, decide_true, decide_false, not_false_eq_true, not_true_eq_false, ne_eq, true_and, and_true, false_and, and_false, and_self, if_true, if_false, ite_true, ite_false, Bool.and_true, Bool.and_false, Bool.true_and, Bool.false_and, Bool.or_true, Bool.true_or, Bool.or_false, Bool.false_or, or_true, true_or, or_false, false_or, or_self, AV.asInt, AV.asBool, AV.asSl, AV.asPtr, AV.asFn, AV.asStr, AV.asMap, AV.asIfc, AV.item, List.length_cons, List.length_nil, List.getElem?_cons_zero, List.getElem?_cons_succ, Nat.zero_add, r0, ll, c']
  have c' : ¬ (2000 : Int) < l.length := by omega
  obtain ⟨h1, σ1, ⟨k1, r1⟩, K1, I1, H1⟩ := turn_run hT hp (by omega)
  have hT1 : σ1.Ints h l := Store.Sl.kp hT K1
  have hp1 : σ1.prot ≤ σ1.objs.length := by rw [K1.prot]; have := K1.len; omega
  obtain ⟨h2, σ2, ⟨k2, r2⟩, K2, I2, H2⟩ := turned_run hT1 hp1 (by omega)
  have hp2 : σ2.prot ≤ σ2.objs.length := by rw [K2.prot]; have := K2.len; omega
  have K12 := K1.all K2
  cases hb : permB l with
  | false =>
    rw [hb] at r1 r2 I1
    have lz : ((h1.len : Nat) : Int) = 0 := by have := I1.ilen; rw [this]; rfl
    refine ⟨σ2, Runs.intro (fn := Try.f10) (by kernel_rfl) (by kernel_rfl) ⟨k0 + k1 + k2, fun k hk => ?_⟩⟩
    have r0 := r0 k (by omega)
    have r1 := r1 k (by omega)
    have r2 := r2 k (by omega)
    simp only [Option.bind_some, decide_eq_true_eq, decide_eq_false_iff_not, Bool.not_eq_true', Bool.not_true, Bool.not_false, Bool.false_eq_true, Bool.true_eq_false, Bool.not_eq_eq_eq_not, beq_self_eq_true, beqFT, beqTF, decide_true, decide_false, not_false_eq_true, not_true_eq_false, ne_eq, true_and, and_true, false_and, and_false, and_self, if_true, if_false, ite_true, ite_false, Bool.and_true, Bool.and_false, Bool.true_and, Bool.false_and, Bool.or_true, Bool.true_or, Bool.or_false, Bool.false_or, or_true, true_or, or_false, false_or, or_self, AV.asInt, AV.asBool, AV.asSl, AV.asPtr, AV.asFn, AV.asStr, AV.asMap, AV.asIfc, AV.item, List.length_cons, List.length_nil, List.getElem?_cons_zero, List.getElem?_cons_succ, Nat.zero_add] at r0 r1 r2
    simp only [f10_eq]
    simp only [Option.bind_some, decide_eq_true_eq, decide_eq_false_iff_not, Bool.not_eq_true', Bool.not_true, Bool.not_false, Bool.false_eq_true, Bool.true_eq_false, Bool.not_eq_eq_eq_not, beq_self_eq_true, beqFT, beqTF, decide_true, decide_false, not_false_eq_true, not_true_eq_false, ne_eq, true_and, and_true, false_and, and_false, and_self, if_true, if_false, ite_true, ite_false, Bool.and_true, Bool.and_false, Bool.true_and, Bool.false_and, Bool.or_true, Bool.true_or, Bool.or_false, Bool.false_or, or_true, true_or, or_false, false_or, or_self, AV.asInt, AV.asBool, AV.asSl, AV.asPtr, AV.asFn, AV.asStr, AV.asMap, AV.asIfc, AV.item, List.length_cons, List.length_nil, List.getElem?_cons_zero, List.getElem?_cons_succ, Nat.zero_add, r0, ll, c', r1, r2, lz]
  | true =>
    rw [hb] at r1 r2 I1 I2
    rw [if_pos rfl] at I1 I2
    have hperm := permB_iff.1 hb
    have I12 : σ2.Ints h1 (inv l) := Store.Sl.kp I1 K2
    obtain ⟨h3, σ3, ⟨k3, r3⟩, K3, I3, H3⟩ := turn_run I12 hp2 (by rw [inv_length]; omega)
    have hb3 : permB (inv l) = true := permB_iff.2 (by rw [inv_length]; exact inv_perm hperm)
    rw [hb3] at r3 I3
    rw [if_pos rfl, inv_inv hperm] at I3
    obtain ⟨k4, r4⟩ := same_self (Store.Sl.kp I12 K3) (Store.Sl.kp I2 K3) (by rw [inv_length]; omega)
    obtain ⟨k5, r5⟩ := same_self I3 (Store.Sl.kp hT (K12.all K3)) (by omega)
    refine ⟨σ3, Runs.intro (fn := Try.f10) (by kernel_rfl) (by kernel_rfl) ⟨k0 + k1 + k2 + k3 + k4 + k5, fun k hk => ?_⟩⟩
    have r0 := r0 k (by omega)
    have r1 := r1 k (by omega)
    have r2 := r2 k (by omega)
    have r3 := r3 k (by omega)
    have r4 := r4 k (by omega)
    have r5 := r5 k (by omega)
    simp only [Option.bind_some, decide_eq_true_eq, decide_eq_false_iff_not, Bool.not_eq_true', Bool.not_true, Bool.not_false, Bool.false_eq_true, Bool.true_eq_false, Bool.not_eq_eq_eq_not, beq_self_eq_true, beqFT, beqTF, decide_true, decide_false, not_false_eq_true, not_true_eq_false, ne_eq, true_and, and_true, false_and, and_false, and_self, if_true, if_false, ite_true, ite_false, Bool.and_true, Bool.and_false, Bool.true_and, Bool.false_and, Bool.or_true, Bool.true_or, Bool.or_false, Bool.false_or, or_true, true_or, or_false, false_or, or_self, AV.asInt, AV.asBool, AV.asSl, AV.asPtr, AV.asFn, AV.asStr, AV.asMap, AV.asIfc, AV.item, List.length_cons, List.length_nil, List.getElem?_cons_zero, List.getElem?_cons_succ, Nat.zero_add] at r0 r1 r2 r3 r4 r5
    simp only [f10_eq]
    simp only [Option.bind_some, decide_eq_true_eq, decide_eq_false_iff_not, Bool.not_eq_true', Bool.not_true, Bool.not_false, Bool.false_eq_true, Bool.true_eq_false, Bool.not_eq_eq_eq_not, beq_self_eq_true, beqFT, beqTF, decide_true, decide_false, not_false_eq_true, not_true_eq_false, ne_eq, true_and, and_true, false_and, and_false, and_self, if_true, if_false, ite_true, ite_false, Bool.and_true, Bool.and_false, Bool.true_and, Bool.false_and, Bool.or_true, Bool.true_or, Bool.or_false, Bool.false_or, or_true, true_or, or_false, false_or, or_self, AV.asInt, AV.asBool, AV.asSl, AV.asPtr, AV.asFn, AV.asStr, AV.asMap, AV.asIfc, AV.item, List.length_cons, List.length_nil, List.getElem?_cons_zero, List.getElem?_cons_succ, Nat.zero_add, r0, ll, c', r1, r2, r3, r4, r5]
/-! ### SuffixLeast -/
theorem cmpL_spec : ∀ a b : List Int, (cmpL a b = -1 ↔ llt a b) ∧ (cmpL a b = 1 ↔ llt b a) ∧ (cmpL a b = 0 ↔ a = b)
  | [], [] => by simp [cmpL, llt]
  | [], _ :: _ => by simp [cmpL, llt]
  | _ :: _, [] => by simp [cmpL, llt]
  | x :: xs, y :: ys => by
    obtain ⟨h1, h2, h3⟩ := cmpL_spec xs ys
    simp only [cmpL, llt, List.cons.injEq]
    by_cases c1 : x < y
    · rw [if_pos c1]
      refine ⟨by simp [c1], by simp; omega, by simp; omega⟩
    · rw [if_neg c1]
      by_cases c2 : y < x
      · rw [if_pos c2]
        refine ⟨by simp; omega, by simp [c2], by simp; omega⟩
      · rw [if_neg c2]
        have e : x = y := by omega
        subst e
        simp [h1, h2, h3]
theorem leastOf_in {t : List Int} {a b : Int} (a0 : 0 ≤ a) (a1 : a < t.length) (b0 : 0 ≤ b) (b1 : b < t.length) : leastOf t a b = cmpL (t.drop a.toNat) (t.drop b.toNat) := by
  unfold leastOf mn2 mx2
  rw [if_neg]
  split <;> split <;> omega
theorem leastOf_out {t : List Int} {a b : Int} (h : ¬ (0 ≤ a ∧ 0 ≤ b ∧ a < t.length ∧ b < t.length)) : leastOf t a b = 0 := by
  unfold leastOf mn2 mx2
  rw [if_pos]
  split <;> split <;> omega
theorem leastOf_self {t : List Int} {a : Int} : leastOf t a a = 0 := by
  by_cases c : 0 ≤ a ∧ a < t.length
  · rw [leastOf_in c.1 c.2 c.1 c.2, (cmpL_spec _ _).2.2]
  · exact leastOf_out (by omega)
theorem leastOf_lt {t : List Int} {a b : Int} (a0 : 0 ≤ a) (a1 : a < t.length) (b0 : 0 ≤ b) (b1 : b < t.length) (h : sl t a b) : leastOf t a b = -1 ∧ leastOf t b a = 1 := by
  rw [leastOf_in a0 a1 b0 b1, leastOf_in b0 b1 a0 a1]
  exact ⟨(cmpL_spec _ _).1.2 h, (cmpL_spec _ _).2.1.2 h⟩
theorem law_SuffixLeast {σ : Store} {h : Hdl} {t : List Int} {a b : Int} (hT : σ.Ints h t) (hH : σ.Has h) (hn : t.length < 2 ^ 44) (hw : ∀ n ∈ t, IntKind.min .i64 ≤ n ∧ n ≤ IntKind.max .i64) (ha : IntKind.min .i64 ≤ a ∧ a ≤ IntKind.max .i64) (hb : IntKind.min .i64 ≤ b ∧ b ≤ IntKind.max .i64) (hp : σ.prot ≤ σ.objs.length) : ∃ σ', Runs Try.prog 11 [.slice h, .int .i64 a, .int .i64 b] σ (.bool true) σ' := by
  have ll := hT.ilen
  obtain ⟨k0, r0⟩ := first_told σ
  refine ⟨σ, Runs.intro (fn := Try.f11) (by kernel_rfl) (by kernel_rfl) ?_⟩
  by_cases c : 2000 < t.length
  · have c' : (2000 : Int) < t.length := by omega
    refine ⟨k0, fun k hk => ?_⟩
    have r0 := r0 k (by omega)
    simp only at r0
    simp only [f11_eq]
    simp only [Option.bind_some, decide_eq_true_eq, decide_eq_false_iff_not, Bool.not_eq_true', Bool.not_true, Bool.not_false, Bool.false_eq_true, Bool.true_eq_false, Bool.not_eq_eq_eq_not, beq_self_eq_true, beqFT, beqTF, decide_true, decide_false, not_false_eq_true, not_true_eq_false, ne_eq, true_and, and_true, false_and, and_false, and_self, if_true, if_false, ite_true, ite_false, Bool.and_true, Bool.and_false, Bool.true_and, Bool.false_and, Bool.or_true, Bool.true_or, Bool.or_false, Bool.false_or, or_true, true_or, or_false, false_or, or_self, AV.asInt, AV.asBool, AV.asSl, AV.asPtr, AV.asFn, AV.asStr, AV.asMap, AV.asIfc, AV.item, List.length_cons, List.length_nil, List.getElem?_cons_zero, List.getElem?_cons_succ, Nat.zero_add, r0, ll, c']
  have c' : ¬ (2000 : Int) < t.length := by omega
  obtain ⟨k1, r1⟩ := least_run hT hH (by omega) a b
  obtain ⟨k2, r2⟩ := least_run hT hH (by omega) b a
  have w0 : IntKind.wrap .i64 (0 - 0) = 0 := by decide
  have w1 : IntKind.wrap .i64 (0 - 1) = -1 := by decide
  have w2 : IntKind.wrap .i64 (0 - -1) = 1 := by decide
  by_cases d : 0 ≤ a ∧ 0 ≤ b ∧ a < t.length ∧ b < t.length ∧ ¬ a = b
  · obtain ⟨d1, d2, d3, d4, d5⟩ := d
    obtain ⟨k3, r3⟩ := less_run hT (by omega) d1 (by omega) d2 (by omega)
    rcases sl_tri d1 d3 d2 d4 d5 with hs | hs
    · obtain ⟨e1, e2⟩ := leastOf_lt d1 d3 d2 d4 hs
      rw [e1] at r1
      rw [e2] at r2
      rw [decide_eq_true hs] at r3
      refine ⟨k0 + k1 + k2 + k3, fun k hk => ?_⟩
      have r0 := r0 k (by omega)
      have r1 := r1 k (by omega)
      have r2 := r2 k (by omega)
      have r3 := r3 k (by omega)
      simp only at r0 r1 r2 r3
      simp only [f11_eq]
      simp only [Option.bind_some, decide_eq_true_eq, decide_eq_false_iff_not, Bool.not_eq_true', Bool.not_true, Bool.not_false, Bool.false_eq_true, Bool.true_eq_false, Bool.not_eq_eq_eq_not, beq_self_eq_true, beqFT, beqTF, decide_true, decide_false, not_false_eq_true, not_true_eq_false, ne_eq, true_and, and_true, false_and, and_false, and_self, if_true, if_false, ite_true, ite_false, Bool.and_true, Bool.and_false, Bool.true_and, Bool.false_and, Bool.or_true, Bool.true_or, Bool.or_false, Bool.false_or, or_true, true_or, or_false, false_or, or_self, AV.asInt, AV.asBool, AV.asSl, AV.asPtr, AV.asFn, AV.asStr, AV.asMap, AV.asIfc, AV.item, List.length_cons, List.length_nil, List.getElem?_cons_zero, List.getElem?_cons_succ, Nat.zero_add, r0, ll, c', d1, d2, d3, d4, d5, r1, r2, r3, w2]
    · obtain ⟨e1, e2⟩ := leastOf_lt d2 d4 d1 d3 hs
      have hn : ¬ sl t a b := fun h => sl_irrefl t a (sl_trans h hs)
      rw [e2] at r1
      rw [e1] at r2
      rw [decide_eq_false hn] at r3
      refine ⟨k0 + k1 + k2 + k3, fun k hk => ?_⟩
      have r0 := r0 k (by omega)
      have r1 := r1 k (by omega)
      have r2 := r2 k (by omega)
      have r3 := r3 k (by omega)
      simp only at r0 r1 r2 r3
      simp only [f11_eq]
      simp only [Option.bind_some, decide_eq_true_eq, decide_eq_false_iff_not, Bool.not_eq_true', Bool.not_true, Bool.not_false, Bool.false_eq_true, Bool.true_eq_false, Bool.not_eq_eq_eq_not, beq_self_eq_true, beqFT, beqTF, decide_true, decide_false, not_false_eq_true, not_true_eq_false, ne_eq, true_and, and_true, false_and, and_false, and_self, if_true, if_false, ite_true, ite_false, Bool.and_true, Bool.and_false, Bool.true_and, Bool.false_and, Bool.or_true, Bool.true_or, Bool.or_false, Bool.false_or, or_true, true_or, or_false, false_or, or_self, AV.asInt, AV.asBool, AV.asSl, AV.asPtr, AV.asFn, AV.asStr, AV.asMap, AV.asIfc, AV.item, List.length_cons, List.length_nil, List.getElem?_cons_zero, List.getElem?_cons_succ, Nat.zero_add, r0, ll, c', d1, d2, d3, d4, d5, r1, r2, r3, w1]
  · have e1 : leastOf t a b = 0 := by
      by_cases e : a = b
      · rw [e]; exact leastOf_self
      · exact leastOf_out (by omega)
    have e2 : leastOf t b a = 0 := by
      by_cases e : a = b
      · rw [e]; exact leastOf_self
      · exact leastOf_out (by omega)
    rw [e1] at r1
    rw [e2] at r2
    refine ⟨k0 + k1 + k2, fun k hk => ?_⟩
    have r0 := r0 k (by omega)
    have r1 := r1 k (by omega)
    have r2 := r2 k (by omega)
    simp only at r0 r1 r2
    simp only [f11_eq]
    by_cases d1 : 0 ≤ a
    · by_cases d2 : 0 ≤ b
      · by_cases d3 : a < t.length
        · by_cases d4 : b < t.length
          · have d5 : a = b := by omega
            simp only [Option.bind_some, decide_eq_true_eq, decide_eq_false_iff_not, Bool.not_eq_true', Bool.not_true, Bool.not_false, Bool.false_eq_true, Bool.true_eq_false, Bool.not_eq_eq_eq_not, beq_self_eq_true, beqFT, beqTF, decide_true, decide_false, not_false_eq_true, not_true_eq_false, ne_eq, true_and, and_true, false_and, and_false, and_self, if_true, if_false, ite_true, ite_false, Bool.and_true, Bool.and_false, Bool.true_and, Bool.false_and, Bool.or_true, Bool.true_or, Bool.or_false, Bool.false_or, or_true, true_or, or_false, false_or, or_self, AV.asInt, AV.asBool, AV.asSl, AV.asPtr, AV.asFn, AV.asStr, AV.asMap, AV.asIfc, AV.item, List.length_cons, List.length_nil, List.getElem?_cons_zero, List.getElem?_cons_succ, Nat.zero_add, r0, ll, c', d1, d2, d3, d4, d5, r1, r2, w0] at r1 r2 ⊢
            simp only [Option.bind_some, decide_eq_true_eq, decide_eq_false_iff_not, Bool.not_eq_true', Bool.not_true, Bool.not_false, Bool.false_eq_true, Bool.true_eq_false, Bool.not_eq_eq_eq_not, beq_self_eq_true, beqFT, beqTF, decide_true, decide_false, not_false_eq_true, not_true_eq_false, ne_eq, true_and, and_true, false_and, and_false, and_self, if_true, if_false, ite_true, ite_false, Bool.and_true, Bool.and_false, Bool.true_and, Bool.false_and, Bool.or_true, Bool.true_or, Bool.or_false, Bool.false_or, or_true, true_or, or_false, false_or, or_self, AV.asInt, AV.asBool, AV.asSl, AV.asPtr, AV.asFn, AV.asStr, AV.asMap, AV.asIfc, AV.item, List.length_cons, List.length_nil, List.getElem?_cons_zero, List.getElem?_cons_succ, Nat.zero_add, r0, ll, c', d1, d2, d3, d4, d5, r1, r2, w0]
          · simp only [Option.bind_some, decide_eq_true_eq, decide_eq_false_iff_not, Bool.not_eq_true', Bool.not_true, Bool.not_false, Bool.false_eq_true, Bool.true_eq_false, Bool.not_eq_eq_eq_not, beq_self_eq_true, beqFT, beqTF, decide_true, decide_false, not_false_eq_true, not_true_eq_false, ne_eq, true_and, and_true, false_and, and_false, and_self, if_true, if_false, ite_true, ite_false, Bool.and_true, Bool.and_false, Bool.true_and, Bool.false_and, Bool.or_true, Bool.true_or, Bool.or_false, Bool.false_or, or_true, true_or, or_false, false_or, or_self, AV.asInt, AV.asBool, AV.asSl, AV.asPtr, AV.asFn, AV.asStr, AV.asMap, AV.asIfc, AV.item, List.length_cons, List.length_nil, List.getElem?_cons_zero, List.getElem?_cons_succ, Nat.zero_add, r0, ll, c', d1, d2, d3, d4, r1, r2, w0]
        · simp only [Option.bind_some, decide_eq_true_eq, decide_eq_false_iff_not, Bool.not_eq_true', Bool.not_true, Bool.not_false, Bool.false_eq_true, Bool.true_eq_false, Bool.not_eq_eq_eq_not, beq_self_eq_true, beqFT, beqTF, decide_true, decide_false, not_false_eq_true, not_true_eq_false, ne_eq, true_and, and_true, false_and, and_false, and_self, if_true, if_false, ite_true, ite_false, Bool.and_true, Bool.and_false, Bool.true_and, Bool.false_and, Bool.or_true, Bool.true_or, Bool.or_false, Bool.false_or, or_true, true_or, or_false, false_or, or_self, AV.asInt, AV.asBool, AV.asSl, AV.asPtr, AV.asFn, AV.asStr, AV.asMap, AV.asIfc, AV.item, List.length_cons, List.length_nil, List.getElem?_cons_zero, List.getElem?_cons_succ, Nat.zero_add, r0, ll, c', d1, d2, d3, r1, r2, w0]
      · simp only [Option.bind_some, decide_eq_true_eq, decide_eq_false_iff_not, Bool.not_eq_true', Bool.not_true, Bool.not_false, Bool.false_eq_true, Bool.true_eq_false, Bool.not_eq_eq_eq_not, beq_self_eq_true, beqFT, beqTF, decide_true, decide_false, not_false_eq_true, not_true_eq_false, ne_eq, true_and, and_true, false_and, and_false, and_self, if_true, if_false, ite_true, ite_false, Bool.and_true, Bool.and_false, Bool.true_and, Bool.false_and, Bool.or_true, Bool.true_or, Bool.or_false, Bool.false_or, or_true, true_or, or_false, false_or, or_self, AV.asInt, AV.asBool, AV.asSl, AV.asPtr, AV.asFn, AV.asStr, AV.asMap, AV.asIfc, AV.item, List.length_cons, List.length_nil, List.getElem?_cons_zero, List.getElem?_cons_succ, Nat.zero_add, r0, ll, c', d1, d2, r1, r2, w0]
    · simp only [Option.bind_some, decide_eq_true_eq, decide_eq_false_iff_not, Bool.not_eq_true', Bool.not_true, Bool.not_false, Bool.false_eq_true, Bool.true_eq_false, Bool.not_eq_eq_eq_not, beq_self_eq_true, beqFT, beqTF, decide_true, decide_false, not_false_eq_true, not_true_eq_false, ne_eq, true_and, and_true, false_and, and_false, and_self, if_true, if_false, ite_true, ite_false, Bool.and_true, Bool.and_false, Bool.true_and, Bool.false_and, Bool.or_true, Bool.true_or, Bool.or_false, Bool.false_or, or_true, true_or, or_false, false_or, or_self, AV.asInt, AV.asBool, AV.asSl, AV.asPtr, AV.asFn, AV.asStr, AV.asMap, AV.asIfc, AV.item, List.length_cons, List.length_nil, List.getElem?_cons_zero, List.getElem?_cons_succ, Nat.zero_add, r0, ll, c', d1, r1, r2, w0]
end Go.Ab
