/- A part of the proof of the law BwtKeeps: lemmas alone; what each says stands at it. No conditions. -/
import Derived.Test.YtmbbcabhgcagaaaAbBwtKeeps3
import Derived.Test.YtmbbcabhgcagaaaAbBwtKeeps1
import Derived.Test.YtmbbcabhgcagaaaAbBwtKeeps2
/- Counts. -/
namespace Go.Ab
open Go Go.Proofs Go.Ab.Wd Go.Ab.Bs Go.Ab.Sai
set_option linter.unusedVariables false
set_option linter.unusedSimpArgs false
/-- May a list be counted? -/
def okC (t : List Int) (al : Int) : Bool := decide (0 ≤ al) && decide (al ≤ 4194304) && !(t.any fun c => decide (c < 0) || decide (al ≤ c))
theorem okC_iff {t : List Int} {al : Int} : okC t al = true ↔ 0 ≤ al ∧ al ≤ 4194304 ∧ ∀ x ∈ t, 0 ≤ x ∧ x < al := by
  simp only [okC, Bool.and_eq_true, decide_eq_true_eq, Bool.not_eq_true', List.any_eq_false, Bool.or_eq_true, and_assoc]
  refine and_congr_right fun _ => and_congr_right fun _ => ?_
  exact ⟨fun h x hx => by have := h x hx; omega, fun h x hx => by have := h x hx; omega⟩
/-- How many are below each number. -/
def below (b : List Int) (c : Int) : Int := (cnt (fun x => decide (x < c)) b : Nat)
def belows (b : List Int) (n : Nat) : List Int := (List.range n).map fun c : Nat => below b c
theorem belows_length (b : List Int) (n : Nat) : (belows b n).length = n := by simp [belows]
theorem rd_belows {b : List Int} {n : Nat} {c : Int} (h0 : 0 ≤ c) (h1 : c < n) : rd (belows b n) c = below b c := by
  obtain ⟨c, rfl⟩ := Int.eq_ofNat_of_zero_le h0
  rw [rd_getElem (by rw [belows_length]; omega)]
  simp [belows]
theorem below_succ (b : List Int) (c : Int) : below b (c + 1) = below b c + (cnt (fun x => decide (x = c)) b : Nat) := by
  unfold below
  rw [← Int.natCast_add, ← cnt_or b fun x _ => by simp; omega]
  congr 1
  refine cnt_congr fun x _ => ?_
  by_cases c1 : x < c
  · simp [c1]; omega
  · by_cases c2 : x = c
    · simp [c2]; omega
    · simp [c1, c2]; omega
theorem below_zero {b : List Int} (h : ∀ x ∈ b, 0 ≤ x) : below b 0 = 0 := by
  unfold below Bs.cnt
  rw [List.filter_eq_nil_iff.2 fun x hx => by have := h x hx; simp; omega]; rfl
theorem below_le (b : List Int) (c : Int) : 0 ≤ below b c ∧ below b c ≤ b.length := by
  have := cnt_le (fun x => decide (x < c)) b
  unfold below; omega
theorem counts_c1_run {σ : Store} {b : Nat} {al : Int} (h : σ.ldInt .i64 (some (b, 0)) = some al) (x : Int) : Runs Try.prog 47 [.int .i64 x, .ptr (some (b, 0))] σ (.bool (decide (x < 0) || decide (al ≤ x))) σ := by
  refine Runs.intro (fn := Try.f47) (by kernel_rfl) (by kernel_rfl) (Ev.of fun k => ?_)
  rw [f47_eq]
  by_cases c : x < 0
  · simp [c]
  · simp [c, h]
/-- One of each number, a place on. -/
structure CntI (b : List Int) (n : Nat) (i : Nat) (o : List Int) : Prop where
  len : o.length = n + 1
  zero : rd o 0 = 0
  val : ∀ c : Int, 0 ≤ c → c < n → rd o (c + 1) = (cnt (fun x => decide (x = c)) (b.take i) : Nat)
/-- Sums up to a place. -/
structure SumI (b : List Int) (n : Nat) (i : Nat) (o : List Int) : Prop where
  len : o.length = n + 1
  lo : ∀ c : Int, 0 ≤ c → c ≤ i → rd o c = below b c
  hi : ∀ c : Int, (i : Int) ≤ c → c < n → rd o (c + 1) = (cnt (fun x => decide (x = c)) b : Nat)
theorem counts_run {σ : Store} {h : Hdl} {b : List Int} {al : Int} (hT : σ.Ints h b) (hp : σ.prot ≤ σ.objs.length) (hn : b.length < 2 ^ 61) :
    ∃ ho σ', Runs Try.prog 20 [.slice h, .int .i64 al] σ (.tuple [.slice ho, .int .i64 (if okC b al = true then 0 else 2)]) σ' ∧ Kp σ.objs.length σ σ' ∧ σ'.Ints ho (if okC b al = true then belows b (al.toNat + 1) else []) ∧ σ'.Has ho ∧
      (okC b al = true → ∃ N, σ.objs.length ≤ N ∧ ho = hdS N (al.toNat + 1) ∧ σ'.Row N 1 (intsL (belows b (al.toNat + 1)))) := by
  have ll := hT.ilen
  obtain ⟨σ1, h1⟩ : ∃ x, x = σ.push [.int .i64 al] 1 := ⟨_, rfl⟩
  have k1 : Kp σ.objs.length σ σ1 := by rw [h1]; exact Kp.push _ _ (Nat.le_refl _)
  have len1 : σ1.objs.length = σ.objs.length + 1 := by rw [h1]; simp
  have R1 : σ1.Row σ.objs.length 1 [.int .i64 al] := by rw [h1]; exact Store.Row.new
  have ldr : ∀ {s : Store}, s.Row σ.objs.length 1 [.int .i64 al] → s.ldInt .i64 (some (σ.objs.length, 0)) = some al := fun {s} r => by simp only [Store.ldInt, r.cell]; simp
  have e1 := ldr R1
  have hT1 : σ1.Ints h b := Store.Sl.kp hT k1
  have bad : okC b al = false → (∃ k0, ∀ k, k0 ≤ k → evBody Try.prog (gm Try.prog k) drawn k Try.f20 [.slice h, .int .i64 al] σ = some (.tuple [.slice Hdl.nil, .int .i64 2], σ1)) →
      ∃ ho σ', Runs Try.prog 20 [.slice h, .int .i64 al] σ (.tuple [.slice ho, .int .i64 (if okC b al = true then 0 else 2)]) σ' ∧ Kp σ.objs.length σ σ' ∧ σ'.Ints ho (if okC b al = true then belows b (al.toNat + 1) else []) ∧ σ'.Has ho ∧
        (okC b al = true → ∃ N, σ.objs.length ≤ N ∧ ho = hdS N (al.toNat + 1) ∧ σ'.Row N 1 (intsL (belows b (al.toNat + 1)))) := by
    intro hb hr
    rw [if_neg (by rw [hb]; simp), if_neg (by rw [hb]; simp)]
    exact ⟨Hdl.nil, σ1, Runs.intro (fn := Try.f20) (by kernel_rfl) (by kernel_rfl) hr, k1, ints_nil _, Store.Has.nil _, fun h => by rw [hb] at h; cases h⟩
  by_cases c1 : al < 0
  · exact bad (by simp [okC]; omega) ⟨0, fun k _ => by rw [f20_eq, ← h1]; simp only [Option.bind_some, decide_eq_true_eq, decide_eq_false_iff_not, Bool.not_eq_true', Bool.not_true, Bool.not_false, Bool.false_eq_true, Bool.true_eq_false, Bool.not_eq_eq_eq_not, beq_self_eq_true, beqFT, beqTF, decide_true, decide_false, not_false_eq_true, not_true_eq_false, ne_eq, true_and, and_true, false_and, and_false, and_self, if_true, if_false, ite_true, ite_false, Bool.and_true, Bool.and_false, Bool.true_and, Bool.false_and, Bool.or_true, Bool.true_or, Bool.or_false, Bool.false_or, or_true, true_or, or_false, false_or, or_self, AV.asInt, AV.asBool, AV.asSl, AV.asPtr, AV.asFn, AV.asStr, AV.asMap, AV.asIfc, AV.item, List.length_cons, List.length_nil, List.getElem?_cons_zero, List.getElem?_cons_succ, Nat.zero_add, e1, c1]⟩
  by_cases c2 : 4194304 < al
  · exact bad (by simp [okC]; omega) ⟨0, fun k _ => by rw [f20_eq, ← h1]; simp only [Option.bind_some, decide_eq_true_eq, decide_eq_false_iff_not, Bool.not_eq_true', Bool.not_true, Bool.not_false, Bool.false_eq_true, Bool.true_eq_false, Bool.not_eq_eq_eq_not, beq_self_eq_true, beqFT, beqTF, decide_true, decide_false, not_false_eq_true, not_true_eq_false, ne_eq, true_and, and_true, false_and, and_false, and_self, if_true, if_false, ite_true, ite_false, Bool.and_true, Bool.and_false, Bool.true_and, Bool.false_and, Bool.or_true, Bool.true_or, Bool.or_false, Bool.false_or, or_true, true_or, or_false, false_or, or_self, AV.asInt, AV.asBool, AV.asSl, AV.asPtr, AV.asFn, AV.asStr, AV.asMap, AV.asIfc, AV.item, List.length_cons, List.length_nil, List.getElem?_cons_zero, List.getElem?_cons_succ, Nat.zero_add, e1, c1, c2]⟩
  obtain ⟨k2, r2⟩ := containsFunc_run (g := 47) (a := []) (c := [.ptr (some (σ.objs.length, 0))]) hT1 (by omega) (fun x _ => counts_c1_run e1 x)
  by_cases c4 : (b.any fun c => decide (c < 0) || decide (al ≤ c)) = true
  · rw [c4] at r2
    refine bad (by simp only [okC, c4]; simp) ⟨k2, fun k hk => ?_⟩
    have r2 := r2 k hk
    simp only at r2
    rw [f20_eq, ← h1]; simp only [Option.bind_some, decide_eq_true_eq, decide_eq_false_iff_not, Bool.not_eq_true', Bool.not_true, Bool.not_false, Bool.false_eq_true, Bool.true_eq_false, Bool.not_eq_eq_eq_not, beq_self_eq_true, beqFT, beqTF, decide_true, decide_false, not_false_eq_true, not_true_eq_false, ne_eq, true_and, and_true, false_and, and_false, and_self, if_true, if_false, ite_true, ite_false, Bool.and_true, Bool.and_false, Bool.true_and, Bool.false_and, Bool.or_true, Bool.true_or, Bool.or_false, Bool.false_or, or_true, true_or, or_false, false_or, or_self, AV.asInt, AV.asBool, AV.asSl, AV.asPtr, AV.asFn, AV.asStr, AV.asMap, AV.asIfc, AV.item, List.length_cons, List.length_nil, List.getElem?_cons_zero, List.getElem?_cons_succ, Nat.zero_add, e1, c1, c2, r2]
  have c4' : (b.any fun c => decide (c < 0) || decide (al ≤ c)) = false := by simpa using c4
  have hok : okC b al = true := by simp only [okC, c4']; simp; omega
  obtain ⟨g1, g2, g3⟩ := okC_iff.1 hok
  obtain ⟨n, rfl⟩ := Int.eq_ofNat_of_zero_le g1
  rw [if_pos hok, if_pos hok, show ((n : Int)).toNat = n by omega]
  have hrng : ∀ x ∈ b, 0 ≤ x ∧ x < (n : Int) := g3
  obtain ⟨σ2, h2⟩ : ∃ x, x = σ1.push (intsL (List.replicate (n + 1) 0)) 1 := ⟨_, rfl⟩
  have K2 : Kp (σ.objs.length + 1) σ1 σ2 := by rw [h2]; exact Kp.push _ _ (by omega)
  have R2 : σ2.Row σ1.objs.length 1 (intsL (List.replicate (n + 1) 0)) := by rw [h2]; exact Store.Row.new
  -- counts
  obtain ⟨ra, ea, o3, σ3, rfl, K3, R3, M3⟩ := EvI.up (f := fun k s => stepF Try.prog (gm Try.prog k) drawn k Try.f20 [1, 1, 1, 0, 1, 0] [26, 25, 24, 6, 3] s) b.length
    (fun i s => ∃ o s1, s = ([.int .i64 i, .int .i64 b.length, .slice h, .slice (hdS σ1.objs.length (n + 1)), .ptr (some (σ.objs.length, 0))], s1) ∧ Kp (σ.objs.length + 1) σ1 s1 ∧ s1.Row σ1.objs.length 1 (intsL o) ∧ CntI b n i o)
    (fun r => ∃ o s1, r = (AX.exit 0, [(6, .slice (hdS σ1.objs.length (n + 1))), (3, .ptr (some (σ.objs.length, 0)))], s1) ∧ Kp (σ.objs.length + 1) σ1 s1 ∧ s1.Row σ1.objs.length 1 (intsL o) ∧ CntI b n b.length o)
    (by
      rintro i s hi ⟨o, s1, rfl, kk, rr, m⟩
      have i0 : (0 : Int) ≤ i := by omega
      have i1 : (i : Int) < b.length := by omega
      have w := wsucc hi (by omega)
      have rx := Store.Ints.rd (Store.Sl.kp hT (k1.trans (kk.mono (by omega)))) i0 i1
      obtain ⟨x0, x1⟩ := hrng _ (rd_mem i0 i1)
      have lo := m.len
      have w1 : IntKind.wrap .i64 (rd b i + 1) = rd b i + 1 := wrap64 (by omega) (by omega)
      have y0 : 0 ≤ rd b i + 1 := by omega
      have y1 : rd b i + 1 < ((n + 1 : Nat) : Int) := by omega
      have ro := rr.ld_ints (len := n + 1) (cp := some (n + 1)) y0 (by omega)
      have mv := m.val _ x0 x1
      have cl := cnt_le (fun x => decide (x = rd b i)) (b.take i)
      rw [List.length_take] at cl
      have w2 : IntKind.wrap .i64 (rd o (rd b i + 1) + 1) = rd o (rd b i + 1) + 1 := wrap64 (by omega) (by omega)
      have st := st_ints (x := rd o (rd b i + 1) + 1) (len := n + 1) (cp := some (n + 1)) rr (by rw [kk.prot, k1.prot]; omega) y0 (by omega)
      refine ⟨_, Ev.of fun k => by simp only [f20_L111010]; simp only [Option.bind_some, decide_eq_true_eq, decide_eq_false_iff_not, Bool.not_eq_true', Bool.not_true, Bool.not_false, Bool.false_eq_true, Bool.true_eq_false, Bool.not_eq_eq_eq_not, beq_self_eq_true, beqFT, beqTF, decide_true, decide_false, not_false_eq_true, not_true_eq_false, ne_eq, true_and, and_true, false_and, and_false, and_self, if_true, if_false, ite_true, ite_false, Bool.and_true, Bool.and_false, Bool.true_and, Bool.false_and, Bool.or_true, Bool.true_or, Bool.or_false, Bool.false_or, or_true, true_or, or_false, false_or, or_self, AV.asInt, AV.asBool, AV.asSl, AV.asPtr, AV.asFn, AV.asStr, AV.asMap, AV.asIfc, AV.item, List.length_cons, List.length_nil, List.getElem?_cons_zero, List.getElem?_cons_succ, Nat.zero_add, ll, i0, i1, rx, w1, y0, y1, ro, w2, st, w], o.set (rd b i + 1).toNat (rd o (rd b i + 1) + 1), _, rfl, kk.setO (by omega), Store.Row.setO_eq rr.lt, ⟨by simpa using lo, ?_, fun c c0 c1 => ?_⟩⟩
      · rw [rd_set y0 (by omega) (Int.le_refl 0), if_neg (by omega)]; exact m.zero
      · rw [rd_set y0 (by omega) (by omega), cnt_take_succ _ hi, m.val c c0 c1]
        by_cases e : rd b i = c
        · rw [if_pos (by omega), if_pos (by simp [e]), mv, e]; omega
        · rw [if_neg (by omega), if_neg (by simpa using e)]; omega)
    (by
      rintro s ⟨o, s1, rfl, kk, rr, m⟩
      exact ⟨_, Ev.of fun k => by simp only [f20_L111010]; simp only [Option.bind_some, decide_eq_true_eq, decide_eq_false_iff_not, Bool.not_eq_true', Bool.not_true, Bool.not_false, Bool.false_eq_true, Bool.true_eq_false, Bool.not_eq_eq_eq_not, beq_self_eq_true, beqFT, beqTF, decide_true, decide_false, not_false_eq_true, not_true_eq_false, ne_eq, true_and, and_true, false_and, and_false, and_self, if_true, if_false, ite_true, ite_false, Bool.and_true, Bool.and_false, Bool.true_and, Bool.false_and, Bool.or_true, Bool.true_or, Bool.or_false, Bool.false_or, or_true, true_or, or_false, false_or, or_self, AV.asInt, AV.asBool, AV.asSl, AV.asPtr, AV.asFn, AV.asStr, AV.asMap, AV.asIfc, AV.item, List.length_cons, List.length_nil, List.getElem?_cons_zero, List.getElem?_cons_succ, Nat.zero_add, Int.lt_irrefl], o, s1, rfl, kk, rr, m⟩)
    (s := ([.int .i64 0, .int .i64 b.length, .slice h, .slice (hdS σ1.objs.length (n + 1)), .ptr (some (σ.objs.length, 0))], σ2))
    ⟨_, σ2, rfl, K2, R2, ⟨by simp, by simp [rd, List.replicate_succ], fun c c0 c1 => by
      obtain ⟨c, rfl⟩ := Int.eq_ofNat_of_zero_le c0
      rw [show (c : Int) + 1 = ((c + 1 : Nat) : Int) by omega, rd_getElem (by simp; omega)]
      simp [Bs.cnt]⟩⟩
  have e3 := ldr (R1.kp K3 (by omega))
  -- sums
  obtain ⟨rb, eb, σ4, rfl, K4, R4⟩ := EvI.up (f := fun k s => stepF Try.prog (gm Try.prog k) drawn k Try.f20 [1, 1, 1, 1, 0, 1, 0] [39, 38, 6] s) n
    (fun i s => ∃ o s1, s = ([.int .i64 i, .int .i64 n, .slice (hdS σ1.objs.length (n + 1))], s1) ∧ Kp (σ.objs.length + 1) σ1 s1 ∧ s1.Row σ1.objs.length 1 (intsL o) ∧ SumI b n i o)
    (fun r => ∃ s1, r = (AX.exit 2, [(6, .slice (hdS σ1.objs.length (n + 1)))], s1) ∧ Kp (σ.objs.length + 1) σ1 s1 ∧ s1.Row σ1.objs.length 1 (intsL (belows b (n + 1))))
    (by
      rintro i s hi ⟨o, s1, rfl, kk, rr, m⟩
      have i0 : (0 : Int) ≤ i := by omega
      have i1 : (i : Int) < n := by omega
      have w : IntKind.wrap .i64 ((i : Int) + 1) = i + 1 := wrap64 (by omega) (by omega)
      have w' : ((i : Int) + 1) = ((i + 1 : Nat) : Int) := by omega
      have lo := m.len
      have y0 : 0 ≤ (i : Int) + 1 := by omega
      have y1 : (i : Int) + 1 < ((n + 1 : Nat) : Int) := by omega
      have y2 : (i : Int) < ((n + 1 : Nat) : Int) := by omega
      have ra := rr.ld_ints (len := n + 1) (cp := some (n + 1)) y0 (by omega)
      have rb := rr.ld_ints (len := n + 1) (cp := some (n + 1)) i0 (by omega)
      have v1 := m.hi i (Int.le_refl _) i1
      have v2 := m.lo i i0 (Int.le_refl _)
      have bs := below_succ b i
      have bl := below_le b (i + 1)
      have w2 : IntKind.wrap .i64 (rd o ((i : Int) + 1) + rd o i) = below b (i + 1) := by rw [wrap64 (by omega) (by omega)]; omega
      have st := st_ints (x := below b (i + 1)) (len := n + 1) (cp := some (n + 1)) rr (by rw [kk.prot, k1.prot]; omega) y0 (by omega)
      refine ⟨_, Ev.of fun k => by simp only [f20_L1111010]; simp only [Option.bind_some, decide_eq_true_eq, decide_eq_false_iff_not, Bool.not_eq_true', Bool.not_true, Bool.not_false, Bool.false_eq_true, Bool.true_eq_false, Bool.not_eq_eq_eq_not, beq_self_eq_true, beqFT, beqTF, decide_true, decide_false, not_false_eq_true, not_true_eq_false, ne_eq, true_and, and_true, false_and, and_false, and_self, if_true, if_false, ite_true, ite_false, Bool.and_true, Bool.and_false, Bool.true_and, Bool.false_and, Bool.or_true, Bool.true_or, Bool.or_false, Bool.false_or, or_true, true_or, or_false, false_or, or_self, AV.asInt, AV.asBool, AV.asSl, AV.asPtr, AV.asFn, AV.asStr, AV.asMap, AV.asIfc, AV.item, List.length_cons, List.length_nil, List.getElem?_cons_zero, List.getElem?_cons_succ, Nat.zero_add, i0, i1, w, y0, y1, y2, ra, rb, w2, st]; rw [w'], o.set ((i : Int) + 1).toNat (below b (i + 1)), _, rfl, kk.setO (by omega), Store.Row.setO_eq rr.lt, ⟨by simpa using lo, fun c c0 c1 => ?_, fun c c0 c1 => ?_⟩⟩
      · rw [rd_set y0 (by omega) c0]
        by_cases e : (i : Int) + 1 = c
        · rw [if_pos e, e]
        · rw [if_neg e]; exact m.lo c c0 (by omega)
      · rw [rd_set y0 (by omega) (by omega), if_neg (by omega)]; exact m.hi c (by omega) c1)
    (by
      rintro s ⟨o, s1, rfl, kk, rr, m⟩
      have : o = belows b (n + 1) := Bs.ext_rd (by rw [m.len, belows_length]) fun c c0 c1 => by
        have := m.len
        rw [m.lo c c0 (by omega), rd_belows c0 (by omega)]
      subst this
      exact ⟨(AX.exit 2, [(6, .slice (hdS σ1.objs.length (n + 1)))], s1), Ev.of fun k => by simp only [f20_L1111010]; simp only [Option.bind_some, decide_eq_true_eq, decide_eq_false_iff_not, Bool.not_eq_true', Bool.not_true, Bool.not_false, Bool.false_eq_true, Bool.true_eq_false, Bool.not_eq_eq_eq_not, beq_self_eq_true, beqFT, beqTF, decide_true, decide_false, not_false_eq_true, not_true_eq_false, ne_eq, true_and, and_true, false_and, and_false, and_self, if_true, if_false, ite_true, ite_false, Bool.and_true, Bool.and_false, Bool.true_and, Bool.false_and, Bool.or_true, Bool.true_or, Bool.or_false, Bool.false_or, or_true, true_or, or_false, false_or, or_self, AV.asInt, AV.asBool, AV.asSl, AV.asPtr, AV.asFn, AV.asStr, AV.asMap, AV.asIfc, AV.item, List.length_cons, List.length_nil, List.getElem?_cons_zero, List.getElem?_cons_succ, Nat.zero_add, Int.lt_irrefl], s1, rfl, kk, rr⟩)
    (s := ([.int .i64 0, .int .i64 n, .slice (hdS σ1.objs.length (n + 1))], σ3))
    ⟨o3, σ3, rfl, K3, R3, ⟨M3.len, fun c c0 c1 => by
      have : c = 0 := by omega
      rw [this, M3.zero, below_zero fun x hx => (hrng x hx).1], fun c c0 c1 => by
      have := M3.val c (by omega) c1
      rwa [List.take_length] at this⟩⟩
  obtain ⟨na, ea⟩ := loopF_ev ea
  obtain ⟨nb, eb⟩ := loopF_ev eb
  refine ⟨hdS σ1.objs.length (n + 1), σ4, Runs.intro (fn := Try.f20) (by kernel_rfl) (by kernel_rfl) ⟨k2 + na + nb, fun k hk => ?_⟩, k1.trans (K4.mono (by omega)), R4.sl (by simp [belows_length]), fun x e => by simp [Hdl.row] at e; have := R4.lt; omega, fun _ => ⟨_, by omega, rfl, R4⟩⟩
  have r2 := r2 k (by omega)
  have ea := ea k (by omega)
  have eb := eb k (by omega)
  simp only [c4'] at r2 ea eb
  have w1 : IntKind.wrap .i64 ((n : Int) + 1) = ((n + 1 : Nat) : Int) := by rw [wrap64 (by omega) (by omega)]; omega
  have b1 : (0 : Int) ≤ (n + 1 : Nat) := by omega
  have b2 : ((n + 1 : Nat) : Int) * ((8 : Nat) : Int) ≤ 281474976710656 := by omega
  simp only [f20_eq, ← h1]
  simp only [Option.bind_some, decide_eq_true_eq, decide_eq_false_iff_not, Bool.not_eq_true', Bool.not_true, Bool.not_false, Bool.false_eq_true, Bool.true_eq_false, Bool.not_eq_eq_eq_not, beq_self_eq_true, beqFT, beqTF, decide_true, decide_false, not_false_eq_true, not_true_eq_false, ne_eq, true_and, and_true, false_and, and_false, and_self, if_true, if_false, ite_true, ite_false, Bool.and_true, Bool.and_false, Bool.true_and, Bool.false_and, Bool.or_true, Bool.true_or, Bool.or_false, Bool.false_or, or_true, true_or, or_false, false_or, or_self, AV.asInt, AV.asBool, AV.asSl, AV.asPtr, AV.asFn, AV.asStr, AV.asMap, AV.asIfc, AV.item, List.length_cons, List.length_nil, List.getElem?_cons_zero, List.getElem?_cons_succ, Nat.zero_add, e1, c1, c2, r2, w1, b1, b2, Int.le_refl, Int.toNat_natCast, mkCells_int, ← h2, ll, ea]
  rw [f20_X111010_1]
  simp only [Option.bind_some, decide_eq_true_eq, decide_eq_false_iff_not, Bool.not_eq_true', Bool.not_true, Bool.not_false, Bool.false_eq_true, Bool.true_eq_false, Bool.not_eq_eq_eq_not, beq_self_eq_true, beqFT, beqTF, decide_true, decide_false, not_false_eq_true, not_true_eq_false, ne_eq, true_and, and_true, false_and, and_false, and_self, if_true, if_false, ite_true, ite_false, Bool.and_true, Bool.and_false, Bool.true_and, Bool.false_and, Bool.or_true, Bool.true_or, Bool.or_false, Bool.false_or, or_true, true_or, or_false, false_or, or_self, AV.asInt, AV.asBool, AV.asSl, AV.asPtr, AV.asFn, AV.asStr, AV.asMap, AV.asIfc, AV.item, List.length_cons, List.length_nil, List.getElem?_cons_zero, List.getElem?_cons_succ, Nat.zero_add, e3, eb]
  rw [f20_X1111010_1]
end Go.Ab

/- Back: by the program. -/
namespace Go.Ab
open Go Go.Proofs Go.Ab.Wd Go.Ab.Bs Go.Ab.Sai
set_option linter.unusedVariables false
set_option linter.unusedSimpArgs false
def itr (b : List Int) : Nat → Int → Int
  | 0, i => i
  | j + 1, i => itr b j (lf b i)
theorem itr_succ (b : List Int) : ∀ (j : Nat) (i : Int), itr b (j + 1) i = lf b (itr b j i)
  | 0, _ => rfl
  | j + 1, i => by rw [itr, itr_succ b j, itr]
theorem itr_rng {b : List Int} : ∀ (j : Nat) {i : Int}, 0 ≤ i → i < b.length → 0 ≤ itr b j i ∧ itr b j i < b.length
  | 0, _, h0, h1 => ⟨h0, h1⟩
  | j + 1, i, h0, h1 => by have := lf_rng h0 h1; exact itr_rng j this.1 this.2
theorem rd_walk {b : List Int} : ∀ (m : Nat) (i : Int) (j : Nat), j < m → rd (walk b m i) j = rd b (itr b j i)
  | m + 1, i, 0, _ => by simp [walk, rd, itr]
  | m + 1, i, j + 1, h => by
    rw [walk, show ((j + 1 : Nat) : Int) = (j : Int) + 1 by omega, rd_cons_succ _ _ (by omega), rd_walk m _ j (by omega), itr]
theorem rd_reverse {l : List Int} {p : Int} (h0 : 0 ≤ p) (h1 : p < l.length) : rd l.reverse p = rd l (l.length - 1 - p) := by
  obtain ⟨p, rfl⟩ := Int.eq_ofNat_of_zero_le h0
  rw [rd_getElem (by simp; omega), show (l.length : Int) - 1 - (p : Int) = ((l.length - 1 - p : Nat) : Int) by omega, rd_getElem (by omega)]
  simp
theorem rd_backOf {b : List Int} {w p : Int} (h0 : 0 ≤ p) (h1 : p < b.length) : rd (backOf b w) p = rd b (itr b (b.length - 1 - p).toNat w) := by
  unfold backOf
  rw [rd_reverse h0 (by rw [walk_length]; exact h1), walk_length]
  have key := rd_walk (b := b) b.length w ((b.length : Int) - 1 - p).toNat (by omega)
  rwa [show ((((b.length : Int) - 1 - p).toNat : Nat) : Int) = (b.length : Int) - 1 - p by omega] at key
/-- Is b the turned row of what it comes to? -/
def isB (t b : List Int) (w : Int) : Bool := decide (bwtOf t (saOf t) = b) && decide (rd (saOf t) w = 0)
def backOk (b : List Int) (w : Int) : Bool := decide (rd (backOf b w) (b.length - 1) = minL b) && (!decide (minL b ∈ (backOf b w).take (b.length - 1)) && isB (backOf b w) b w)
theorem back_refuse {σ : Store} {h : Hdl} {b : List Int} {al w : Int} (hT : σ.Ints h b) (hp : σ.prot ≤ σ.objs.length) (hn : b.length < 2 ^ 61) (hbad : ¬ (okC b al = true ∧ 0 ≤ w ∧ w < max (b.length : Int) 1)) :
    ∃ σ', Runs Try.prog 22 [.slice h, .int .i64 w, .int .i64 al] σ (.tuple [.slice Hdl.nil, .int .i64 2]) σ' ∧ Kp σ.objs.length σ σ' := by
  have ll := hT.ilen
  obtain ⟨h1, σ1, ⟨k1, r1⟩, K1, I1, _⟩ := counts_run (al := al) hT hp hn
  refine ⟨σ1, Runs.intro (fn := Try.f22) (by kernel_rfl) (by kernel_rfl) ⟨k1, fun k hk => ?_⟩, K1⟩
  have r1 := r1 k hk
  simp only at r1
  simp only [f22_eq]
  cases hok : okC b al with
  | false =>
    rw [hok] at r1
    simp only [Option.bind_some, decide_eq_true_eq, decide_eq_false_iff_not, Bool.not_eq_true', Bool.not_true, Bool.not_false, Bool.false_eq_true, Bool.true_eq_false, Bool.not_eq_eq_eq_not, beq_self_eq_true, beqFT, beqTF, decide_true, decide_false, not_false_eq_true, not_true_eq_false, ne_eq, true_and, and_true, false_and, and_false, and_self, if_true, if_false, ite_true, ite_false, Bool.and_true, Bool.and_false, Bool.true_and, Bool.false_and, Bool.or_true, Bool.true_or, Bool.or_false, Bool.false_or, or_true, true_or, or_false, false_or, or_self, AV.asInt, AV.asBool, AV.asSl, AV.asPtr, AV.asFn, AV.asStr, AV.asMap, AV.asIfc, AV.item, List.length_cons, List.length_nil, List.getElem?_cons_zero, List.getElem?_cons_succ, Nat.zero_add] at r1
    have c : ¬ (2 : Int) = 0 := by decide
    simp only [Option.bind_some, decide_eq_true_eq, decide_eq_false_iff_not, Bool.not_eq_true', Bool.not_true, Bool.not_false, Bool.false_eq_true, Bool.true_eq_false, Bool.not_eq_eq_eq_not, beq_self_eq_true, beqFT, beqTF, decide_true, decide_false, not_false_eq_true, not_true_eq_false, ne_eq, true_and, and_true, false_and, and_false, and_self, if_true, if_false, ite_true, ite_false, Bool.and_true, Bool.and_false, Bool.true_and, Bool.false_and, Bool.or_true, Bool.true_or, Bool.or_false, Bool.false_or, or_true, true_or, or_false, false_or, or_self, AV.asInt, AV.asBool, AV.asSl, AV.asPtr, AV.asFn, AV.asStr, AV.asMap, AV.asIfc, AV.item, List.length_cons, List.length_nil, List.getElem?_cons_zero, List.getElem?_cons_succ, Nat.zero_add, r1, c]
  | true =>
    rw [hok] at r1
    simp only [Option.bind_some, decide_eq_true_eq, decide_eq_false_iff_not, Bool.not_eq_true', Bool.not_true, Bool.not_false, Bool.false_eq_true, Bool.true_eq_false, Bool.not_eq_eq_eq_not, beq_self_eq_true, beqFT, beqTF, decide_true, decide_false, not_false_eq_true, not_true_eq_false, ne_eq, true_and, and_true, false_and, and_false, and_self, if_true, if_false, ite_true, ite_false, Bool.and_true, Bool.and_false, Bool.true_and, Bool.false_and, Bool.or_true, Bool.true_or, Bool.or_false, Bool.false_or, or_true, true_or, or_false, false_or, or_self, AV.asInt, AV.asBool, AV.asSl, AV.asPtr, AV.asFn, AV.asStr, AV.asMap, AV.asIfc, AV.item, List.length_cons, List.length_nil, List.getElem?_cons_zero, List.getElem?_cons_succ, Nat.zero_add] at r1
    by_cases c1 : w < 0
    · simp only [Option.bind_some, decide_eq_true_eq, decide_eq_false_iff_not, Bool.not_eq_true', Bool.not_true, Bool.not_false, Bool.false_eq_true, Bool.true_eq_false, Bool.not_eq_eq_eq_not, beq_self_eq_true, beqFT, beqTF, decide_true, decide_false, not_false_eq_true, not_true_eq_false, ne_eq, true_and, and_true, false_and, and_false, and_self, if_true, if_false, ite_true, ite_false, Bool.and_true, Bool.and_false, Bool.true_and, Bool.false_and, Bool.or_true, Bool.true_or, Bool.or_false, Bool.false_or, or_true, true_or, or_false, false_or, or_self, AV.asInt, AV.asBool, AV.asSl, AV.asPtr, AV.asFn, AV.asStr, AV.asMap, AV.asIfc, AV.item, List.length_cons, List.length_nil, List.getElem?_cons_zero, List.getElem?_cons_succ, Nat.zero_add, r1, c1]
    · have c2 : mx2 (Int.ofNat h.len) 1 ≤ w := by
        unfold mx2; simp only [Int.ofNat_eq_natCast]
        have : ¬ w < max (b.length : Int) 1 := fun h => hbad ⟨hok, by omega, h⟩
        split <;> omega
      simp only [Option.bind_some, decide_eq_true_eq, decide_eq_false_iff_not, Bool.not_eq_true', Bool.not_true, Bool.not_false, Bool.false_eq_true, Bool.true_eq_false, Bool.not_eq_eq_eq_not, beq_self_eq_true, beqFT, beqTF, decide_true, decide_false, not_false_eq_true, not_true_eq_false, ne_eq, true_and, and_true, false_and, and_false, and_self, if_true, if_false, ite_true, ite_false, Bool.and_true, Bool.and_false, Bool.true_and, Bool.false_and, Bool.or_true, Bool.true_or, Bool.or_false, Bool.false_or, or_true, true_or, or_false, false_or, or_self, AV.asInt, AV.asBool, AV.asSl, AV.asPtr, AV.asFn, AV.asStr, AV.asMap, AV.asIfc, AV.item, List.length_cons, List.length_nil, List.getElem?_cons_zero, List.getElem?_cons_succ, Nat.zero_add, r1, c1, c2]
theorem back_empty {σ : Store} {h : Hdl} {al : Int} (hT : σ.Ints h []) (hp : σ.prot ≤ σ.objs.length) (hok : okC [] al = true) :
    ∃ σ', Runs Try.prog 22 [.slice h, .int .i64 0, .int .i64 al] σ (.tuple [.slice Hdl.nil, .int .i64 0]) σ' ∧ Kp σ.objs.length σ σ' := by
  have ll := hT.ilen
  obtain ⟨h1, σ1, ⟨k1, r1⟩, K1, I1, _⟩ := counts_run (al := al) hT hp (by simp)
  refine ⟨σ1, Runs.intro (fn := Try.f22) (by kernel_rfl) (by kernel_rfl) ⟨k1, fun k hk => ?_⟩, K1⟩
  have r1 := r1 k hk
  rw [hok] at r1
  simp only [Option.bind_some, decide_eq_true_eq, decide_eq_false_iff_not, Bool.not_eq_true', Bool.not_true, Bool.not_false, Bool.false_eq_true, Bool.true_eq_false, Bool.not_eq_eq_eq_not, beq_self_eq_true, beqFT, beqTF, decide_true, decide_false, not_false_eq_true, not_true_eq_false, ne_eq, true_and, and_true, false_and, and_false, and_self, if_true, if_false, ite_true, ite_false, Bool.and_true, Bool.and_false, Bool.true_and, Bool.false_and, Bool.or_true, Bool.true_or, Bool.or_false, Bool.false_or, or_true, true_or, or_false, false_or, or_self, AV.asInt, AV.asBool, AV.asSl, AV.asPtr, AV.asFn, AV.asStr, AV.asMap, AV.asIfc, AV.item, List.length_cons, List.length_nil, List.getElem?_cons_zero, List.getElem?_cons_succ, Nat.zero_add] at r1
  have c2 : ¬ mx2 (Int.ofNat h.len) 1 ≤ 0 := by unfold mx2; simp only [Int.ofNat_eq_natCast]; split <;> omega
  have c3 : ((h.len : Nat) : Int) = 0 := by rw [ll]; rfl
  simp only [f22_eq]
  simp only [Option.bind_some, decide_eq_true_eq, decide_eq_false_iff_not, Bool.not_eq_true', Bool.not_true, Bool.not_false, Bool.false_eq_true, Bool.true_eq_false, Bool.not_eq_eq_eq_not, beq_self_eq_true, beqFT, beqTF, decide_true, decide_false, not_false_eq_true, not_true_eq_false, ne_eq, true_and, and_true, false_and, and_false, and_self, if_true, if_false, ite_true, ite_false, Bool.and_true, Bool.and_false, Bool.true_and, Bool.false_and, Bool.or_true, Bool.true_or, Bool.or_false, Bool.false_or, or_true, true_or, or_false, false_or, or_self, AV.asInt, AV.asBool, AV.asSl, AV.asPtr, AV.asFn, AV.asStr, AV.asMap, AV.asIfc, AV.item, List.length_cons, List.length_nil, List.getElem?_cons_zero, List.getElem?_cons_succ, Nat.zero_add, r1, c2, c3, Int.lt_irrefl]
theorem back_run {σ : Store} {h : Hdl} {b : List Int} {al w : Int} (hT : σ.Ints h b) (hp : σ.prot ≤ σ.objs.length) (hn : b.length ≤ 4194304) (hok : okC b al = true) (w0 : 0 ≤ w) (w1 : w < b.length) :
    ∃ ho σ', Runs Try.prog 22 [.slice h, .int .i64 w, .int .i64 al] σ (.tuple [.slice ho, .int .i64 (if backOk b w = true then 0 else 10)]) σ' ∧ Kp σ.objs.length σ σ' ∧ σ'.Ints ho (if backOk b w = true then backOf b w else []) ∧ σ'.Has ho := by
  have ll := hT.ilen
  obtain ⟨g1, g2, g3⟩ := okC_iff.1 hok
  obtain ⟨h1, σ1, ⟨k1, r1⟩, K1, _, _, N1⟩ := counts_run (al := al) hT hp (by omega)
  obtain ⟨N, hN, rfl, R1⟩ := N1 hok
  rw [hok] at r1
  obtain ⟨n, hn_⟩ : ∃ n, n = b.length := ⟨_, rfl⟩
  obtain ⟨σ2, h2⟩ : ∃ x, x = σ1.push (intsL (List.replicate b.length 0)) 1 := ⟨_, rfl⟩
  have len2 : σ2.objs.length = σ1.objs.length + 1 := by rw [h2]; simp
  have K2 : Kp σ.objs.length σ σ2 := by rw [h2]; exact K1.push' K1.len
  have R2 : σ2.Row N 1 (intsL (belows b (al.toNat + 1))) := by rw [h2]; exact R1.push
  have L2 : σ2.Row σ1.objs.length 1 (intsL (List.replicate b.length 0)) := by rw [h2]; exact Store.Row.new
  have hNl := R1.lt
  -- leads
  obtain ⟨ra, ea, σ3, rfl, K3, L3⟩ := EvI.up (f := fun k s => stepF Try.prog (gm Try.prog k) drawn k Try.f22 [1, 1, 1, 1, 1, 1, 0, 1, 0] [48, 47, 46, 11, 10, 8, 2, 1, 0] s) b.length
    (fun i s => ∃ o l s1, s = ([.int .i64 i, .int .i64 b.length, .slice h, .slice (hdS σ1.objs.length b.length), .int .i64 b.length, .slice (hdS N (al.toNat + 1)), .int .i64 al, .int .i64 w, .slice h], s1) ∧ Kp σ.objs.length σ s1 ∧ s1.Row N 1 (intsL o) ∧ s1.Row σ1.objs.length 1 (intsL l) ∧
      o.length = al.toNat + 1 ∧ (∀ c : Int, 0 ≤ c → c < al → rd o c = below b c + (Bs.cnt (fun x => decide (x = c)) (b.take i) : Nat)) ∧ l.length = b.length ∧ ∀ p : Int, 0 ≤ p → p < i → rd l p = lf b p)
    (fun r => ∃ s1, r = (AX.exit 0, [(11, .slice (hdS σ1.objs.length b.length)), (10, .int .i64 b.length), (2, .int .i64 al), (1, .int .i64 w), (0, .slice h)], s1) ∧ Kp σ.objs.length σ s1 ∧ s1.Row σ1.objs.length 1 (intsL ((places b.length).map (lf b))))
    (by
      rintro i s hi ⟨o, l, s1, rfl, kk, ro, rl, lo, ho, lL, hl⟩
      have i0 : (0 : Int) ≤ i := by omega
      have i1 : (i : Int) < b.length := by omega
      have w_ := wsucc hi (by omega)
      have rx := Store.Ints.rd (Store.Sl.kp hT kk) i0 i1
      obtain ⟨x0, x1⟩ := g3 _ (rd_mem i0 i1)
      have x2 : rd b i < ((al.toNat + 1 : Nat) : Int) := by omega
      have rr := ro.ld_ints (len := al.toNat + 1) (cp := some (al.toNat + 1)) x0 (by omega)
      have v := ho _ x0 x1
      have elf : lf b i = below b (rd b i) + (Bs.cnt (fun x => decide (x = rd b i)) (b.take i) : Nat) := by unfold lf below; rw [show ((i : Int)).toNat = i by omega]; omega
      have lr := lf_rng (b := b) i0 i1
      have st1 := st_ints (x := rd o (rd b i)) (len := b.length) (cp := some b.length) rl (by rw [kk.prot]; have := K1.len; omega) i0 (by omega)
      have ro2 := Store.Row.setO_ne (c := σ1.objs.length) (o := .cells (intsL (l.set (i : Int).toNat (rd o (rd b i)))) true 1) ro (by omega)
      have rl2 := Store.Row.setO_eq (l := intsL (l.set (i : Int).toNat (rd o (rd b i)))) (es := 1) rl.lt
      have rr2 := ro2.ld_ints (len := al.toNat + 1) (cp := some (al.toNat + 1)) x0 (by omega)
      have w2 : IntKind.wrap .i64 (rd o (rd b i) + 1) = rd o (rd b i) + 1 := wrap64 (by omega) (by omega)
      have st2 := st_ints (x := rd o (rd b i) + 1) (len := al.toNat + 1) (cp := some (al.toNat + 1)) ro2 (by rw [setO_prot, kk.prot]; omega) x0 (by omega)
      refine ⟨_, Ev.of fun k => by simp only [f22_L111111010]; simp only [Option.bind_some, decide_eq_true_eq, decide_eq_false_iff_not, Bool.not_eq_true', Bool.not_true, Bool.not_false, Bool.false_eq_true, Bool.true_eq_false, Bool.not_eq_eq_eq_not, beq_self_eq_true, beqFT, beqTF, decide_true, decide_false, not_false_eq_true, not_true_eq_false, ne_eq, true_and, and_true, false_and, and_false, and_self, if_true, if_false, ite_true, ite_false, Bool.and_true, Bool.and_false, Bool.true_and, Bool.false_and, Bool.or_true, Bool.true_or, Bool.or_false, Bool.false_or, or_true, true_or, or_false, false_or, or_self, AV.asInt, AV.asBool, AV.asSl, AV.asPtr, AV.asFn, AV.asStr, AV.asMap, AV.asIfc, AV.item, List.length_cons, List.length_nil, List.getElem?_cons_zero, List.getElem?_cons_succ, Nat.zero_add, ll, i0, i1, rx, x0, x2, rr, st1, rr2, w2, st2, w_], o.set (rd b i).toNat (rd o (rd b i) + 1), l.set (i : Int).toNat (rd o (rd b i)), _, rfl, (kk.setO K1.len).setO hN, Store.Row.setO_eq (by simpa using ro.lt), rl2.setO_ne (by omega), by simpa using lo, fun c c0 c1 => ?_, by simpa using lL, fun p p0 p1 => ?_⟩
      · rw [rd_set x0 (by omega) c0, cnt_take_succ _ hi]
        by_cases e : rd b i = c
        · rw [if_pos e, if_pos (by simp [e]), v, e]; omega
        · rw [if_neg e, if_neg (by simpa using e), ho c c0 c1]; omega
      · rw [rd_set i0 (by omega) p0]
        by_cases e : (i : Int) = p
        · rw [if_pos e, ← e]; omega
        · rw [if_neg e]; exact hl p p0 (by omega))
    (by
      rintro s ⟨o, l, s1, rfl, kk, ro, rl, lo, ho, lL, hl⟩
      have : l = (places b.length).map (lf b) := Bs.ext_rd (by simp [lL, places]) fun p p0 p1 => by
        rw [hl p p0 (by omega), rd_map p0 (by rw [places_length]; omega)]
        obtain ⟨p, rfl⟩ := Int.eq_ofNat_of_zero_le p0
        rw [rd_getElem (l := places b.length) (by rw [places_length]; omega)]; simp [places]
      subst this
      exact ⟨(AX.exit 0, [(11, .slice (hdS σ1.objs.length b.length)), (10, .int .i64 b.length), (2, .int .i64 al), (1, .int .i64 w), (0, .slice h)], s1), Ev.of fun k => by simp only [f22_L111111010]; simp only [Option.bind_some, decide_eq_true_eq, decide_eq_false_iff_not, Bool.not_eq_true', Bool.not_true, Bool.not_false, Bool.false_eq_true, Bool.true_eq_false, Bool.not_eq_eq_eq_not, beq_self_eq_true, beqFT, beqTF, decide_true, decide_false, not_false_eq_true, not_true_eq_false, ne_eq, true_and, and_true, false_and, and_false, and_self, if_true, if_false, ite_true, ite_false, Bool.and_true, Bool.and_false, Bool.true_and, Bool.false_and, Bool.or_true, Bool.true_or, Bool.or_false, Bool.false_or, or_true, true_or, or_false, false_or, or_self, AV.asInt, AV.asBool, AV.asSl, AV.asPtr, AV.asFn, AV.asStr, AV.asMap, AV.asIfc, AV.item, List.length_cons, List.length_nil, List.getElem?_cons_zero, List.getElem?_cons_succ, Nat.zero_add, Int.lt_irrefl], s1, rfl, kk, rl⟩)
    (s := ([.int .i64 0, .int .i64 b.length, .slice h, .slice (hdS σ1.objs.length b.length), .int .i64 b.length, .slice (hdS N (al.toNat + 1)), .int .i64 al, .int .i64 w, .slice h], σ2))
    ⟨_, _, σ2, rfl, K2, R2, L2, belows_length _ _, fun c c0 c1 => by rw [rd_belows c0 (by omega)]; simp [Bs.cnt], by simp, fun p p0 p1 => by omega⟩
  have hlead : ∀ p : Int, 0 ≤ p → p < b.length → rd ((places b.length).map (lf b)) p = lf b p := fun p p0 p1 => by
    rw [rd_map p0 (by rw [places_length]; omega)]
    obtain ⟨p, rfl⟩ := Int.eq_ofNat_of_zero_le p0
    rw [rd_getElem (l := places b.length) (by rw [places_length]; omega)]; simp [places]
  have llead : ((places b.length).map (lf b)).length = b.length := by simp [places]
  -- the list, from behind
  obtain ⟨σ4, h4⟩ : ∃ x, x = σ3.push (intsL (List.replicate b.length 0)) 1 := ⟨_, rfl⟩
  have K4 : Kp σ.objs.length σ σ4 := by rw [h4]; exact K3.push' K3.len
  have L4 : σ4.Row σ1.objs.length 1 (intsL ((places b.length).map (lf b))) := by rw [h4]; exact L3.push
  have T4 : σ4.Row σ3.objs.length 1 (intsL (List.replicate b.length 0)) := by rw [h4]; exact Store.Row.new
  have hL3 := L3.lt
  obtain ⟨rb, eb, σ5, rfl, K5, T5⟩ := EvI.downX (f := fun k s => stepF Try.prog (gm Try.prog k) drawn k Try.f22 [1, 1, 1, 1, 1, 1, 1, 1, 1, 0, 1, 0] [16, 15, 14, 11, 10, 2, 1, 0] s)
    (fun m s => ∃ t s1, s = ([.int .i64 ((m : Int) - 1), .int .i64 (itr b (b.length - m) w), .slice (hdS σ3.objs.length b.length), .slice (hdS σ1.objs.length b.length), .int .i64 b.length, .int .i64 al, .int .i64 w, .slice h], s1) ∧ m ≤ b.length ∧ Kp σ.objs.length σ s1 ∧ s1.Row σ1.objs.length 1 (intsL ((places b.length).map (lf b))) ∧ s1.Row σ3.objs.length 1 (intsL t) ∧
      t.length = b.length ∧ ∀ p : Int, (m : Int) ≤ p → p < b.length → rd t p = rd (backOf b w) p)
    (fun r => ∃ s1, r = (AX.exit 2, [(14, .slice (hdS σ3.objs.length b.length)), (10, .int .i64 b.length), (2, .int .i64 al), (1, .int .i64 w), (0, .slice h)], s1) ∧ Kp σ.objs.length σ s1 ∧ s1.Row σ3.objs.length 1 (intsL (backOf b w)))
    (by
      rintro m s ⟨t, s1, rfl, hm, kk, rl, rt, lt, ht⟩
      have e1 : ((m + 1 : Nat) : Int) - 1 = m := by omega
      rw [e1]
      have i0 : (0 : Int) ≤ m := by omega
      have i1 : (m : Int) < b.length := by omega
      obtain ⟨j0, j1⟩ := itr_rng (b := b) (b.length - (m + 1)) w0 w1
      have rx := Store.Ints.rd (Store.Sl.kp hT kk) j0 j1
      have st := st_ints (x := rd b (itr b (b.length - (m + 1)) w)) (len := b.length) (cp := some b.length) rt (by rw [kk.prot]; have := K3.len; omega) i0 (by omega)
      have rl2 := Store.Row.setO_ne (c := σ3.objs.length) (o := .cells (intsL (t.set (m : Int).toNat (rd b (itr b (b.length - (m + 1)) w)))) true 1) rl (by omega)
      have rlv := rl2.ld_ints (len := b.length) (cp := some b.length) j0 (by rw [llead]; exact j1)
      rw [hlead _ j0 j1] at rlv
      have ws : IntKind.wrap .i64 ((m : Int) - 1) = m - 1 := wrap64 (by omega) (by omega)
      have en : lf b (itr b (b.length - (m + 1)) w) = itr b (b.length - m) w := by rw [← itr_succ]; congr 1; omega
      refine .inl ⟨_, Ev.of fun k => by simp only [f22_L111111111010]; simp only [Option.bind_some, decide_eq_true_eq, decide_eq_false_iff_not, Bool.not_eq_true', Bool.not_true, Bool.not_false, Bool.false_eq_true, Bool.true_eq_false, Bool.not_eq_eq_eq_not, beq_self_eq_true, beqFT, beqTF, decide_true, decide_false, not_false_eq_true, not_true_eq_false, ne_eq, true_and, and_true, false_and, and_false, and_self, if_true, if_false, ite_true, ite_false, Bool.and_true, Bool.and_false, Bool.true_and, Bool.false_and, Bool.or_true, Bool.true_or, Bool.or_false, Bool.false_or, or_true, true_or, or_false, false_or, or_self, AV.asInt, AV.asBool, AV.asSl, AV.asPtr, AV.asFn, AV.asStr, AV.asMap, AV.asIfc, AV.item, List.length_cons, List.length_nil, List.getElem?_cons_zero, List.getElem?_cons_succ, Nat.zero_add, ll, i0, i1, j0, j1, rx, st, rlv, ws, en], t.set (m : Int).toNat (rd b (itr b (b.length - (m + 1)) w)), _, rfl, by omega, kk.setO K3.len, rl2, Store.Row.setO_eq rt.lt, by simpa using lt, fun p p0 p1 => ?_⟩
      rw [rd_set i0 (by omega) (by omega)]
      by_cases e : (m : Int) = p
      · rw [if_pos e, ← e, rd_backOf i0 i1, show ((b.length : Int) - 1 - (m : Int)).toNat = b.length - (m + 1) by omega]
      · rw [if_neg e]; exact ht p (by omega) p1)
    (by
      rintro s ⟨t, s1, rfl, hm, kk, rl, rt, lt, ht⟩
      have : t = backOf b w := Bs.ext_rd (by rw [lt, backOf_length]) fun p p0 p1 => ht p (by omega) (by omega)
      subst this
      refine ⟨(AX.exit 2, [(14, .slice (hdS σ3.objs.length b.length)), (10, .int .i64 b.length), (2, .int .i64 al), (1, .int .i64 w), (0, .slice h)], s1), Ev.of fun k => ?_, s1, rfl, kk, rt⟩
      simp only [f22_L111111111010]
      have c : ¬ (0 : Int) ≤ ((0 : Nat) : Int) - 1 := by omega
      simp only [Option.bind_some, decide_eq_true_eq, decide_eq_false_iff_not, Bool.not_eq_true', Bool.not_true, Bool.not_false, Bool.false_eq_true, Bool.true_eq_false, Bool.not_eq_eq_eq_not, beq_self_eq_true, beqFT, beqTF, decide_true, decide_false, not_false_eq_true, not_true_eq_false, ne_eq, true_and, and_true, false_and, and_false, and_self, if_true, if_false, ite_true, ite_false, Bool.and_true, Bool.and_false, Bool.true_and, Bool.false_and, Bool.or_true, Bool.true_or, Bool.or_false, Bool.false_or, or_true, true_or, or_false, false_or, or_self, AV.asInt, AV.asBool, AV.asSl, AV.asPtr, AV.asFn, AV.asStr, AV.asMap, AV.asIfc, AV.item, List.length_cons, List.length_nil, List.getElem?_cons_zero, List.getElem?_cons_succ, Nat.zero_add, c])
    b.length (s := ([.int .i64 ((b.length : Int) - 1), .int .i64 w, .slice (hdS σ3.objs.length b.length), .slice (hdS σ1.objs.length b.length), .int .i64 b.length, .int .i64 al, .int .i64 w, .slice h], σ4))
    ⟨_, σ4, by rw [Nat.sub_self]; rfl, Nat.le_refl _, K4, L4, T4, by simp, fun p p0 p1 => by omega⟩
  -- is it right?
  have hb0 : 0 < b.length := by omega
  have hT5 : σ5.Ints h b := Store.Sl.kp hT K5
  have hp5 : σ5.prot ≤ σ5.objs.length := by rw [K5.prot]; have := K5.len; omega
  obtain ⟨n6, r6⟩ := min_run hT5 hb0 (by omega)
  have lb := backOf_length b w
  have I5 : σ5.Ints (hdS σ3.objs.length b.length) (backOf b w) := T5.sl (by simp [lb])
  have H5 : σ5.Has (hdS σ3.objs.length b.length) := fun x e => by simp [Hdl.row] at e; have := T5.lt; omega
  have c0 : (0 : Int) ≤ (b.length : Int) - 1 := by omega
  have c1 : (b.length : Int) - 1 < b.length := by omega
  have ws : IntKind.wrap .i64 ((b.length : Int) - 1) = b.length - 1 := wrap64 (by omega) (by omega)
  have rlast := T5.ld_ints (len := b.length) (cp := some b.length) c0 (by omega)
  obtain ⟨h6, e6, s6, H6, _⟩ := sub_spec (lo := none) (hi := some ((b.length : Int) - 1)) I5 H5 (by simp) (by simp; omega) (by simp; omega)
  simp only [Option.getD_some, Option.getD_none, Int.toNat_zero, List.drop_zero, intsL_take] at s6
  rw [show ((b.length : Int) - 1).toNat = b.length - 1 by omega] at s6
  obtain ⟨n7, r7⟩ := contains_run s6 (by simp; omega) (minL b)
  have okt : okT (backOf b w) al = true := okT_iff.2 ⟨g1, g2, by omega, fun x hx => by
    have hx' : x ∈ b := walk_mem _ _ w0 w1 x (by simpa [backOf] using hx)
    exact g3 x hx'⟩
  obtain ⟨h8, σ8, ⟨n8, r8⟩, K8, I8, H8, _⟩ := array_run (al := al) I5 H5 hp5 (by omega)
  rw [okt] at r8 I8
  rw [if_pos rfl] at I8
  have hp8 : σ8.prot ≤ σ8.objs.length := by rw [K8.prot]; have := K8.len; omega
  have hsa := saOf_spec (backOf b w)
  have hpm : permB (saOf (backOf b w)) = true := permB_iff.2 (by rw [saOf_len]; exact hsa.perm)
  obtain ⟨h9, σ9, ⟨n9, r9⟩, K9, I9, H9⟩ := make_run (Store.Sl.kp I5 K8) I8 hp8 (by omega) (by rw [saOf_len]; omega)
  have hcond : permB (saOf (backOf b w)) = true ∧ (saOf (backOf b w)).length = (backOf b w).length := ⟨hpm, saOf_len _⟩
  rw [if_pos hcond] at r9 I9
  have K59 := K8.all K9
  obtain ⟨n10, r10⟩ := equal_run I9 (Store.Sl.kp hT5 K59) (by rw [bwtOf_length, saOf_len]; omega)
  have I89 : σ9.Ints h8 (saOf (backOf b w)) := Store.Sl.kp I8 K9
  have l8 := I89.ilen
  rw [saOf_len, lb] at l8
  have w1' : w < h8.len := by omega
  have rsa := I89.rd w0 (by rw [saOf_len]; omega)
  have hTend : σ9.Ints (hdS σ3.objs.length b.length) (backOf b w) := Store.Sl.kp I5 K59
  obtain ⟨na, ea⟩ := loopF_ev ea
  obtain ⟨nb, eb⟩ := loopF_ev eb
  have b1 : (0 : Int) ≤ b.length := by omega
  have b2 : (b.length : Int) * ((8 : Nat) : Int) ≤ 281474976710656 := by omega
  have d1 : ¬ w < 0 := by omega
  have d2 : ¬ mx2 (Int.ofNat b.length) 1 ≤ w := by unfold mx2; simp only [Int.ofNat_eq_natCast]; split <;> omega
  have d3 : ¬ (b.length : Int) = 0 := by omega
  have start : ∀ k, k1 + na + nb ≤ k → evBody Try.prog (gm Try.prog k) drawn k Try.f22 [.slice h, .int .i64 w, .int .i64 al] σ = contF Try.prog (gm Try.prog k) drawn k Try.f22 [1, 1, 1, 1, 1, 1, 1, 1, 1, 0, 1, 0] (AX.exit 2, [(14, .slice (hdS σ3.objs.length b.length)), (10, .int .i64 b.length), (2, .int .i64 al), (1, .int .i64 w), (0, .slice h)], σ5) := by
    intro k hk
    have r1 := r1 k (by omega)
    have ea := ea k (by omega)
    have eb := eb k (by omega)
    simp only [Option.bind_some, decide_eq_true_eq, decide_eq_false_iff_not, Bool.not_eq_true', Bool.not_true, Bool.not_false, Bool.false_eq_true, Bool.true_eq_false, Bool.not_eq_eq_eq_not, beq_self_eq_true, beqFT, beqTF, decide_true, decide_false, not_false_eq_true, not_true_eq_false, ne_eq, true_and, and_true, false_and, and_false, and_self, if_true, if_false, ite_true, ite_false, Bool.and_true, Bool.and_false, Bool.true_and, Bool.false_and, Bool.or_true, Bool.true_or, Bool.or_false, Bool.false_or, or_true, true_or, or_false, false_or, or_self, AV.asInt, AV.asBool, AV.asSl, AV.asPtr, AV.asFn, AV.asStr, AV.asMap, AV.asIfc, AV.item, List.length_cons, List.length_nil, List.getElem?_cons_zero, List.getElem?_cons_succ, Nat.zero_add] at r1 ea eb
    rw [f22_eq]
    simp only [Option.bind_some, decide_eq_true_eq, decide_eq_false_iff_not, Bool.not_eq_true', Bool.not_true, Bool.not_false, Bool.false_eq_true, Bool.true_eq_false, Bool.not_eq_eq_eq_not, beq_self_eq_true, beqFT, beqTF, decide_true, decide_false, not_false_eq_true, not_true_eq_false, ne_eq, true_and, and_true, false_and, and_false, and_self, if_true, if_false, ite_true, ite_false, Bool.and_true, Bool.and_false, Bool.true_and, Bool.false_and, Bool.or_true, Bool.true_or, Bool.or_false, Bool.false_or, or_true, true_or, or_false, false_or, or_self, AV.asInt, AV.asBool, AV.asSl, AV.asPtr, AV.asFn, AV.asStr, AV.asMap, AV.asIfc, AV.item, List.length_cons, List.length_nil, List.getElem?_cons_zero, List.getElem?_cons_succ, Nat.zero_add, r1, d1, d2, ll, d3, b1, b2, Int.le_refl, Int.toNat_natCast, mkCells_int, ← h2, ea]
    rw [f22_X111111010_1]
    simp only [Option.bind_some, decide_eq_true_eq, decide_eq_false_iff_not, Bool.not_eq_true', Bool.not_true, Bool.not_false, Bool.false_eq_true, Bool.true_eq_false, Bool.not_eq_eq_eq_not, beq_self_eq_true, beqFT, beqTF, decide_true, decide_false, not_false_eq_true, not_true_eq_false, ne_eq, true_and, and_true, false_and, and_false, and_self, if_true, if_false, ite_true, ite_false, Bool.and_true, Bool.and_false, Bool.true_and, Bool.false_and, Bool.or_true, Bool.true_or, Bool.or_false, Bool.false_or, or_true, true_or, or_false, false_or, or_self, AV.asInt, AV.asBool, AV.asSl, AV.asPtr, AV.asFn, AV.asStr, AV.asMap, AV.asIfc, AV.item, List.length_cons, List.length_nil, List.getElem?_cons_zero, List.getElem?_cons_succ, Nat.zero_add, b1, b2, Int.le_refl, Int.toNat_natCast, mkCells_int, ← h4, ws, eb]
  by_cases q1 : rd (backOf b w) (b.length - 1) = minL b
  · by_cases q2 : minL b ∈ (backOf b w).take (b.length - 1)
    · have hno : backOk b w = false := by simp [backOk, q1, q2]
      rw [hno, if_neg (by simp), if_neg (by simp)]
      refine ⟨Hdl.nil, σ5, Runs.intro (fn := Try.f22) (by kernel_rfl) (by kernel_rfl) ⟨k1 + na + nb + n6 + n7, fun k hk => ?_⟩, K5, ints_nil _, Store.Has.nil _⟩
      have r6 := r6 k (by omega)
      have r7 := r7 k (by omega)
      simp only [q2, decide_true] at r6 r7
      simp only [start k (by omega), f22_X111111111010_1]
      simp only [Option.bind_some, decide_eq_true_eq, decide_eq_false_iff_not, Bool.not_eq_true', Bool.not_true, Bool.not_false, Bool.false_eq_true, Bool.true_eq_false, Bool.not_eq_eq_eq_not, beq_self_eq_true, beqFT, beqTF, decide_true, decide_false, not_false_eq_true, not_true_eq_false, ne_eq, true_and, and_true, false_and, and_false, and_self, if_true, if_false, ite_true, ite_false, Bool.and_true, Bool.and_false, Bool.true_and, Bool.false_and, Bool.or_true, Bool.true_or, Bool.or_false, Bool.false_or, or_true, true_or, or_false, false_or, or_self, AV.asInt, AV.asBool, AV.asSl, AV.asPtr, AV.asFn, AV.asStr, AV.asMap, AV.asIfc, AV.item, List.length_cons, List.length_nil, List.getElem?_cons_zero, List.getElem?_cons_succ, Nat.zero_add, r6, ws, c0, c1, rlast, q1, e6, r7]
    · have post : ∀ k, k1 + na + nb + n6 + n7 + n8 + n9 + n10 ≤ k → evBody Try.prog (gm Try.prog k) drawn k Try.f22 [.slice h, .int .i64 w, .int .i64 al] σ =
          if bwtOf (backOf b w) (saOf (backOf b w)) = b then (if rd (saOf (backOf b w)) w = 0 then some (.tuple [.slice (hdS σ3.objs.length b.length), .int .i64 0], σ9) else some (.tuple [.slice Hdl.nil, .int .i64 10], σ9)) else some (.tuple [.slice Hdl.nil, .int .i64 10], σ9) := by
        intro k hk
        have r6 := r6 k (by omega)
        have r7 := r7 k (by omega)
        have r8 := r8 k (by omega)
        have r9 := r9 k (by omega)
        have r10 := r10 k (by omega)
        rw [start k (by omega), f22_X111111111010_1]
        by_cases q3 : bwtOf (backOf b w) (saOf (backOf b w)) = b
        · by_cases q4 : rd (saOf (backOf b w)) w = 0
          · simp only [Option.bind_some, decide_eq_true_eq, decide_eq_false_iff_not, Bool.not_eq_true', Bool.not_true, Bool.not_false, Bool.false_eq_true, Bool.true_eq_false, Bool.not_eq_eq_eq_not, beq_self_eq_true, beqFT, beqTF, decide_true, decide_false, not_false_eq_true, not_true_eq_false, ne_eq, true_and, and_true, false_and, and_false, and_self, if_true, if_false, ite_true, ite_false, Bool.and_true, Bool.and_false, Bool.true_and, Bool.false_and, Bool.or_true, Bool.true_or, Bool.or_false, Bool.false_or, or_true, true_or, or_false, false_or, or_self, AV.asInt, AV.asBool, AV.asSl, AV.asPtr, AV.asFn, AV.asStr, AV.asMap, AV.asIfc, AV.item, List.length_cons, List.length_nil, List.getElem?_cons_zero, List.getElem?_cons_succ, Nat.zero_add, q2, q3] at r6 r7 r8 r9 r10
            simp only [Option.bind_some, decide_eq_true_eq, decide_eq_false_iff_not, Bool.not_eq_true', Bool.not_true, Bool.not_false, Bool.false_eq_true, Bool.true_eq_false, Bool.not_eq_eq_eq_not, beq_self_eq_true, beqFT, beqTF, decide_true, decide_false, not_false_eq_true, not_true_eq_false, ne_eq, true_and, and_true, false_and, and_false, and_self, if_true, if_false, ite_true, ite_false, Bool.and_true, Bool.and_false, Bool.true_and, Bool.false_and, Bool.or_true, Bool.true_or, Bool.or_false, Bool.false_or, or_true, true_or, or_false, false_or, or_self, AV.asInt, AV.asBool, AV.asSl, AV.asPtr, AV.asFn, AV.asStr, AV.asMap, AV.asIfc, AV.item, List.length_cons, List.length_nil, List.getElem?_cons_zero, List.getElem?_cons_succ, Nat.zero_add, r6, ws, c0, c1, rlast, q1, e6, r7, r8, r9, r10, w0, w1', rsa, q3, q4]
          · simp only [Option.bind_some, decide_eq_true_eq, decide_eq_false_iff_not, Bool.not_eq_true', Bool.not_true, Bool.not_false, Bool.false_eq_true, Bool.true_eq_false, Bool.not_eq_eq_eq_not, beq_self_eq_true, beqFT, beqTF, decide_true, decide_false, not_false_eq_true, not_true_eq_false, ne_eq, true_and, and_true, false_and, and_false, and_self, if_true, if_false, ite_true, ite_false, Bool.and_true, Bool.and_false, Bool.true_and, Bool.false_and, Bool.or_true, Bool.true_or, Bool.or_false, Bool.false_or, or_true, true_or, or_false, false_or, or_self, AV.asInt, AV.asBool, AV.asSl, AV.asPtr, AV.asFn, AV.asStr, AV.asMap, AV.asIfc, AV.item, List.length_cons, List.length_nil, List.getElem?_cons_zero, List.getElem?_cons_succ, Nat.zero_add, q2, q3] at r6 r7 r8 r9 r10
            simp only [Option.bind_some, decide_eq_true_eq, decide_eq_false_iff_not, Bool.not_eq_true', Bool.not_true, Bool.not_false, Bool.false_eq_true, Bool.true_eq_false, Bool.not_eq_eq_eq_not, beq_self_eq_true, beqFT, beqTF, decide_true, decide_false, not_false_eq_true, not_true_eq_false, ne_eq, true_and, and_true, false_and, and_false, and_self, if_true, if_false, ite_true, ite_false, Bool.and_true, Bool.and_false, Bool.true_and, Bool.false_and, Bool.or_true, Bool.true_or, Bool.or_false, Bool.false_or, or_true, true_or, or_false, false_or, or_self, AV.asInt, AV.asBool, AV.asSl, AV.asPtr, AV.asFn, AV.asStr, AV.asMap, AV.asIfc, AV.item, List.length_cons, List.length_nil, List.getElem?_cons_zero, List.getElem?_cons_succ, Nat.zero_add, r6, ws, c0, c1, rlast, q1, e6, r7, r8, r9, r10, w0, w1', rsa, q3, q4]
        · simp only [Option.bind_some, decide_eq_true_eq, decide_eq_false_iff_not, Bool.not_eq_true', Bool.not_true, Bool.not_false, Bool.false_eq_true, Bool.true_eq_false, Bool.not_eq_eq_eq_not, beq_self_eq_true, beqFT, beqTF, decide_true, decide_false, not_false_eq_true, not_true_eq_false, ne_eq, true_and, and_true, false_and, and_false, and_self, if_true, if_false, ite_true, ite_false, Bool.and_true, Bool.and_false, Bool.true_and, Bool.false_and, Bool.or_true, Bool.true_or, Bool.or_false, Bool.false_or, or_true, true_or, or_false, false_or, or_self, AV.asInt, AV.asBool, AV.asSl, AV.asPtr, AV.asFn, AV.asStr, AV.asMap, AV.asIfc, AV.item, List.length_cons, List.length_nil, List.getElem?_cons_zero, List.getElem?_cons_succ, Nat.zero_add, q2, q3] at r6 r7 r8 r9 r10
          simp only [Option.bind_some, decide_eq_true_eq, decide_eq_false_iff_not, Bool.not_eq_true', Bool.not_true, Bool.not_false, Bool.false_eq_true, Bool.true_eq_false, Bool.not_eq_eq_eq_not, beq_self_eq_true, beqFT, beqTF, decide_true, decide_false, not_false_eq_true, not_true_eq_false, ne_eq, true_and, and_true, false_and, and_false, and_self, if_true, if_false, ite_true, ite_false, Bool.and_true, Bool.and_false, Bool.true_and, Bool.false_and, Bool.or_true, Bool.true_or, Bool.or_false, Bool.false_or, or_true, true_or, or_false, false_or, or_self, AV.asInt, AV.asBool, AV.asSl, AV.asPtr, AV.asFn, AV.asStr, AV.asMap, AV.asIfc, AV.item, List.length_cons, List.length_nil, List.getElem?_cons_zero, List.getElem?_cons_succ, Nat.zero_add, r6, ws, c0, c1, rlast, q1, e6, r7, r8, r9, r10, q3]
      by_cases q3 : bwtOf (backOf b w) (saOf (backOf b w)) = b
      · by_cases q4 : rd (saOf (backOf b w)) w = 0
        · have hyes : backOk b w = true := by simp [backOk, q1, q2, isB, q3, q4]
          rw [hyes, if_pos rfl, if_pos rfl]
          refine ⟨_, σ9, Runs.intro (fn := Try.f22) (by kernel_rfl) (by kernel_rfl) ⟨k1 + na + nb + n6 + n7 + n8 + n9 + n10, fun k hk => by simp only [post k hk]; rw [if_pos q3, if_pos q4]⟩, K5.all K59 , hTend, fun x e => ?_⟩
          have := H5 x e
          have := K59.len
          omega
        · have hno : backOk b w = false := by simp [backOk, isB, q4]
          rw [hno, if_neg (by simp), if_neg (by simp)]
          exact ⟨Hdl.nil, σ9, Runs.intro (fn := Try.f22) (by kernel_rfl) (by kernel_rfl) ⟨k1 + na + nb + n6 + n7 + n8 + n9 + n10, fun k hk => by simp only [post k hk]; rw [if_pos q3, if_neg q4]⟩, K5.all K59, ints_nil _, Store.Has.nil _⟩
      · have hno : backOk b w = false := by simp [backOk, isB, q3]
        rw [hno, if_neg (by simp), if_neg (by simp)]
        exact ⟨Hdl.nil, σ9, Runs.intro (fn := Try.f22) (by kernel_rfl) (by kernel_rfl) ⟨k1 + na + nb + n6 + n7 + n8 + n9 + n10, fun k hk => by simp only [post k hk]; rw [if_neg q3]⟩, K5.all K59, ints_nil _, Store.Has.nil _⟩
  · have hno : backOk b w = false := by simp [backOk, q1]
    rw [hno, if_neg (by simp), if_neg (by simp)]
    refine ⟨Hdl.nil, σ5, Runs.intro (fn := Try.f22) (by kernel_rfl) (by kernel_rfl) ⟨k1 + na + nb + n6, fun k hk => ?_⟩, K5, ints_nil _, Store.Has.nil _⟩
    have r6 := r6 k (by omega)
    simp only at r6
    simp only [start k (by omega), f22_X111111111010_1]
    simp only [Option.bind_some, decide_eq_true_eq, decide_eq_false_iff_not, Bool.not_eq_true', Bool.not_true, Bool.not_false, Bool.false_eq_true, Bool.true_eq_false, Bool.not_eq_eq_eq_not, beq_self_eq_true, beqFT, beqTF, decide_true, decide_false, not_false_eq_true, not_true_eq_false, ne_eq, true_and, and_true, false_and, and_false, and_self, if_true, if_false, ite_true, ite_false, Bool.and_true, Bool.and_false, Bool.true_and, Bool.false_and, Bool.or_true, Bool.true_or, Bool.or_false, Bool.false_or, or_true, true_or, or_false, false_or, or_self, AV.asInt, AV.asBool, AV.asSl, AV.asPtr, AV.asFn, AV.asStr, AV.asMap, AV.asIfc, AV.item, List.length_cons, List.length_nil, List.getElem?_cons_zero, List.getElem?_cons_succ, Nat.zero_add, r6, ws, c0, c1, rlast, q1]
end Go.Ab

/- Back: by the reference. -/
namespace Go.Ab
open Go Go.Proofs Go.Ab.Wd Go.Ab.Bs Go.Ab.Sai
set_option linter.unusedVariables false
set_option linter.unusedSimpArgs false
/-- The last number is the least, and there once. -/
def endsL (t : List Int) : Bool := decide (0 < t.length) && (places (t.length - 1)).all fun i => decide (rd t (t.length - 1) < rd t i)
theorem endsL_iff {t : List Int} : endsL t = true ↔ 0 < t.length ∧ ∀ i : Int, 0 ≤ i → i + 1 < t.length → rd t (t.length - 1) < rd t i := by
  simp only [endsL, Bool.and_eq_true, decide_eq_true_eq, List.all_eq_true, mem_places]
  exact ⟨fun ⟨h1, h2⟩ => ⟨h1, fun i i0 i1 => h2 i ⟨i0, by omega⟩⟩, fun ⟨h1, h2⟩ => ⟨h1, fun i ⟨i0, i1⟩ => h2 i i0 (by omega)⟩⟩
theorem ends_run {σ : Store} {h : Hdl} {t : List Int} (hT : σ.Ints h t) (hn : t.length < 2 ^ 61) : Runs Try.prog 52 [.slice h] σ (.bool (endsL t)) σ := by
  have ll := hT.ilen
  obtain ⟨r, e, q⟩ := EvI.upX (f := fun k s => stepF Try.prog (gm Try.prog k) drawn k Try.f52 [1, 0, 1, 0] [3, 0] s) (t.length - 1)
    (fun i s => s = ([.int .i64 i, .slice h], σ) ∧ ∀ j : Int, 0 ≤ j → j < i → rd t (t.length - 1) < rd t j)
    (fun r => (r = (AX.ret, [(2, .bool false)], σ) ∧ endsL t = false) ∨ (r = (AX.exit 0, [(0, .slice h)], σ) ∧ endsL t = decide (0 < t.length)))
    (by
      rintro i s hi ⟨rfl, hq⟩
      have i0 : (0 : Int) ≤ i := by omega
      have i1 : (i : Int) < t.length := by omega
      have i2 : ((i + 1 : Nat) : Int) < t.length := by omega
      have i3 : (0 : Int) ≤ (t.length : Int) - 1 := by omega
      have i4 : (t.length : Int) - 1 < t.length := by omega
      have w := wsucc hi (by omega)
      have w1 : IntKind.wrap .i64 ((t.length : Int) - 1) = t.length - 1 := wrap64 (by omega) (by omega)
      by_cases c : rd t i ≤ rd t (t.length - 1)
      · refine .inr ⟨_, Ev.of fun k => by simp only [f52_L1010]; simp only [Option.bind_some, decide_eq_true_eq, decide_eq_false_iff_not, Bool.not_eq_true', Bool.not_true, Bool.not_false, Bool.false_eq_true, Bool.true_eq_false, Bool.not_eq_eq_eq_not, beq_self_eq_true, beqFT, beqTF, decide_true, decide_false, not_false_eq_true, not_true_eq_false, ne_eq, true_and, and_true, false_and, and_false, and_self, if_true, if_false, ite_true, ite_false, Bool.and_true, Bool.and_false, Bool.true_and, Bool.false_and, Bool.or_true, Bool.true_or, Bool.or_false, Bool.false_or, or_true, true_or, or_false, false_or, or_self, AV.asInt, AV.asBool, AV.asSl, AV.asPtr, AV.asFn, AV.asStr, AV.asMap, AV.asIfc, AV.item, List.length_cons, List.length_nil, List.getElem?_cons_zero, List.getElem?_cons_succ, Nat.zero_add, ll, i0, i1, i2, i3, i4, w, w1, hT.rd i0 i1, hT.rd i3 i4, c], .inl ⟨rfl, ?_⟩⟩
        rw [Bool.eq_false_iff]; intro hb
        have := (endsL_iff.1 hb).2 i i0 (by omega)
        omega
      · refine .inl ⟨_, Ev.of fun k => by simp only [f52_L1010]; simp only [Option.bind_some, decide_eq_true_eq, decide_eq_false_iff_not, Bool.not_eq_true', Bool.not_true, Bool.not_false, Bool.false_eq_true, Bool.true_eq_false, Bool.not_eq_eq_eq_not, beq_self_eq_true, beqFT, beqTF, decide_true, decide_false, not_false_eq_true, not_true_eq_false, ne_eq, true_and, and_true, false_and, and_false, and_self, if_true, if_false, ite_true, ite_false, Bool.and_true, Bool.and_false, Bool.true_and, Bool.false_and, Bool.or_true, Bool.true_or, Bool.or_false, Bool.false_or, or_true, true_or, or_false, false_or, or_self, AV.asInt, AV.asBool, AV.asSl, AV.asPtr, AV.asFn, AV.asStr, AV.asMap, AV.asIfc, AV.item, List.length_cons, List.length_nil, List.getElem?_cons_zero, List.getElem?_cons_succ, Nat.zero_add, ll, i0, i1, i2, i3, i4, w, w1, hT.rd i0 i1, hT.rd i3 i4, c], rfl, fun j j0 j1 => ?_⟩
        by_cases e : j = i
        · rw [e]; omega
        · exact hq j j0 (by omega))
    (by
      rintro s ⟨rfl, hq⟩
      have w : IntKind.wrap .i64 (((t.length - 1 : Nat) : Int) + 1) = ((t.length - 1 : Nat) : Int) + 1 := wrap64 (by omega) (by omega)
      have c : ¬ ((t.length - 1 : Nat) : Int) + 1 < t.length := by omega
      refine ⟨(AX.exit 0, [(0, .slice h)], σ), Ev.of fun k => by simp only [f52_L1010]; simp only [Option.bind_some, decide_eq_true_eq, decide_eq_false_iff_not, Bool.not_eq_true', Bool.not_true, Bool.not_false, Bool.false_eq_true, Bool.true_eq_false, Bool.not_eq_eq_eq_not, beq_self_eq_true, beqFT, beqTF, decide_true, decide_false, not_false_eq_true, not_true_eq_false, ne_eq, true_and, and_true, false_and, and_false, and_self, if_true, if_false, ite_true, ite_false, Bool.and_true, Bool.and_false, Bool.true_and, Bool.false_and, Bool.or_true, Bool.true_or, Bool.or_false, Bool.false_or, or_true, true_or, or_false, false_or, or_self, AV.asInt, AV.asBool, AV.asSl, AV.asPtr, AV.asFn, AV.asStr, AV.asMap, AV.asIfc, AV.item, List.length_cons, List.length_nil, List.getElem?_cons_zero, List.getElem?_cons_succ, Nat.zero_add, ll, w, c], .inr ⟨rfl, ?_⟩⟩
      by_cases c0 : 0 < t.length
      · rw [decide_eq_true c0, endsL_iff]
        exact ⟨c0, fun i i0 i1 => hq i i0 (by omega)⟩
      · rw [decide_eq_false c0, Bool.eq_false_iff]; intro hb; exact c0 (endsL_iff.1 hb).1)
    (Nat.zero_le _) (s := ([.int .i64 0, .slice h], σ)) ⟨rfl, fun j j0 j1 => by omega⟩
  refine Runs.intro (fn := Try.f52) (by kernel_rfl) (by kernel_rfl) ?_
  rcases q with ⟨rfl, q⟩ | ⟨rfl, q⟩
  · rw [q]; exact (Ev.bind (loopF_ev e) (Ev.of fun k => f52_X1010_1 (gm Try.prog k) k σ _)).congr fun k => by rw [f52_eq]
  · rw [q]
    refine (Ev.bind (loopF_ev e) (?_ : Ev (fun k => contF Try.prog (gm Try.prog k) drawn k Try.f52 [1, 0, 1, 0] (AX.exit 0, [(0, .slice h)], σ)) _)).congr fun k => by rw [f52_eq]
    refine Ev.of fun k => ?_
    rw [f52_X1010_2, ll]
    by_cases c : 0 < t.length
    · have c' : (0 : Int) < t.length := by omega
      simp only [c, c']
    · have c' : ¬ (0 : Int) < t.length := by omega
      simp only [c, c']
theorem is_run {σ : Store} {h h' : Hdl} {t b : List Int} {w : Int} (hT : σ.Ints h t) (hB : σ.Ints h' b) (hp : σ.prot ≤ σ.objs.length) (hn : t.length < 2 ^ 40) (hl : b.length = t.length) (w0 : 0 ≤ w) (w1 : w < t.length) :
    ∃ σ', Runs Try.prog 53 [.slice h, .slice h', .int .i64 w] σ (.bool (isB t b w)) σ' ∧ Kp σ.objs.length σ σ' := by
  have hsa := saOf_spec t
  have lsa := saOf_len t
  obtain ⟨h1, σ1, ⟨k1, r1⟩, K1, G1⟩ := ref9_array hT (by omega) hp
  have hp1 : σ1.prot ≤ σ1.objs.length := by rw [K1.prot]; have := K1.len; omega
  obtain ⟨h2, σ2, ⟨k2, r2⟩, K2, G2⟩ := refMake_run (Store.Sl.kp hT K1) G1.ints hp1 (by omega) (by rw [lsa]; omega) (fun p hp => saOf_rng hp)
  have K12 := K1.all K2
  have G12 := G1.kp K2
  have l1 := G12.ints.ilen
  have l2 := G2.ints.ilen
  have lb := Store.Ints.ilen (Store.Sl.kp hB K12)
  rw [bwtOf_length, lsa] at l2
  rw [lsa] at l1
  have rsa := G12.ints.rd w0 (by rw [lsa]; exact w1)
  obtain ⟨x, hx⟩ : ∃ x, x = bwtOf t (saOf t) := ⟨_, rfl⟩
  have lx : x.length = t.length := by rw [hx, bwtOf_length, lsa]
  have Ix := G2.ints
  rw [← hx] at Ix
  obtain ⟨r, e, q⟩ := EvI.upX (f := fun k s => stepF Try.prog (gm Try.prog k) drawn k Try.f53 [1, 1, 1, 1, 0, 1, 0] [29, 28, 8, 1] s) x.length
    (fun i s => s = ([.int .i64 i, .int .i64 x.length, .slice h2, .slice h'], σ2) ∧ x.take i = b.take i)
    (fun r => (r = (AX.ret, [(6, .bool false)], σ2) ∧ x ≠ b) ∨ (r = (AX.exit 0, [], σ2) ∧ x = b))
    (by
      rintro i s hi ⟨rfl, hq⟩
      have i0 : (0 : Int) ≤ i := by omega
      have i1 : (i : Int) < x.length := by omega
      have i2 : (i : Int) < b.length := by omega
      have i3 : (i : Int) < h2.len := by omega
      have i4 : (i : Int) < h'.len := by omega
      have w := wsucc hi (by omega)
      have ra := Ix.rd i0 i1
      have rb := Store.Ints.rd (Store.Sl.kp hB K12) i0 i2
      by_cases c : rd x i = rd b i
      · exact .inl ⟨_, Ev.of fun k => by simp only [f53_L1111010]; simp only [Option.bind_some, decide_eq_true_eq, decide_eq_false_iff_not, Bool.not_eq_true', Bool.not_true, Bool.not_false, Bool.false_eq_true, Bool.true_eq_false, Bool.not_eq_eq_eq_not, beq_self_eq_true, beqFT, beqTF, decide_true, decide_false, not_false_eq_true, not_true_eq_false, ne_eq, true_and, and_true, false_and, and_false, and_self, if_true, if_false, ite_true, ite_false, Bool.and_true, Bool.and_false, Bool.true_and, Bool.false_and, Bool.or_true, Bool.true_or, Bool.or_false, Bool.false_or, or_true, true_or, or_false, false_or, or_self, AV.asInt, AV.asBool, AV.asSl, AV.asPtr, AV.asFn, AV.asStr, AV.asMap, AV.asIfc, AV.item, List.length_cons, List.length_nil, List.getElem?_cons_zero, List.getElem?_cons_succ, Nat.zero_add, i0, i1, i3, i4, ra, rb, c, w], rfl, by rw [take_rd hi, take_rd (by omega), hq, c]⟩
      · exact .inr ⟨_, Ev.of fun k => by simp only [f53_L1111010]; simp only [Option.bind_some, decide_eq_true_eq, decide_eq_false_iff_not, Bool.not_eq_true', Bool.not_true, Bool.not_false, Bool.false_eq_true, Bool.true_eq_false, Bool.not_eq_eq_eq_not, beq_self_eq_true, beqFT, beqTF, decide_true, decide_false, not_false_eq_true, not_true_eq_false, ne_eq, true_and, and_true, false_and, and_false, and_self, if_true, if_false, ite_true, ite_false, Bool.and_true, Bool.and_false, Bool.true_and, Bool.false_and, Bool.or_true, Bool.true_or, Bool.or_false, Bool.false_or, or_true, true_or, or_false, false_or, or_self, AV.asInt, AV.asBool, AV.asSl, AV.asPtr, AV.asFn, AV.asStr, AV.asMap, AV.asIfc, AV.item, List.length_cons, List.length_nil, List.getElem?_cons_zero, List.getElem?_cons_succ, Nat.zero_add, i0, i1, i3, i4, ra, rb, c], .inl ⟨rfl, fun h => c (by rw [h])⟩⟩)
    (by
      rintro s ⟨rfl, hq⟩
      rw [List.take_of_length_le (Nat.le_refl _), List.take_of_length_le (by omega)] at hq
      exact ⟨_, Ev.of fun k => by simp only [f53_L1111010]; simp only [Option.bind_some, decide_eq_true_eq, decide_eq_false_iff_not, Bool.not_eq_true', Bool.not_true, Bool.not_false, Bool.false_eq_true, Bool.true_eq_false, Bool.not_eq_eq_eq_not, beq_self_eq_true, beqFT, beqTF, decide_true, decide_false, not_false_eq_true, not_true_eq_false, ne_eq, true_and, and_true, false_and, and_false, and_self, if_true, if_false, ite_true, ite_false, Bool.and_true, Bool.and_false, Bool.true_and, Bool.false_and, Bool.or_true, Bool.true_or, Bool.or_false, Bool.false_or, or_true, true_or, or_false, false_or, or_self, AV.asInt, AV.asBool, AV.asSl, AV.asPtr, AV.asFn, AV.asStr, AV.asMap, AV.asIfc, AV.item, List.length_cons, List.length_nil, List.getElem?_cons_zero, List.getElem?_cons_succ, Nat.zero_add, Int.lt_irrefl], .inr ⟨rfl, hq⟩⟩)
    (Nat.zero_le _) (s := ([.int .i64 0, .int .i64 x.length, .slice h2, .slice h'], σ2)) ⟨rfl, by simp⟩
  obtain ⟨n3, e⟩ := loopF_ev e
  have c1 : ((h2.len : Nat) : Int) = h'.len := by omega
  have c2 : w < h1.len := by omega
  have c3 : ((h2.len : Nat) : Int) = x.length := by omega
  refine ⟨σ2, Runs.intro (fn := Try.f53) (by kernel_rfl) (by kernel_rfl) ⟨k1 + k2 + n3, fun k hk => ?_⟩, K12⟩
  have r1 := r1 k (by omega)
  have r2 := r2 k (by omega)
  have e := e k (by omega)
  simp only at r1 r2 e
  simp only [f53_eq]
  unfold isB
  rw [← hx]
  by_cases c4 : rd (saOf t) w = 0
  · have c3' : ((h'.len : Nat) : Int) = x.length := by omega
    simp only [Option.bind_some, decide_eq_true_eq, decide_eq_false_iff_not, Bool.not_eq_true', Bool.not_true, Bool.not_false, Bool.false_eq_true, Bool.true_eq_false, Bool.not_eq_eq_eq_not, beq_self_eq_true, beqFT, beqTF, decide_true, decide_false, not_false_eq_true, not_true_eq_false, ne_eq, true_and, and_true, false_and, and_false, and_self, if_true, if_false, ite_true, ite_false, Bool.and_true, Bool.and_false, Bool.true_and, Bool.false_and, Bool.or_true, Bool.true_or, Bool.or_false, Bool.false_or, or_true, true_or, or_false, false_or, or_self, AV.asInt, AV.asBool, AV.asSl, AV.asPtr, AV.asFn, AV.asStr, AV.asMap, AV.asIfc, AV.item, List.length_cons, List.length_nil, List.getElem?_cons_zero, List.getElem?_cons_succ, Nat.zero_add, r1, r2, c1, w0, c2, rsa, c4, c3', e]
    rcases q with ⟨rfl, q⟩ | ⟨rfl, q⟩
    · rw [f53_X1111010_1]; simp only [q, decide_false]
    · rw [f53_X1111010_2]; simp only [q, decide_true]
  · simp only [Option.bind_some, decide_eq_true_eq, decide_eq_false_iff_not, Bool.not_eq_true', Bool.not_true, Bool.not_false, Bool.false_eq_true, Bool.true_eq_false, Bool.not_eq_eq_eq_not, beq_self_eq_true, beqFT, beqTF, decide_true, decide_false, not_false_eq_true, not_true_eq_false, ne_eq, true_and, and_true, false_and, and_false, and_self, if_true, if_false, ite_true, ite_false, Bool.and_true, Bool.and_false, Bool.true_and, Bool.false_and, Bool.or_true, Bool.true_or, Bool.or_false, Bool.false_or, or_true, true_or, or_false, false_or, or_self, AV.asInt, AV.asBool, AV.asSl, AV.asPtr, AV.asFn, AV.asStr, AV.asMap, AV.asIfc, AV.item, List.length_cons, List.length_nil, List.getElem?_cons_zero, List.getElem?_cons_succ, Nat.zero_add, r1, r2, c1, w0, c2, rsa, c4]
/-- The reference's count of a round. -/
theorem back_inner {σ : Store} {h ht : Hdl} {b : List Int} {kk i whole : Int} (hB : σ.Ints h b) (hn : b.length < 2 ^ 61) (i0 : 0 ≤ i) (i1 : i < b.length) :
    EvI (fun k s => stepF Try.prog (gm Try.prog k) drawn k Try.f23 [1, 1, 1, 1, 0, 1, 0, 0, 1, 0, 0, 1, 1, 0, 1, 0] [34, 33, 32, 11, 10, 9, 8, 7, 1, 0] s)
      ([.int .i64 0, .int .i64 b.length, .slice h, .int .i64 0, .int .i64 0, .int .i64 kk, .int .i64 i, .slice ht, .int .i64 whole, .slice h], σ)
      (AX.exit 2, [(11, .int .i64 (Bs.cnt (fun x => decide (x = rd b i)) (b.take i.toNat) : Nat)), (10, .int .i64 (Bs.cnt (fun x => decide (x < rd b i)) b : Nat)), (9, .int .i64 kk), (7, .slice ht), (1, .int .i64 whole), (0, .slice h)], σ) := by
  have lb := hB.ilen
  have rv := hB.rd i0 i1
  obtain ⟨r, e, rfl⟩ := EvI.up (f := fun k s => stepF Try.prog (gm Try.prog k) drawn k Try.f23 [1, 1, 1, 1, 0, 1, 0, 0, 1, 0, 0, 1, 1, 0, 1, 0] [34, 33, 32, 11, 10, 9, 8, 7, 1, 0] s) b.length
    (fun j s => s = ([.int .i64 j, .int .i64 b.length, .slice h, .int .i64 (Bs.cnt (fun x => decide (x = rd b i)) (b.take (min j i.toNat)) : Nat), .int .i64 (Bs.cnt (fun x => decide (x < rd b i)) (b.take j) : Nat), .int .i64 kk, .int .i64 i, .slice ht, .int .i64 whole, .slice h], σ))
    (fun r => r = (AX.exit 2, [(11, .int .i64 (Bs.cnt (fun x => decide (x = rd b i)) (b.take i.toNat) : Nat)), (10, .int .i64 (Bs.cnt (fun x => decide (x < rd b i)) b : Nat)), (9, .int .i64 kk), (7, .slice ht), (1, .int .i64 whole), (0, .slice h)], σ))
    (by
      rintro j s hj rfl
      have j0 : (0 : Int) ≤ j := by omega
      have j1 : (j : Int) < b.length := by omega
      have w := wsucc hj (by omega)
      have rj := hB.rd j0 j1
      have cl1 := cnt_le (fun x => decide (x = rd b i)) (b.take (min j i.toNat))
      have cl2 := cnt_le (fun x => decide (x < rd b i)) (b.take j)
      rw [List.length_take] at cl1 cl2
      have w1 : IntKind.wrap .i64 ((Bs.cnt (fun x => decide (x = rd b i)) (b.take (min j i.toNat)) : Nat) + 1) = ((Bs.cnt (fun x => decide (x = rd b i)) (b.take (min j i.toNat)) + 1 : Nat) : Int) := by rw [wrap64 (by omega) (by omega)]; omega
      have w2 : IntKind.wrap .i64 ((Bs.cnt (fun x => decide (x < rd b i)) (b.take j) : Nat) + 1) = ((Bs.cnt (fun x => decide (x < rd b i)) (b.take j) + 1 : Nat) : Int) := by rw [wrap64 (by omega) (by omega)]; omega
      have s2 := cnt_take_succ (fun x => decide (x < rd b i)) hj
      have s1 : Bs.cnt (fun x => decide (x = rd b i)) (b.take (min (j + 1) i.toNat)) = Bs.cnt (fun x => decide (x = rd b i)) (b.take (min j i.toNat)) + if (j : Int) < i ∧ rd b j = rd b i then 1 else 0 := by
        by_cases c : (j : Int) < i
        · rw [show min (j + 1) i.toNat = j + 1 by omega, show min j i.toNat = j by omega, cnt_take_succ _ hj]
          by_cases c2 : rd b j = rd b i
          · rw [if_pos (by simp [c2]), if_pos ⟨c, c2⟩]
          · rw [if_neg (by simpa using c2), if_neg (by rintro ⟨_, h⟩; exact c2 h)]
        · rw [show min (j + 1) i.toNat = i.toNat by omega, show min j i.toNat = i.toNat by omega, if_neg (by rintro ⟨h, _⟩; exact c h)]; omega
      refine ⟨_, Ev.of fun k => ?_, rfl⟩
      simp only [f23_L1111010010011010]
      by_cases c1 : rd b j < rd b i
      · have c2 : ¬ rd b j = rd b i := by omega
        rw [if_pos (by simpa using c1)] at s2
        rw [if_neg (by rintro ⟨_, h⟩; exact c2 h)] at s1
        simp only [Option.bind_some, decide_eq_true_eq, decide_eq_false_iff_not, Bool.not_eq_true', Bool.not_true, Bool.not_false, Bool.false_eq_true, Bool.true_eq_false, Bool.not_eq_eq_eq_not, beq_self_eq_true, beqFT, beqTF, decide_true, decide_false, not_false_eq_true, not_true_eq_false, ne_eq, true_and, and_true, false_and, and_false, and_self, if_true, if_false, ite_true, ite_false, Bool.and_true, Bool.and_false, Bool.true_and, Bool.false_and, Bool.or_true, Bool.true_or, Bool.or_false, Bool.false_or, or_true, true_or, or_false, false_or, or_self, AV.asInt, AV.asBool, AV.asSl, AV.asPtr, AV.asFn, AV.asStr, AV.asMap, AV.asIfc, AV.item, List.length_cons, List.length_nil, List.getElem?_cons_zero, List.getElem?_cons_succ, Nat.zero_add, lb, j0, j1, i0, i1, rj, rv, c1, c2, w, w2, s1, s2, Nat.add_zero]
      · rw [if_neg (by simpa using c1)] at s2
        by_cases c2 : rd b j = rd b i
        · by_cases c3 : (j : Int) < i
          · rw [if_pos ⟨c3, c2⟩] at s1
            simp only [Option.bind_some, decide_eq_true_eq, decide_eq_false_iff_not, Bool.not_eq_true', Bool.not_true, Bool.not_false, Bool.false_eq_true, Bool.true_eq_false, Bool.not_eq_eq_eq_not, beq_self_eq_true, beqFT, beqTF, decide_true, decide_false, not_false_eq_true, not_true_eq_false, ne_eq, true_and, and_true, false_and, and_false, and_self, if_true, if_false, ite_true, ite_false, Bool.and_true, Bool.and_false, Bool.true_and, Bool.false_and, Bool.or_true, Bool.true_or, Bool.or_false, Bool.false_or, or_true, true_or, or_false, false_or, or_self, AV.asInt, AV.asBool, AV.asSl, AV.asPtr, AV.asFn, AV.asStr, AV.asMap, AV.asIfc, AV.item, List.length_cons, List.length_nil, List.getElem?_cons_zero, List.getElem?_cons_succ, Nat.zero_add, lb, j0, j1, i0, i1, rj, rv, c2, c3, w, w1, s1, s2, Nat.add_zero, Int.lt_irrefl]
          · rw [if_neg (by rintro ⟨h, _⟩; exact c3 h)] at s1
            simp only [Option.bind_some, decide_eq_true_eq, decide_eq_false_iff_not, Bool.not_eq_true', Bool.not_true, Bool.not_false, Bool.false_eq_true, Bool.true_eq_false, Bool.not_eq_eq_eq_not, beq_self_eq_true, beqFT, beqTF, decide_true, decide_false, not_false_eq_true, not_true_eq_false, ne_eq, true_and, and_true, false_and, and_false, and_self, if_true, if_false, ite_true, ite_false, Bool.and_true, Bool.and_false, Bool.true_and, Bool.false_and, Bool.or_true, Bool.true_or, Bool.or_false, Bool.false_or, or_true, true_or, or_false, false_or, or_self, AV.asInt, AV.asBool, AV.asSl, AV.asPtr, AV.asFn, AV.asStr, AV.asMap, AV.asIfc, AV.item, List.length_cons, List.length_nil, List.getElem?_cons_zero, List.getElem?_cons_succ, Nat.zero_add, lb, j0, j1, i0, i1, rj, rv, c2, c3, w, s1, s2, Nat.add_zero, Int.lt_irrefl]
        · rw [if_neg (by rintro ⟨_, h⟩; exact c2 h)] at s1
          simp only [Option.bind_some, decide_eq_true_eq, decide_eq_false_iff_not, Bool.not_eq_true', Bool.not_true, Bool.not_false, Bool.false_eq_true, Bool.true_eq_false, Bool.not_eq_eq_eq_not, beq_self_eq_true, beqFT, beqTF, decide_true, decide_false, not_false_eq_true, not_true_eq_false, ne_eq, true_and, and_true, false_and, and_false, and_self, if_true, if_false, ite_true, ite_false, Bool.and_true, Bool.and_false, Bool.true_and, Bool.false_and, Bool.or_true, Bool.true_or, Bool.or_false, Bool.false_or, or_true, true_or, or_false, false_or, or_self, AV.asInt, AV.asBool, AV.asSl, AV.asPtr, AV.asFn, AV.asStr, AV.asMap, AV.asIfc, AV.item, List.length_cons, List.length_nil, List.getElem?_cons_zero, List.getElem?_cons_succ, Nat.zero_add, lb, j0, j1, i0, i1, rj, rv, c1, c2, w, s1, s2, Nat.add_zero])
    (by
      rintro s rfl
      refine ⟨_, Ev.of fun k => ?_, rfl⟩
      simp only [f23_L1111010010011010]
      rw [show min b.length i.toNat = i.toNat by omega, List.take_length]
      simp only [Option.bind_some, decide_eq_true_eq, decide_eq_false_iff_not, Bool.not_eq_true', Bool.not_true, Bool.not_false, Bool.false_eq_true, Bool.true_eq_false, Bool.not_eq_eq_eq_not, beq_self_eq_true, beqFT, beqTF, decide_true, decide_false, not_false_eq_true, not_true_eq_false, ne_eq, true_and, and_true, false_and, and_false, and_self, if_true, if_false, ite_true, ite_false, Bool.and_true, Bool.and_false, Bool.true_and, Bool.false_and, Bool.or_true, Bool.true_or, Bool.or_false, Bool.false_or, or_true, true_or, or_false, false_or, or_self, AV.asInt, AV.asBool, AV.asSl, AV.asPtr, AV.asFn, AV.asStr, AV.asMap, AV.asIfc, AV.item, List.length_cons, List.length_nil, List.getElem?_cons_zero, List.getElem?_cons_succ, Nat.zero_add, Int.lt_irrefl])
    (s := ([.int .i64 0, .int .i64 b.length, .slice h, .int .i64 0, .int .i64 0, .int .i64 kk, .int .i64 i, .slice ht, .int .i64 whole, .slice h], σ)) (by simp [Bs.cnt])
  exact e
theorem refBack_run {σ : Store} {h : Hdl} {b : List Int} {w : Int} (hB : σ.Ints h b) (hp : σ.prot ≤ σ.objs.length) (hn : b.length < 2 ^ 40) (w0 : 0 ≤ w) (w1 : w < b.length) :
    ∃ ho σ', Runs Try.prog 23 [.slice h, .int .i64 w] σ (.tuple [.slice ho, .bool (endsL (backOf b w) && isB (backOf b w) b w)]) σ' ∧ Kp σ.objs.length σ σ' ∧ σ'.Ints ho (backOf b w) := by
  have lb := hB.ilen
  obtain ⟨σ1, h1⟩ : ∃ x, x = σ.push (intsL (List.replicate b.length 0)) 1 := ⟨_, rfl⟩
  have K1 : Kp σ.objs.length σ σ1 := by rw [h1]; exact Kp.push _ _ (Nat.le_refl _)
  have T1 : σ1.Row σ.objs.length 1 (intsL (List.replicate b.length 0)) := by rw [h1]; exact Store.Row.new
  obtain ⟨rb, eb, σ2, rfl, K2, T2⟩ := EvI.downX (f := fun k s => stepF Try.prog (gm Try.prog k) drawn k Try.f23 [1, 1, 1, 1, 0, 1, 0] [9, 8, 7, 1, 0] s)
    (fun m s => ∃ t s1, s = ([.int .i64 ((m : Int) - 1), .int .i64 (itr b (b.length - m) w), .slice (hdS σ.objs.length b.length), .int .i64 w, .slice h], s1) ∧ m ≤ b.length ∧ Kp σ.objs.length σ s1 ∧ s1.Row σ.objs.length 1 (intsL t) ∧
      t.length = b.length ∧ ∀ p : Int, (m : Int) ≤ p → p < b.length → rd t p = rd (backOf b w) p)
    (fun r => ∃ s1, r = (AX.exit 0, [(7, .slice (hdS σ.objs.length b.length)), (1, .int .i64 w), (0, .slice h)], s1) ∧ Kp σ.objs.length σ s1 ∧ s1.Row σ.objs.length 1 (intsL (backOf b w)))
    (by
      rintro m s ⟨t, s1, rfl, hm, kk, rt, lt, ht⟩
      have e1 : ((m + 1 : Nat) : Int) - 1 = m := by omega
      rw [e1]
      have i0 : (0 : Int) ≤ m := by omega
      have i1 : (m : Int) < b.length := by omega
      obtain ⟨j0, j1⟩ := itr_rng (b := b) (b.length - (m + 1)) w0 w1
      have rx := Store.Ints.rd (Store.Sl.kp hB kk) j0 j1
      have st := st_ints (x := rd b (itr b (b.length - (m + 1)) w)) (len := b.length) (cp := some b.length) rt (by rw [kk.prot]; exact hp) i0 (by omega)
      have kk2 := kk.setO (b := σ.objs.length) (o := .cells (intsL (t.set (m : Int).toNat (rd b (itr b (b.length - (m + 1)) w)))) true 1) (Nat.le_refl _)
      obtain ⟨n3, e3⟩ := loopF_ev (back_inner (kk := m) (whole := w) (ht := hdS σ.objs.length b.length) (Store.Sl.kp hB kk2) (by omega) j0 j1)
      have ws : IntKind.wrap .i64 ((m : Int) - 1) = m - 1 := wrap64 (by omega) (by omega)
      have en : lf b (itr b (b.length - (m + 1)) w) = itr b (b.length - m) w := by rw [← itr_succ]; congr 1; omega
      have lr := lf_rng (b := b) j0 j1
      have we : IntKind.wrap .i64 ((Bs.cnt (fun x => decide (x < rd b (itr b (b.length - (m + 1)) w))) b : Nat) + (Bs.cnt (fun x => decide (x = rd b (itr b (b.length - (m + 1)) w))) (b.take (itr b (b.length - (m + 1)) w).toNat) : Nat)) = itr b (b.length - m) w := by
        rw [← en]
        have : lf b (itr b (b.length - (m + 1)) w) = (Bs.cnt (fun x => decide (x < rd b (itr b (b.length - (m + 1)) w))) b : Nat) + (Bs.cnt (fun x => decide (x = rd b (itr b (b.length - (m + 1)) w))) (b.take (itr b (b.length - (m + 1)) w).toNat) : Nat) := by unfold lf; omega
        rw [wrap64 (by omega) (by omega), this]
      refine .inl ⟨_, ⟨n3, fun k hk => ?_⟩, t.set (m : Int).toNat (rd b (itr b (b.length - (m + 1)) w)), _, rfl, by omega, kk2, Store.Row.setO_eq rt.lt, by simpa using lt, fun p p0 p1 => ?_⟩
      · have e3 := e3 k hk
        simp only at e3
        simp only [f23_L1111010]
        simp only [Option.bind_some, decide_eq_true_eq, decide_eq_false_iff_not, Bool.not_eq_true', Bool.not_true, Bool.not_false, Bool.false_eq_true, Bool.true_eq_false, Bool.not_eq_eq_eq_not, beq_self_eq_true, beqFT, beqTF, decide_true, decide_false, not_false_eq_true, not_true_eq_false, ne_eq, true_and, and_true, false_and, and_false, and_self, if_true, if_false, ite_true, ite_false, Bool.and_true, Bool.and_false, Bool.true_and, Bool.false_and, Bool.or_true, Bool.true_or, Bool.or_false, Bool.false_or, or_true, true_or, or_false, false_or, or_self, AV.asInt, AV.asBool, AV.asSl, AV.asPtr, AV.asFn, AV.asStr, AV.asMap, AV.asIfc, AV.item, List.length_cons, List.length_nil, List.getElem?_cons_zero, List.getElem?_cons_succ, Nat.zero_add, lb, i0, i1, j0, j1, rx, st, e3]
        rw [f23_X1111010010011010_1, ws, we]
      · rw [rd_set i0 (by omega) (by omega)]
        by_cases e : (m : Int) = p
        · rw [if_pos e, ← e, rd_backOf i0 i1, show ((b.length : Int) - 1 - (m : Int)).toNat = b.length - (m + 1) by omega]
        · rw [if_neg e]; exact ht p (by omega) p1)
    (by
      rintro s ⟨t, s1, rfl, hm, kk, rt, lt, ht⟩
      have : t = backOf b w := Bs.ext_rd (by rw [lt, backOf_length]) fun p p0 p1 => ht p (by omega) (by omega)
      subst this
      refine ⟨(AX.exit 0, [(7, .slice (hdS σ.objs.length b.length)), (1, .int .i64 w), (0, .slice h)], s1), Ev.of fun k => ?_, s1, rfl, kk, rt⟩
      simp only [f23_L1111010]
      have c : ¬ (0 : Int) ≤ ((0 : Nat) : Int) - 1 := by omega
      simp only [Option.bind_some, decide_eq_true_eq, decide_eq_false_iff_not, Bool.not_eq_true', Bool.not_true, Bool.not_false, Bool.false_eq_true, Bool.true_eq_false, Bool.not_eq_eq_eq_not, beq_self_eq_true, beqFT, beqTF, decide_true, decide_false, not_false_eq_true, not_true_eq_false, ne_eq, true_and, and_true, false_and, and_false, and_self, if_true, if_false, ite_true, ite_false, Bool.and_true, Bool.and_false, Bool.true_and, Bool.false_and, Bool.or_true, Bool.true_or, Bool.or_false, Bool.false_or, or_true, true_or, or_false, false_or, or_self, AV.asInt, AV.asBool, AV.asSl, AV.asPtr, AV.asFn, AV.asStr, AV.asMap, AV.asIfc, AV.item, List.length_cons, List.length_nil, List.getElem?_cons_zero, List.getElem?_cons_succ, Nat.zero_add, c])
    b.length (s := ([.int .i64 ((b.length : Int) - 1), .int .i64 w, .slice (hdS σ.objs.length b.length), .int .i64 w, .slice h], σ1))
    ⟨_, σ1, by rw [Nat.sub_self]; rfl, Nat.le_refl _, K1, T1, by simp, fun p p0 p1 => by omega⟩
  have lbk := backOf_length b w
  have I2 : σ2.Ints (hdS σ.objs.length b.length) (backOf b w) := T2.sl (by simp [lbk])
  have hp2 : σ2.prot ≤ σ2.objs.length := by rw [K2.prot]; have := K2.len; omega
  obtain ⟨n3, r3⟩ := ends_run I2 (by omega)
  obtain ⟨n2, eb⟩ := loopF_ev eb
  have b1 : (0 : Int) ≤ b.length := by omega
  have b2 : (b.length : Int) * ((8 : Nat) : Int) ≤ 281474976710656 := by omega
  have ws : IntKind.wrap .i64 ((b.length : Int) - 1) = b.length - 1 := wrap64 (by omega) (by omega)
  cases he : endsL (backOf b w) with
  | false =>
    rw [he] at r3
    refine ⟨_, σ2, Runs.intro (fn := Try.f23) (by kernel_rfl) (by kernel_rfl) ⟨n2 + n3, fun k hk => ?_⟩, K2, I2⟩
    have eb := eb k (by omega)
    have r3 := r3 k (by omega)
    simp only at eb r3
    simp only [f23_eq]
    simp only [Option.bind_some, decide_eq_true_eq, decide_eq_false_iff_not, Bool.not_eq_true', Bool.not_true, Bool.not_false, Bool.false_eq_true, Bool.true_eq_false, Bool.not_eq_eq_eq_not, beq_self_eq_true, beqFT, beqTF, decide_true, decide_false, not_false_eq_true, not_true_eq_false, ne_eq, true_and, and_true, false_and, and_false, and_self, if_true, if_false, ite_true, ite_false, Bool.and_true, Bool.and_false, Bool.true_and, Bool.false_and, Bool.or_true, Bool.true_or, Bool.or_false, Bool.false_or, or_true, true_or, or_false, false_or, or_self, AV.asInt, AV.asBool, AV.asSl, AV.asPtr, AV.asFn, AV.asStr, AV.asMap, AV.asIfc, AV.item, List.length_cons, List.length_nil, List.getElem?_cons_zero, List.getElem?_cons_succ, Nat.zero_add, lb, b1, b2, Int.le_refl, Int.toNat_natCast, mkCells_int, ← h1, ws, eb]
    rw [f23_X1111010_1]
    simp only [Option.bind_some, decide_eq_true_eq, decide_eq_false_iff_not, Bool.not_eq_true', Bool.not_true, Bool.not_false, Bool.false_eq_true, Bool.true_eq_false, Bool.not_eq_eq_eq_not, beq_self_eq_true, beqFT, beqTF, decide_true, decide_false, not_false_eq_true, not_true_eq_false, ne_eq, true_and, and_true, false_and, and_false, and_self, if_true, if_false, ite_true, ite_false, Bool.and_true, Bool.and_false, Bool.true_and, Bool.false_and, Bool.or_true, Bool.true_or, Bool.or_false, Bool.false_or, or_true, true_or, or_false, false_or, or_self, AV.asInt, AV.asBool, AV.asSl, AV.asPtr, AV.asFn, AV.asStr, AV.asMap, AV.asIfc, AV.item, List.length_cons, List.length_nil, List.getElem?_cons_zero, List.getElem?_cons_succ, Nat.zero_add, r3]
  | true =>
    rw [he] at r3
    obtain ⟨σ4, ⟨n4, r4⟩, K4⟩ := is_run I2 (Store.Sl.kp hB K2) hp2 (by omega) (by omega) w0 (by omega)
    refine ⟨_, σ4, Runs.intro (fn := Try.f23) (by kernel_rfl) (by kernel_rfl) ⟨n2 + n3 + n4, fun k hk => ?_⟩, K2.all K4, Store.Sl.kp I2 K4⟩
    have eb := eb k (by omega)
    have r3 := r3 k (by omega)
    have r4 := r4 k (by omega)
    simp only at eb r3 r4
    simp only [f23_eq]
    simp only [Option.bind_some, decide_eq_true_eq, decide_eq_false_iff_not, Bool.not_eq_true', Bool.not_true, Bool.not_false, Bool.false_eq_true, Bool.true_eq_false, Bool.not_eq_eq_eq_not, beq_self_eq_true, beqFT, beqTF, decide_true, decide_false, not_false_eq_true, not_true_eq_false, ne_eq, true_and, and_true, false_and, and_false, and_self, if_true, if_false, ite_true, ite_false, Bool.and_true, Bool.and_false, Bool.true_and, Bool.false_and, Bool.or_true, Bool.true_or, Bool.or_false, Bool.false_or, or_true, true_or, or_false, false_or, or_self, AV.asInt, AV.asBool, AV.asSl, AV.asPtr, AV.asFn, AV.asStr, AV.asMap, AV.asIfc, AV.item, List.length_cons, List.length_nil, List.getElem?_cons_zero, List.getElem?_cons_succ, Nat.zero_add, lb, b1, b2, Int.le_refl, Int.toNat_natCast, mkCells_int, ← h1, ws, eb]
    rw [f23_X1111010_1]
    simp only [Option.bind_some, decide_eq_true_eq, decide_eq_false_iff_not, Bool.not_eq_true', Bool.not_true, Bool.not_false, Bool.false_eq_true, Bool.true_eq_false, Bool.not_eq_eq_eq_not, beq_self_eq_true, beqFT, beqTF, decide_true, decide_false, not_false_eq_true, not_true_eq_false, ne_eq, true_and, and_true, false_and, and_false, and_self, if_true, if_false, ite_true, ite_false, Bool.and_true, Bool.and_false, Bool.true_and, Bool.false_and, Bool.or_true, Bool.true_or, Bool.or_false, Bool.false_or, or_true, true_or, or_false, false_or, or_self, AV.asInt, AV.asBool, AV.asSl, AV.asPtr, AV.asFn, AV.asStr, AV.asMap, AV.asIfc, AV.item, List.length_cons, List.length_nil, List.getElem?_cons_zero, List.getElem?_cons_succ, Nat.zero_add, r3, r4]
/-- Both find the same rows to be turned rows. -/
theorem backOk_eq {b : List Int} {w : Int} (h0 : 0 < b.length) : backOk b w = (endsL (backOf b w) && isB (backOf b w) b w) := by
  have lb := backOf_length b w
  cases hB : isB (backOf b w) b w with
  | false => simp [backOk, hB]
  | true =>
    have h1 : bwtOf (backOf b w) (saOf (backOf b w)) = b := by
      simp only [isB, Bool.and_eq_true, decide_eq_true_eq] at hB; exact hB.1
    have hperm : b.Perm (backOf b w) := by
      have := bwtOf_perm (t := backOf b w) (saOf_spec (backOf b w)).perm
      rwa [h1] at this
    obtain ⟨m1, m2⟩ := minL_spec h0
    generalize ht : backOf b w = t at *
    rw [Bool.eq_iff_iff]
    simp only [backOk, ht, hB, Bool.and_true, Bool.and_eq_true, decide_eq_true_eq, Bool.not_eq_true', decide_eq_false_iff_not]
    rw [endsL_iff]
    constructor
    · rintro ⟨q1, q2⟩
      refine ⟨by omega, fun i i0 i1 => ?_⟩
      rw [lb, q1]
      have hm := m2 (rd t i) (hperm.mem_iff.2 (rd_mem i0 (by omega)))
      have : rd t i ≠ minL b := fun e => q2 (by
        rw [← e]
        obtain ⟨i, rfl⟩ := Int.eq_ofNat_of_zero_le i0
        rw [rd_getElem (by omega), List.mem_take_iff_getElem]
        exact ⟨i, by omega, rfl⟩)
      omega
    · rintro ⟨_, q⟩
      rw [lb] at q
      have e : rd t (b.length - 1) = minL b := by
        have h1 := m2 _ (hperm.mem_iff.2 (rd_mem (l := t) (i := (b.length : Int) - 1) (by omega) (by omega)))
        obtain ⟨i, i0, i1, ei⟩ := mem_rd (hperm.mem_iff.1 m1)
        by_cases c : i + 1 < b.length
        · have := q i i0 c; omega
        · have : i = (b.length : Int) - 1 := by omega
          rw [this] at ei; exact ei
      refine ⟨e, fun hm => ?_⟩
      obtain ⟨i, hi, ei⟩ := List.mem_take_iff_getElem.1 hm
      have := q i (by omega) (by omega)
      rw [rd_getElem (by omega), ei, e] at this
      omega
end Go.Ab

/- The laws BwtMakes, BwtBack, BwtCounts. -/
namespace Go.Ab
open Go Go.Proofs Go.Ab.Wd Go.Ab.Bs Go.Ab.Sai
set_option linter.unusedVariables false
set_option linter.unusedSimpArgs false
theorem mx2_lt {a b c : Int} : c < mx2 a b ↔ c < a ∨ c < b := by unfold mx2; split <;> omega
theorem le_mx2 {a b c : Int} : mx2 a b ≤ c ↔ a ≤ c ∧ b ≤ c := by unfold mx2; split <;> omega
theorem wfb {x : Int} (h : IntKind.min .u8 ≤ x ∧ x ≤ IntKind.max .u8) : 0 ≤ x ∧ x ≤ 255 := by
  have e1 : IntKind.min .u8 = 0 := by decide
  have e2 : IntKind.max .u8 = 255 := by decide
  omega
theorem wfi {x : Int} (h : IntKind.min .i64 ≤ x ∧ x ≤ IntKind.max .i64) : -9223372036854775808 ≤ x ∧ x ≤ 9223372036854775807 := by
  have e1 : IntKind.min .i64 = -9223372036854775808 := by decide
  have e2 : IntKind.max .i64 = 9223372036854775807 := by decide
  omega
theorem law_BwtMakes {σ : Store} {h h' : Hdl} {t sa : List Int} (hT : σ.Ints h t) (hH : σ.Has h) (hn : t.length < 2 ^ 44) (hw : ∀ n ∈ t, IntKind.min .i64 ≤ n ∧ n ≤ IntKind.max .i64)
    (hS : σ.Ints h' sa) (hH' : σ.Has h') (hn' : sa.length < 2 ^ 44) (hw' : ∀ n ∈ sa, IntKind.min .i64 ≤ n ∧ n ≤ IntKind.max .i64) (hp : σ.prot ≤ σ.objs.length) :
    ∃ σ', Runs Try.prog 3 [.slice h, .slice h'] σ (.bool true) σ' := by
  have ll := hT.ilen
  have ls := hS.ilen
  obtain ⟨k0, r0⟩ := first11_told σ
  obtain ⟨ho, σ1, ⟨k1, r1⟩, K1, I1, H1⟩ := make_run hT hS hp (by omega) (by omega)
  obtain ⟨hu, σ2, ⟨k2, r2⟩, K2, I2, H2⟩ := turned_run (Store.Sl.kp hS K1) (by rw [K1.prot]; have := K1.len; omega) (by omega)
  have lo := I1.ilen
  by_cases c0 : (1000 : Int) < mx2 (Int.ofNat h.len) h'.len
  · refine ⟨σ, Runs.intro (fn := Try.f3) (by kernel_rfl) (by kernel_rfl) ⟨k0, fun k hk => ?_⟩⟩
    have r0 := r0 k (by omega)
    simp only at r0
    simp only [f3_eq]
    simp only [Option.bind_some, decide_eq_true_eq, decide_eq_false_iff_not, Bool.not_eq_true', Bool.not_true, Bool.not_false, Bool.false_eq_true, Bool.true_eq_false, Bool.not_eq_eq_eq_not, beq_self_eq_true, beqFT, beqTF, decide_true, decide_false, not_false_eq_true, not_true_eq_false, ne_eq, true_and, and_true, false_and, and_false, and_self, if_true, if_false, ite_true, ite_false, Bool.and_true, Bool.and_false, Bool.true_and, Bool.false_and, Bool.or_true, Bool.true_or, Bool.or_false, Bool.false_or, or_true, true_or, or_false, false_or, or_self, AV.asInt, AV.asBool, AV.asSl, AV.asPtr, AV.asFn, AV.asStr, AV.asMap, AV.asIfc, AV.item, List.length_cons, List.length_nil, List.getElem?_cons_zero, List.getElem?_cons_succ, Nat.zero_add, r0, c0]
  have c1 := c0
  rw [mx2_lt] at c1
  simp only [Int.ofNat_eq_natCast] at c1
  cases hb : permB sa with
  | false =>
    have e : ¬ ((false = true) ∧ sa.length = t.length) := by simp
    rw [hb] at r1 r2 I2 lo
    rw [if_neg e] at r1 lo
    refine ⟨σ2, Runs.intro (fn := Try.f3) (by kernel_rfl) (by kernel_rfl) ⟨k0 + k1 + k2, fun k hk => ?_⟩⟩
    have r0 := r0 k (by omega)
    have r1 := r1 k (by omega)
    have r2 := r2 k (by omega)
    simp only at r0 r1 r2
    have lz : (ho.len : Int) = 0 := by rw [lo]; rfl
    simp only [f3_eq]
    simp only [Option.bind_some, decide_eq_true_eq, decide_eq_false_iff_not, Bool.not_eq_true', Bool.not_true, Bool.not_false, Bool.false_eq_true, Bool.true_eq_false, Bool.not_eq_eq_eq_not, beq_self_eq_true, beqFT, beqTF, decide_true, decide_false, not_false_eq_true, not_true_eq_false, ne_eq, true_and, and_true, false_and, and_false, and_self, if_true, if_false, ite_true, ite_false, Bool.and_true, Bool.and_false, Bool.true_and, Bool.false_and, Bool.or_true, Bool.true_or, Bool.or_false, Bool.false_or, or_true, true_or, or_false, false_or, or_self, AV.asInt, AV.asBool, AV.asSl, AV.asPtr, AV.asFn, AV.asStr, AV.asMap, AV.asIfc, AV.item, List.length_cons, List.length_nil, List.getElem?_cons_zero, List.getElem?_cons_succ, Nat.zero_add, r0, c0, r1, r2, lz]
  | true =>
    rw [hb] at r2
    by_cases cl : sa.length = t.length
    · rw [if_pos ⟨hb, cl⟩] at r1 I1
      have hP := (permB_iff.1 hb)
      obtain ⟨hr, σ3, ⟨k3, r3⟩, K3, G3⟩ := refMake_run (Store.Sl.kp hT (K1.all K2)) (Store.Sl.kp hS (K1.all K2)) (by rw [(K1.all K2).prot]; have := (K1.all K2).len; omega) (by omega) (by omega) (fun p hp => by have := hP.rng p hp; omega)
      obtain ⟨k4, r4⟩ := same_self (Store.Sl.kp (Store.Sl.kp I1 K2) K3) G3.ints (by rw [bwtOf_length]; omega)
      have c2 : (h'.len : Int) = h.len := by omega
      rw [c2] at c0
      refine ⟨σ3, Runs.intro (fn := Try.f3) (by kernel_rfl) (by kernel_rfl) ⟨k0 + k1 + k2 + k3 + k4, fun k hk => ?_⟩⟩
      have r0 := r0 k (by omega)
      have r1 := r1 k (by omega)
      have r2 := r2 k (by omega)
      have r3 := r3 k (by omega)
      have r4 := r4 k (by omega)
      simp only at r0 r1 r2 r3 r4
      simp only [f3_eq]
      simp only [Option.bind_some, decide_eq_true_eq, decide_eq_false_iff_not, Bool.not_eq_true', Bool.not_true, Bool.not_false, Bool.false_eq_true, Bool.true_eq_false, Bool.not_eq_eq_eq_not, beq_self_eq_true, beqFT, beqTF, decide_true, decide_false, not_false_eq_true, not_true_eq_false, ne_eq, true_and, and_true, false_and, and_false, and_self, if_true, if_false, ite_true, ite_false, Bool.and_true, Bool.and_false, Bool.true_and, Bool.false_and, Bool.or_true, Bool.true_or, Bool.or_false, Bool.false_or, or_true, true_or, or_false, false_or, or_self, AV.asInt, AV.asBool, AV.asSl, AV.asPtr, AV.asFn, AV.asStr, AV.asMap, AV.asIfc, AV.item, List.length_cons, List.length_nil, List.getElem?_cons_zero, List.getElem?_cons_succ, Nat.zero_add, r0, c0, r1, r2, c2, r3, r4]
    · have e : ¬ (permB sa = true ∧ sa.length = t.length) := fun h => cl h.2
      rw [if_neg e] at r1 lo
      have c2 : ¬ (h'.len : Int) = h.len := by omega
      refine ⟨σ2, Runs.intro (fn := Try.f3) (by kernel_rfl) (by kernel_rfl) ⟨k0 + k1 + k2, fun k hk => ?_⟩⟩
      have r0 := r0 k (by omega)
      have r1 := r1 k (by omega)
      have r2 := r2 k (by omega)
      simp only at r0 r1 r2
      have lz : (ho.len : Int) = 0 := by rw [lo]; rfl
      simp only [f3_eq]
      simp only [Option.bind_some, decide_eq_true_eq, decide_eq_false_iff_not, Bool.not_eq_true', Bool.not_true, Bool.not_false, Bool.false_eq_true, Bool.true_eq_false, Bool.not_eq_eq_eq_not, beq_self_eq_true, beqFT, beqTF, decide_true, decide_false, not_false_eq_true, not_true_eq_false, ne_eq, true_and, and_true, false_and, and_false, and_self, if_true, if_false, ite_true, ite_false, Bool.and_true, Bool.and_false, Bool.true_and, Bool.false_and, Bool.or_true, Bool.true_or, Bool.or_false, Bool.false_or, or_true, true_or, or_false, false_or, or_self, AV.asInt, AV.asBool, AV.asSl, AV.asPtr, AV.asFn, AV.asStr, AV.asMap, AV.asIfc, AV.item, List.length_cons, List.length_nil, List.getElem?_cons_zero, List.getElem?_cons_succ, Nat.zero_add, r0, c0, r1, r2, c2, lz]
theorem okT_okC {t : List Int} {al : Int} (hn : t.length ≤ 4194304) : okT t al = okC t al := by
  rw [Bool.eq_iff_iff, okT_iff, okC_iff]; exact ⟨fun ⟨a, b, c, d⟩ => ⟨a, b, d⟩, fun ⟨a, b, d⟩ => ⟨a, b, hn, d⟩⟩
theorem law_BwtBack {σ : Store} {h : Hdl} {b : List Int} {w al : Int} (hT : σ.Ints h b) (hH : σ.Has h) (hn : b.length < 2 ^ 44) (hw : ∀ n ∈ b, IntKind.min .i64 ≤ n ∧ n ≤ IntKind.max .i64)
    (ha : IntKind.min .i64 ≤ w ∧ w ≤ IntKind.max .i64) (hal : IntKind.min .i64 ≤ al ∧ al ≤ IntKind.max .i64) (hp : σ.prot ≤ σ.objs.length) :
    ∃ σ', Runs Try.prog 5 [.slice h, .int .i64 w, .int .i64 al] σ (.bool true) σ' := by
  have ll := hT.ilen
  obtain ⟨k0, r0⟩ := first11_told σ
  by_cases c0 : (200 : Int) < h.len
  · refine ⟨σ, Runs.intro (fn := Try.f5) (by kernel_rfl) (by kernel_rfl) ⟨k0, fun k hk => ?_⟩⟩
    have r0 := r0 k (by omega)
    simp only at r0
    simp only [f5_eq]
    simp only [Option.bind_some, decide_eq_true_eq, decide_eq_false_iff_not, Bool.not_eq_true', Bool.not_true, Bool.not_false, Bool.false_eq_true, Bool.true_eq_false, Bool.not_eq_eq_eq_not, beq_self_eq_true, beqFT, beqTF, decide_true, decide_false, not_false_eq_true, not_true_eq_false, ne_eq, true_and, and_true, false_and, and_false, and_self, if_true, if_false, ite_true, ite_false, Bool.and_true, Bool.and_false, Bool.true_and, Bool.false_and, Bool.or_true, Bool.true_or, Bool.or_false, Bool.false_or, or_true, true_or, or_false, false_or, or_self, AV.asInt, AV.asBool, AV.asSl, AV.asPtr, AV.asFn, AV.asStr, AV.asMap, AV.asIfc, AV.item, List.length_cons, List.length_nil, List.getElem?_cons_zero, List.getElem?_cons_succ, Nat.zero_add, r0, c0]
  by_cases cc : (3000 : Int) < al ∧ al ≤ 4194304
  · obtain ⟨c1, c2⟩ := cc
    refine ⟨σ, Runs.intro (fn := Try.f5) (by kernel_rfl) (by kernel_rfl) ⟨k0, fun k hk => ?_⟩⟩
    have r0 := r0 k (by omega)
    simp only at r0
    simp only [f5_eq]
    simp only [Option.bind_some, decide_eq_true_eq, decide_eq_false_iff_not, Bool.not_eq_true', Bool.not_true, Bool.not_false, Bool.false_eq_true, Bool.true_eq_false, Bool.not_eq_eq_eq_not, beq_self_eq_true, beqFT, beqTF, decide_true, decide_false, not_false_eq_true, not_true_eq_false, ne_eq, true_and, and_true, false_and, and_false, and_self, if_true, if_false, ite_true, ite_false, Bool.and_true, Bool.and_false, Bool.true_and, Bool.false_and, Bool.or_true, Bool.true_or, Bool.or_false, Bool.false_or, or_true, true_or, or_false, false_or, or_self, AV.asInt, AV.asBool, AV.asSl, AV.asPtr, AV.asFn, AV.asStr, AV.asMap, AV.asIfc, AV.item, List.length_cons, List.length_nil, List.getElem?_cons_zero, List.getElem?_cons_succ, Nat.zero_add, r0, c0, c1, c2]
  have hcc : ¬ (3000 : Int) < al ∨ (3000 : Int) < al ∧ ¬ al ≤ 4194304 := by omega
  by_cases hok : okC b al = true ∧ 0 ≤ w ∧ w < max (b.length : Int) 1
  · obtain ⟨ok, w0, w1⟩ := hok
    have d1 : ¬ w < 0 := by omega
    have d2 : ¬ mx2 (Int.ofNat h.len) 1 ≤ w := by rw [le_mx2]; simp only [Int.ofNat_eq_natCast]; omega
    have hcc : ¬ (3000 : Int) < al := by
      have := (okC_iff.1 ok).2.1; omega
    by_cases ce : b = []
    · subst ce
      have hw0 : w = 0 := by simp at w1; omega
      subst hw0
      obtain ⟨σ1, ⟨k1, r1⟩, K1⟩ := back_empty hT hp ok
      obtain ⟨k2, r2⟩ := right_run (al := al) (Store.Sl.kp hT K1) (by simp)
      rw [okT_okC (by simp), ok] at r2
      refine ⟨σ1, Runs.intro (fn := Try.f5) (by kernel_rfl) (by kernel_rfl) ⟨k0 + k1 + k2, fun k hk => ?_⟩⟩
      have r0 := r0 k (by omega)
      have r1 := r1 k (by omega)
      have r2 := r2 k (by omega)
      simp only at r0 r1 r2
      have ll0 : (h.len : Int) = 0 := by simpa using ll
      have lz : (Hdl.nil.len : Int) = 0 := rfl
      rw [ll0] at c0
      simp only [f5_eq]
      simp only [Option.bind_some, decide_eq_true_eq, decide_eq_false_iff_not, Bool.not_eq_true', Bool.not_true, Bool.not_false, Bool.false_eq_true, Bool.true_eq_false, Bool.not_eq_eq_eq_not, beq_self_eq_true, beqFT, beqTF, decide_true, decide_false, not_false_eq_true, not_true_eq_false, ne_eq, true_and, and_true, false_and, and_false, and_self, if_true, if_false, ite_true, ite_false, Bool.and_true, Bool.and_false, Bool.true_and, Bool.false_and, Bool.or_true, Bool.true_or, Bool.or_false, Bool.false_or, or_true, true_or, or_false, false_or, or_self, AV.asInt, AV.asBool, AV.asSl, AV.asPtr, AV.asFn, AV.asStr, AV.asMap, AV.asIfc, AV.item, List.length_cons, List.length_nil, List.getElem?_cons_zero, List.getElem?_cons_succ, Nat.zero_add, r0, c0, hcc, r1, r2, d1, d2, ll0, lz]
    · have hl : 0 < b.length := List.length_pos_iff.2 ce
      have d3 : ¬ (h.len : Int) = 0 := by omega
      have w1 : w < b.length := by omega
      obtain ⟨ho, σ1, ⟨k1, r1⟩, K1, I1, H1⟩ := back_run hT hp (by omega) ok w0 w1
      have hT1 := Store.Sl.kp hT K1
      obtain ⟨k2, r2⟩ := right_run (al := al) hT1 (by omega)
      rw [okT_okC (by omega), ok] at r2
      obtain ⟨hr, σ2, ⟨k3, r3⟩, K2, I2⟩ := refBack_run hT1 (by rw [K1.prot]; have := K1.len; omega) (by omega) w0 w1
      rw [← backOk_eq hl] at r3
      have lo := I1.ilen
      cases hb : backOk b w with
      | false =>
        rw [hb] at r1 r3 lo
        refine ⟨σ2, Runs.intro (fn := Try.f5) (by kernel_rfl) (by kernel_rfl) ⟨k0 + k1 + k2 + k3, fun k hk => ?_⟩⟩
        have r0 := r0 k (by omega)
        have r1 := r1 k (by omega)
        have r2 := r2 k (by omega)
        have r3 := r3 k (by omega)
        simp only [Option.bind_some, decide_eq_true_eq, decide_eq_false_iff_not, Bool.not_eq_true', Bool.not_true, Bool.not_false, Bool.false_eq_true, Bool.true_eq_false, Bool.not_eq_eq_eq_not, beq_self_eq_true, beqFT, beqTF, decide_true, decide_false, not_false_eq_true, not_true_eq_false, ne_eq, true_and, and_true, false_and, and_false, and_self, if_true, if_false, ite_true, ite_false, Bool.and_true, Bool.and_false, Bool.true_and, Bool.false_and, Bool.or_true, Bool.true_or, Bool.or_false, Bool.false_or, or_true, true_or, or_false, false_or, or_self, AV.asInt, AV.asBool, AV.asSl, AV.asPtr, AV.asFn, AV.asStr, AV.asMap, AV.asIfc, AV.item, List.length_cons, List.length_nil, List.getElem?_cons_zero, List.getElem?_cons_succ, Nat.zero_add] at r0 r1 r2 r3 lo
        have lz : (ho.len : Int) = 0 := by rw [lo]; rfl
        simp only [f5_eq]
        simp only [Option.bind_some, decide_eq_true_eq, decide_eq_false_iff_not, Bool.not_eq_true', Bool.not_true, Bool.not_false, Bool.false_eq_true, Bool.true_eq_false, Bool.not_eq_eq_eq_not, beq_self_eq_true, beqFT, beqTF, decide_true, decide_false, not_false_eq_true, not_true_eq_false, ne_eq, true_and, and_true, false_and, and_false, and_self, if_true, if_false, ite_true, ite_false, Bool.and_true, Bool.and_false, Bool.true_and, Bool.false_and, Bool.or_true, Bool.true_or, Bool.or_false, Bool.false_or, or_true, true_or, or_false, false_or, or_self, AV.asInt, AV.asBool, AV.asSl, AV.asPtr, AV.asFn, AV.asStr, AV.asMap, AV.asIfc, AV.item, List.length_cons, List.length_nil, List.getElem?_cons_zero, List.getElem?_cons_succ, Nat.zero_add, r0, c0, hcc, r1, r2, d1, d2, d3, r3, lz]
      | true =>
        rw [hb] at r1 r3 I1
        rw [if_pos rfl] at I1
        obtain ⟨k4, r4⟩ := same_self (Store.Sl.kp I1 K2) I2 (by rw [backOf_length]; omega)
        refine ⟨σ2, Runs.intro (fn := Try.f5) (by kernel_rfl) (by kernel_rfl) ⟨k0 + k1 + k2 + k3 + k4, fun k hk => ?_⟩⟩
        have r0 := r0 k (by omega)
        have r1 := r1 k (by omega)
        have r2 := r2 k (by omega)
        have r3 := r3 k (by omega)
        have r4 := r4 k (by omega)
        simp only [Option.bind_some, decide_eq_true_eq, decide_eq_false_iff_not, Bool.not_eq_true', Bool.not_true, Bool.not_false, Bool.false_eq_true, Bool.true_eq_false, Bool.not_eq_eq_eq_not, beq_self_eq_true, beqFT, beqTF, decide_true, decide_false, not_false_eq_true, not_true_eq_false, ne_eq, true_and, and_true, false_and, and_false, and_self, if_true, if_false, ite_true, ite_false, Bool.and_true, Bool.and_false, Bool.true_and, Bool.false_and, Bool.or_true, Bool.true_or, Bool.or_false, Bool.false_or, or_true, true_or, or_false, false_or, or_self, AV.asInt, AV.asBool, AV.asSl, AV.asPtr, AV.asFn, AV.asStr, AV.asMap, AV.asIfc, AV.item, List.length_cons, List.length_nil, List.getElem?_cons_zero, List.getElem?_cons_succ, Nat.zero_add] at r0 r1 r2 r3 r4
        simp only [f5_eq]
        simp only [Option.bind_some, decide_eq_true_eq, decide_eq_false_iff_not, Bool.not_eq_true', Bool.not_true, Bool.not_false, Bool.false_eq_true, Bool.true_eq_false, Bool.not_eq_eq_eq_not, beq_self_eq_true, beqFT, beqTF, decide_true, decide_false, not_false_eq_true, not_true_eq_false, ne_eq, true_and, and_true, false_and, and_false, and_self, if_true, if_false, ite_true, ite_false, Bool.and_true, Bool.and_false, Bool.true_and, Bool.false_and, Bool.or_true, Bool.true_or, Bool.or_false, Bool.false_or, or_true, true_or, or_false, false_or, or_self, AV.asInt, AV.asBool, AV.asSl, AV.asPtr, AV.asFn, AV.asStr, AV.asMap, AV.asIfc, AV.item, List.length_cons, List.length_nil, List.getElem?_cons_zero, List.getElem?_cons_succ, Nat.zero_add, r0, c0, hcc, r1, r2, d1, d2, d3, r3, r4]
  · obtain ⟨σ1, ⟨k1, r1⟩, K1⟩ := back_refuse hT hp (by omega) hok
    have hT1 := Store.Sl.kp hT K1
    obtain ⟨k2, r2⟩ := right_run (al := al) hT1 (by omega)
    rw [okT_okC (by omega)] at r2
    refine ⟨σ1, Runs.intro (fn := Try.f5) (by kernel_rfl) (by kernel_rfl) ⟨k0 + k1 + k2, fun k hk => ?_⟩⟩
    have r0 := r0 k (by omega)
    have r1 := r1 k (by omega)
    have r2 := r2 k (by omega)
    simp only at r0 r1 r2
    have lz : (Hdl.nil.len : Int) = 0 := rfl
    simp only [f5_eq]
    cases ok : okC b al with
    | false =>
      rw [ok] at r2
      rcases hcc with c1 | ⟨c1, c2⟩
      · simp only [Option.bind_some, decide_eq_true_eq, decide_eq_false_iff_not, Bool.not_eq_true', Bool.not_true, Bool.not_false, Bool.false_eq_true, Bool.true_eq_false, Bool.not_eq_eq_eq_not, beq_self_eq_true, beqFT, beqTF, decide_true, decide_false, not_false_eq_true, not_true_eq_false, ne_eq, true_and, and_true, false_and, and_false, and_self, if_true, if_false, ite_true, ite_false, Bool.and_true, Bool.and_false, Bool.true_and, Bool.false_and, Bool.or_true, Bool.true_or, Bool.or_false, Bool.false_or, or_true, true_or, or_false, false_or, or_self, AV.asInt, AV.asBool, AV.asSl, AV.asPtr, AV.asFn, AV.asStr, AV.asMap, AV.asIfc, AV.item, List.length_cons, List.length_nil, List.getElem?_cons_zero, List.getElem?_cons_succ, Nat.zero_add, r0, c0, c1, r1, r2, lz]
      · simp only [Option.bind_some, decide_eq_true_eq, decide_eq_false_iff_not, Bool.not_eq_true', Bool.not_true, Bool.not_false, Bool.false_eq_true, Bool.true_eq_false, Bool.not_eq_eq_eq_not, beq_self_eq_true, beqFT, beqTF, decide_true, decide_false, not_false_eq_true, not_true_eq_false, ne_eq, true_and, and_true, false_and, and_false, and_self, if_true, if_false, ite_true, ite_false, Bool.and_true, Bool.and_false, Bool.true_and, Bool.false_and, Bool.or_true, Bool.true_or, Bool.or_false, Bool.false_or, or_true, true_or, or_false, false_or, or_self, AV.asInt, AV.asBool, AV.asSl, AV.asPtr, AV.asFn, AV.asStr, AV.asMap, AV.asIfc, AV.item, List.length_cons, List.length_nil, List.getElem?_cons_zero, List.getElem?_cons_succ, Nat.zero_add, r0, c0, c1, c2, r1, r2, lz]
    | true =>
      rw [ok] at r2
      have d12 : w < 0 ∨ ¬ w < 0 ∧ mx2 (Int.ofNat h.len) 1 ≤ w := by
        by_cases d : w < 0
        · exact .inl d
        · refine .inr ⟨d, ?_⟩
          rw [le_mx2]; simp only [Int.ofNat_eq_natCast]
          have : ¬ w < max (b.length : Int) 1 := fun hh => hok ⟨ok, by omega, hh⟩
          omega
      rcases hcc with c1 | ⟨c1, c2⟩ <;> rcases d12 with d | ⟨d, d'⟩
      · simp only [Option.bind_some, decide_eq_true_eq, decide_eq_false_iff_not, Bool.not_eq_true', Bool.not_true, Bool.not_false, Bool.false_eq_true, Bool.true_eq_false, Bool.not_eq_eq_eq_not, beq_self_eq_true, beqFT, beqTF, decide_true, decide_false, not_false_eq_true, not_true_eq_false, ne_eq, true_and, and_true, false_and, and_false, and_self, if_true, if_false, ite_true, ite_false, Bool.and_true, Bool.and_false, Bool.true_and, Bool.false_and, Bool.or_true, Bool.true_or, Bool.or_false, Bool.false_or, or_true, true_or, or_false, false_or, or_self, AV.asInt, AV.asBool, AV.asSl, AV.asPtr, AV.asFn, AV.asStr, AV.asMap, AV.asIfc, AV.item, List.length_cons, List.length_nil, List.getElem?_cons_zero, List.getElem?_cons_succ, Nat.zero_add, r0, c0, c1, r1, r2, d, lz]
      · simp only [Option.bind_some, decide_eq_true_eq, decide_eq_false_iff_not, Bool.not_eq_true', Bool.not_true, Bool.not_false, Bool.false_eq_true, Bool.true_eq_false, Bool.not_eq_eq_eq_not, beq_self_eq_true, beqFT, beqTF, decide_true, decide_false, not_false_eq_true, not_true_eq_false, ne_eq, true_and, and_true, false_and, and_false, and_self, if_true, if_false, ite_true, ite_false, Bool.and_true, Bool.and_false, Bool.true_and, Bool.false_and, Bool.or_true, Bool.true_or, Bool.or_false, Bool.false_or, or_true, true_or, or_false, false_or, or_self, AV.asInt, AV.asBool, AV.asSl, AV.asPtr, AV.asFn, AV.asStr, AV.asMap, AV.asIfc, AV.item, List.length_cons, List.length_nil, List.getElem?_cons_zero, List.getElem?_cons_succ, Nat.zero_add, r0, c0, c1, r1, r2, d, d', lz]
      · simp only [Option.bind_some, decide_eq_true_eq, decide_eq_false_iff_not, Bool.not_eq_true', Bool.not_true, Bool.not_false, Bool.false_eq_true, Bool.true_eq_false, Bool.not_eq_eq_eq_not, beq_self_eq_true, beqFT, beqTF, decide_true, decide_false, not_false_eq_true, not_true_eq_false, ne_eq, true_and, and_true, false_and, and_false, and_self, if_true, if_false, ite_true, ite_false, Bool.and_true, Bool.and_false, Bool.true_and, Bool.false_and, Bool.or_true, Bool.true_or, Bool.or_false, Bool.false_or, or_true, true_or, or_false, false_or, or_self, AV.asInt, AV.asBool, AV.asSl, AV.asPtr, AV.asFn, AV.asStr, AV.asMap, AV.asIfc, AV.item, List.length_cons, List.length_nil, List.getElem?_cons_zero, List.getElem?_cons_succ, Nat.zero_add, r0, c0, c1, c2, r1, r2, d, lz]
      · simp only [Option.bind_some, decide_eq_true_eq, decide_eq_false_iff_not, Bool.not_eq_true', Bool.not_true, Bool.not_false, Bool.false_eq_true, Bool.true_eq_false, Bool.not_eq_eq_eq_not, beq_self_eq_true, beqFT, beqTF, decide_true, decide_false, not_false_eq_true, not_true_eq_false, ne_eq, true_and, and_true, false_and, and_false, and_self, if_true, if_false, ite_true, ite_false, Bool.and_true, Bool.and_false, Bool.true_and, Bool.false_and, Bool.or_true, Bool.true_or, Bool.or_false, Bool.false_or, or_true, true_or, or_false, false_or, or_self, AV.asInt, AV.asBool, AV.asSl, AV.asPtr, AV.asFn, AV.asStr, AV.asMap, AV.asIfc, AV.item, List.length_cons, List.length_nil, List.getElem?_cons_zero, List.getElem?_cons_succ, Nat.zero_add, r0, c0, c1, c2, r1, r2, d, d', lz]
/-- The law's count. -/
theorem bcounts_inner {σ : Store} {h hs : Hdl} {b : List Int} {a e v : Int} (hB : σ.Ints h b) (hn : b.length < 2 ^ 61) :
    EvI (fun k s => stepF Try.prog (gm Try.prog k) drawn k Try.f4 [1, 1, 1, 1, 1, 1, 0, 1, 0, 0, 1, 1, 0, 0, 1, 1, 0, 1, 0] [57, 56, 55, 52, 51, 8, 7, 5, 0] s)
      ([.int .i64 0, .int .i64 b.length, .slice h, .int .i64 a, .int .i64 e, .int .i64 0, .int .i64 v, .slice hs, .slice h], σ)
      (AX.exit 2, [(52, .int .i64 a), (51, .int .i64 e), (8, .int .i64 (below b v)), (7, .int .i64 v), (5, .slice hs), (0, .slice h)], σ) := by
  have lb := hB.ilen
  obtain ⟨r, e, rfl⟩ := EvI.up (f := fun k s => stepF Try.prog (gm Try.prog k) drawn k Try.f4 [1, 1, 1, 1, 1, 1, 0, 1, 0, 0, 1, 1, 0, 0, 1, 1, 0, 1, 0] [57, 56, 55, 52, 51, 8, 7, 5, 0] s) b.length
    (fun j s => s = ([.int .i64 j, .int .i64 b.length, .slice h, .int .i64 a, .int .i64 e, .int .i64 (Bs.cnt (fun x => decide (x < v)) (b.take j) : Nat), .int .i64 v, .slice hs, .slice h], σ))
    (fun r => r = (AX.exit 2, [(52, .int .i64 a), (51, .int .i64 e), (8, .int .i64 (below b v)), (7, .int .i64 v), (5, .slice hs), (0, .slice h)], σ))
    (by
      rintro j s hj rfl
      have j0 : (0 : Int) ≤ j := by omega
      have j1 : (j : Int) < b.length := by omega
      have w := wsucc hj (by omega)
      have rj := hB.rd j0 j1
      have cl2 := cnt_le (fun x => decide (x < v)) (b.take j)
      rw [List.length_take] at cl2
      have w2 : IntKind.wrap .i64 ((Bs.cnt (fun x => decide (x < v)) (b.take j) : Nat) + 1) = ((Bs.cnt (fun x => decide (x < v)) (b.take j) + 1 : Nat) : Int) := by rw [wrap64 (by omega) (by omega)]; omega
      have s2 := cnt_take_succ (fun x => decide (x < v)) hj
      refine ⟨_, Ev.of fun k => ?_, rfl⟩
      simp only [f4_L1111110100110011010]
      by_cases c1 : rd b j < v
      · rw [if_pos (by simpa using c1)] at s2
        simp only [Option.bind_some, decide_eq_true_eq, decide_eq_false_iff_not, Bool.not_eq_true', Bool.not_true, Bool.not_false, Bool.false_eq_true, Bool.true_eq_false, Bool.not_eq_eq_eq_not, beq_self_eq_true, beqFT, beqTF, decide_true, decide_false, not_false_eq_true, not_true_eq_false, ne_eq, true_and, and_true, false_and, and_false, and_self, if_true, if_false, ite_true, ite_false, Bool.and_true, Bool.and_false, Bool.true_and, Bool.false_and, Bool.or_true, Bool.true_or, Bool.or_false, Bool.false_or, or_true, true_or, or_false, false_or, or_self, AV.asInt, AV.asBool, AV.asSl, AV.asPtr, AV.asFn, AV.asStr, AV.asMap, AV.asIfc, AV.item, List.length_cons, List.length_nil, List.getElem?_cons_zero, List.getElem?_cons_succ, Nat.zero_add, lb, j0, j1, rj, c1, w, w2, s2]
      · rw [if_neg (by simpa using c1)] at s2
        simp only [Option.bind_some, decide_eq_true_eq, decide_eq_false_iff_not, Bool.not_eq_true', Bool.not_true, Bool.not_false, Bool.false_eq_true, Bool.true_eq_false, Bool.not_eq_eq_eq_not, beq_self_eq_true, beqFT, beqTF, decide_true, decide_false, not_false_eq_true, not_true_eq_false, ne_eq, true_and, and_true, false_and, and_false, and_self, if_true, if_false, ite_true, ite_false, Bool.and_true, Bool.and_false, Bool.true_and, Bool.false_and, Bool.or_true, Bool.true_or, Bool.or_false, Bool.false_or, or_true, true_or, or_false, false_or, or_self, AV.asInt, AV.asBool, AV.asSl, AV.asPtr, AV.asFn, AV.asStr, AV.asMap, AV.asIfc, AV.item, List.length_cons, List.length_nil, List.getElem?_cons_zero, List.getElem?_cons_succ, Nat.zero_add, lb, j0, j1, rj, c1, w, s2, Nat.add_zero])
    (by
      rintro s rfl
      refine ⟨_, Ev.of fun k => ?_, rfl⟩
      simp only [f4_L1111110100110011010]
      rw [List.take_length]
      simp only [Option.bind_some, decide_eq_true_eq, decide_eq_false_iff_not, Bool.not_eq_true', Bool.not_true, Bool.not_false, Bool.false_eq_true, Bool.true_eq_false, Bool.not_eq_eq_eq_not, beq_self_eq_true, beqFT, beqTF, decide_true, decide_false, not_false_eq_true, not_true_eq_false, ne_eq, true_and, and_true, false_and, and_false, and_self, if_true, if_false, ite_true, ite_false, Bool.and_true, Bool.and_false, Bool.true_and, Bool.false_and, Bool.or_true, Bool.true_or, Bool.or_false, Bool.false_or, or_true, true_or, or_false, false_or, or_self, AV.asInt, AV.asBool, AV.asSl, AV.asPtr, AV.asFn, AV.asStr, AV.asMap, AV.asIfc, AV.item, List.length_cons, List.length_nil, List.getElem?_cons_zero, List.getElem?_cons_succ, Nat.zero_add, Int.lt_irrefl, below])
    (s := ([.int .i64 0, .int .i64 b.length, .slice h, .int .i64 a, .int .i64 e, .int .i64 0, .int .i64 v, .slice hs, .slice h], σ)) (by simp [Bs.cnt])
  exact e
theorem law_BwtCounts {σ : Store} {h : Hdl} {b : List Int} {al : Int} (hT : σ.Ints h b) (hH : σ.Has h) (hn : b.length < 2 ^ 44) (hw : ∀ n ∈ b, IntKind.min .i64 ≤ n ∧ n ≤ IntKind.max .i64)
    (hal : IntKind.min .i64 ≤ al ∧ al ≤ IntKind.max .i64) (hp : σ.prot ≤ σ.objs.length) :
    ∃ σ', Runs Try.prog 4 [.slice h, .int .i64 al] σ (.bool true) σ' := by
  have ll := hT.ilen
  obtain ⟨k0, r0⟩ := first11_told σ
  by_cases c0 : (500 : Int) < h.len
  · refine ⟨σ, Runs.intro (fn := Try.f4) (by kernel_rfl) (by kernel_rfl) ⟨k0, fun k hk => ?_⟩⟩
    have r0 := r0 k (by omega)
    simp only at r0
    simp only [f4_eq]
    simp only [Option.bind_some, decide_eq_true_eq, decide_eq_false_iff_not, Bool.not_eq_true', Bool.not_true, Bool.not_false, Bool.false_eq_true, Bool.true_eq_false, Bool.not_eq_eq_eq_not, beq_self_eq_true, beqFT, beqTF, decide_true, decide_false, not_false_eq_true, not_true_eq_false, ne_eq, true_and, and_true, false_and, and_false, and_self, if_true, if_false, ite_true, ite_false, Bool.and_true, Bool.and_false, Bool.true_and, Bool.false_and, Bool.or_true, Bool.true_or, Bool.or_false, Bool.false_or, or_true, true_or, or_false, false_or, or_self, AV.asInt, AV.asBool, AV.asSl, AV.asPtr, AV.asFn, AV.asStr, AV.asMap, AV.asIfc, AV.item, List.length_cons, List.length_nil, List.getElem?_cons_zero, List.getElem?_cons_succ, Nat.zero_add, r0, c0]
  by_cases cc : (3000 : Int) < al ∧ al ≤ 4194304
  · obtain ⟨c1, c2⟩ := cc
    refine ⟨σ, Runs.intro (fn := Try.f4) (by kernel_rfl) (by kernel_rfl) ⟨k0, fun k hk => ?_⟩⟩
    have r0 := r0 k (by omega)
    simp only at r0
    simp only [f4_eq]
    simp only [Option.bind_some, decide_eq_true_eq, decide_eq_false_iff_not, Bool.not_eq_true', Bool.not_true, Bool.not_false, Bool.false_eq_true, Bool.true_eq_false, Bool.not_eq_eq_eq_not, beq_self_eq_true, beqFT, beqTF, decide_true, decide_false, not_false_eq_true, not_true_eq_false, ne_eq, true_and, and_true, false_and, and_false, and_self, if_true, if_false, ite_true, ite_false, Bool.and_true, Bool.and_false, Bool.true_and, Bool.false_and, Bool.or_true, Bool.true_or, Bool.or_false, Bool.false_or, or_true, true_or, or_false, false_or, or_self, AV.asInt, AV.asBool, AV.asSl, AV.asPtr, AV.asFn, AV.asStr, AV.asMap, AV.asIfc, AV.item, List.length_cons, List.length_nil, List.getElem?_cons_zero, List.getElem?_cons_succ, Nat.zero_add, r0, c0, c1, c2]
  have hcc : ¬ (3000 : Int) < al ∨ (3000 : Int) < al ∧ ¬ al ≤ 4194304 := by omega
  obtain ⟨ho, σ1, ⟨k1, r1⟩, K1, I1, H1, _⟩ := counts_run (al := al) hT hp (by omega)
  have hT1 := Store.Sl.kp hT K1
  obtain ⟨k2, r2⟩ := right_run (al := al) hT1 (by omega)
  rw [okT_okC (by omega)] at r2
  cases ok : okC b al with
  | false =>
    rw [ok] at r1 r2 I1
    have lo := I1.ilen
    refine ⟨σ1, Runs.intro (fn := Try.f4) (by kernel_rfl) (by kernel_rfl) ⟨k0 + k1 + k2, fun k hk => ?_⟩⟩
    have r0 := r0 k (by omega)
    have r1 := r1 k (by omega)
    have r2 := r2 k (by omega)
    simp only [Option.bind_some, decide_eq_true_eq, decide_eq_false_iff_not, Bool.not_eq_true', Bool.not_true, Bool.not_false, Bool.false_eq_true, Bool.true_eq_false, Bool.not_eq_eq_eq_not, beq_self_eq_true, beqFT, beqTF, decide_true, decide_false, not_false_eq_true, not_true_eq_false, ne_eq, true_and, and_true, false_and, and_false, and_self, if_true, if_false, ite_true, ite_false, Bool.and_true, Bool.and_false, Bool.true_and, Bool.false_and, Bool.or_true, Bool.true_or, Bool.or_false, Bool.false_or, or_true, true_or, or_false, false_or, or_self, AV.asInt, AV.asBool, AV.asSl, AV.asPtr, AV.asFn, AV.asStr, AV.asMap, AV.asIfc, AV.item, List.length_cons, List.length_nil, List.getElem?_cons_zero, List.getElem?_cons_succ, Nat.zero_add] at r0 r1 r2 lo
    have lz : (ho.len : Int) = 0 := by rw [lo]; rfl
    simp only [f4_eq]
    rcases hcc with c1 | ⟨c1, c2⟩
    · simp only [Option.bind_some, decide_eq_true_eq, decide_eq_false_iff_not, Bool.not_eq_true', Bool.not_true, Bool.not_false, Bool.false_eq_true, Bool.true_eq_false, Bool.not_eq_eq_eq_not, beq_self_eq_true, beqFT, beqTF, decide_true, decide_false, not_false_eq_true, not_true_eq_false, ne_eq, true_and, and_true, false_and, and_false, and_self, if_true, if_false, ite_true, ite_false, Bool.and_true, Bool.and_false, Bool.true_and, Bool.false_and, Bool.or_true, Bool.true_or, Bool.or_false, Bool.false_or, or_true, true_or, or_false, false_or, or_self, AV.asInt, AV.asBool, AV.asSl, AV.asPtr, AV.asFn, AV.asStr, AV.asMap, AV.asIfc, AV.item, List.length_cons, List.length_nil, List.getElem?_cons_zero, List.getElem?_cons_succ, Nat.zero_add, r0, c0, c1, r1, r2, lz]
    · simp only [Option.bind_some, decide_eq_true_eq, decide_eq_false_iff_not, Bool.not_eq_true', Bool.not_true, Bool.not_false, Bool.false_eq_true, Bool.true_eq_false, Bool.not_eq_eq_eq_not, beq_self_eq_true, beqFT, beqTF, decide_true, decide_false, not_false_eq_true, not_true_eq_false, ne_eq, true_and, and_true, false_and, and_false, and_self, if_true, if_false, ite_true, ite_false, Bool.and_true, Bool.and_false, Bool.true_and, Bool.false_and, Bool.or_true, Bool.true_or, Bool.or_false, Bool.false_or, or_true, true_or, or_false, false_or, or_self, AV.asInt, AV.asBool, AV.asSl, AV.asPtr, AV.asFn, AV.asStr, AV.asMap, AV.asIfc, AV.item, List.length_cons, List.length_nil, List.getElem?_cons_zero, List.getElem?_cons_succ, Nat.zero_add, r0, c0, c1, c2, r1, r2, lz]
  | true =>
    rw [ok] at r1 r2 I1
    rw [if_pos rfl] at I1
    obtain ⟨g1, g2, g3⟩ := okC_iff.1 ok
    have hcc : ¬ (3000 : Int) < al := by omega
    have lo := I1.ilen
    rw [belows_length] at lo
    have lo2 : (ho.len : Int) = IntKind.wrap .i64 (al + 1) := by rw [lo, wrap64 (by omega) (by omega)]; omega
    obtain ⟨r, e, rfl⟩ := EvI.up (f := fun k s => stepF Try.prog (gm Try.prog k) drawn k Try.f4 [1, 1, 1, 1, 1, 1, 0, 1, 0] [52, 51, 5, 0] s) (al.toNat + 1)
      (fun i s => s = ([.int .i64 i, .int .i64 (al.toNat + 1 : Nat), .slice ho, .slice h], σ1))
      (fun r => r = (AX.exit 0, [], σ1))
      (by
        rintro i s hi rfl
        have i0 : (0 : Int) ≤ i := by omega
        have i1 : (i : Int) < (al.toNat + 1 : Nat) := by omega
        have i2 : (i : Int) < ho.len := by omega
        have w := wsucc hi (by omega)
        have rx := I1.rd i0 (by rw [belows_length]; omega)
        rw [rd_belows i0 i1] at rx
        obtain ⟨n3, e3⟩ := loopF_ev (bcounts_inner (a := i) (e := (al.toNat + 1 : Nat)) (v := i) (hs := ho) hT1 (by omega))
        refine ⟨([.int .i64 (i + 1 : Nat), .int .i64 (al.toNat + 1 : Nat), .slice ho, .slice h], σ1), ⟨n3, fun k hk => ?_⟩, rfl⟩
        have e3 := e3 k hk
        simp only at e3
        simp only [f4_L111111010]
        simp only [Option.bind_some, decide_eq_true_eq, decide_eq_false_iff_not, Bool.not_eq_true', Bool.not_true, Bool.not_false, Bool.false_eq_true, Bool.true_eq_false, Bool.not_eq_eq_eq_not, beq_self_eq_true, beqFT, beqTF, decide_true, decide_false, not_false_eq_true, not_true_eq_false, ne_eq, true_and, and_true, false_and, and_false, and_self, if_true, if_false, ite_true, ite_false, Bool.and_true, Bool.and_false, Bool.true_and, Bool.false_and, Bool.or_true, Bool.true_or, Bool.or_false, Bool.false_or, or_true, true_or, or_false, false_or, or_self, AV.asInt, AV.asBool, AV.asSl, AV.asPtr, AV.asFn, AV.asStr, AV.asMap, AV.asIfc, AV.item, List.length_cons, List.length_nil, List.getElem?_cons_zero, List.getElem?_cons_succ, Nat.zero_add, ll, i1, e3]
        rw [f4_X1111110100110011010_1]
        simp only [Option.bind_some, decide_eq_true_eq, decide_eq_false_iff_not, Bool.not_eq_true', Bool.not_true, Bool.not_false, Bool.false_eq_true, Bool.true_eq_false, Bool.not_eq_eq_eq_not, beq_self_eq_true, beqFT, beqTF, decide_true, decide_false, not_false_eq_true, not_true_eq_false, ne_eq, true_and, and_true, false_and, and_false, and_self, if_true, if_false, ite_true, ite_false, Bool.and_true, Bool.and_false, Bool.true_and, Bool.false_and, Bool.or_true, Bool.true_or, Bool.or_false, Bool.false_or, or_true, true_or, or_false, false_or, or_self, AV.asInt, AV.asBool, AV.asSl, AV.asPtr, AV.asFn, AV.asStr, AV.asMap, AV.asIfc, AV.item, List.length_cons, List.length_nil, List.getElem?_cons_zero, List.getElem?_cons_succ, Nat.zero_add, i0, i2, rx, w])
      (by
        rintro s rfl
        exact ⟨_, Ev.of fun k => by simp only [f4_L111111010]; simp only [Option.bind_some, decide_eq_true_eq, decide_eq_false_iff_not, Bool.not_eq_true', Bool.not_true, Bool.not_false, Bool.false_eq_true, Bool.true_eq_false, Bool.not_eq_eq_eq_not, beq_self_eq_true, beqFT, beqTF, decide_true, decide_false, not_false_eq_true, not_true_eq_false, ne_eq, true_and, and_true, false_and, and_false, and_self, if_true, if_false, ite_true, ite_false, Bool.and_true, Bool.and_false, Bool.true_and, Bool.false_and, Bool.or_true, Bool.true_or, Bool.or_false, Bool.false_or, or_true, true_or, or_false, false_or, or_self, AV.asInt, AV.asBool, AV.asSl, AV.asPtr, AV.asFn, AV.asStr, AV.asMap, AV.asIfc, AV.item, List.length_cons, List.length_nil, List.getElem?_cons_zero, List.getElem?_cons_succ, Nat.zero_add, Int.lt_irrefl], rfl⟩)
      (s := ([.int .i64 0, .int .i64 (al.toNat + 1 : Nat), .slice ho, .slice h], σ1)) rfl
    obtain ⟨n3, e⟩ := loopF_ev e
    refine ⟨σ1, Runs.intro (fn := Try.f4) (by kernel_rfl) (by kernel_rfl) ⟨k0 + k1 + k2 + n3, fun k hk => ?_⟩⟩
    have r0 := r0 k (by omega)
    have r1 := r1 k (by omega)
    have r2 := r2 k (by omega)
    have e := e k (by omega)
    have lo3 : IntKind.wrap .i64 (al + 1) = (al.toNat + 1 : Nat) := by rw [← lo2, lo]
    simp only [Option.bind_some, decide_eq_true_eq, decide_eq_false_iff_not, Bool.not_eq_true', Bool.not_true, Bool.not_false, Bool.false_eq_true, Bool.true_eq_false, Bool.not_eq_eq_eq_not, beq_self_eq_true, beqFT, beqTF, decide_true, decide_false, not_false_eq_true, not_true_eq_false, ne_eq, true_and, and_true, false_and, and_false, and_self, if_true, if_false, ite_true, ite_false, Bool.and_true, Bool.and_false, Bool.true_and, Bool.false_and, Bool.or_true, Bool.true_or, Bool.or_false, Bool.false_or, or_true, true_or, or_false, false_or, or_self, AV.asInt, AV.asBool, AV.asSl, AV.asPtr, AV.asFn, AV.asStr, AV.asMap, AV.asIfc, AV.item, List.length_cons, List.length_nil, List.getElem?_cons_zero, List.getElem?_cons_succ, Nat.zero_add] at r0 r1 r2 e
    simp only [f4_eq]
    simp only [Option.bind_some, decide_eq_true_eq, decide_eq_false_iff_not, Bool.not_eq_true', Bool.not_true, Bool.not_false, Bool.false_eq_true, Bool.true_eq_false, Bool.not_eq_eq_eq_not, beq_self_eq_true, beqFT, beqTF, decide_true, decide_false, not_false_eq_true, not_true_eq_false, ne_eq, true_and, and_true, false_and, and_false, and_self, if_true, if_false, ite_true, ite_false, Bool.and_true, Bool.and_false, Bool.true_and, Bool.false_and, Bool.or_true, Bool.true_or, Bool.or_false, Bool.false_or, or_true, true_or, or_false, false_or, or_self, AV.asInt, AV.asBool, AV.asSl, AV.asPtr, AV.asFn, AV.asStr, AV.asMap, AV.asIfc, AV.item, List.length_cons, List.length_nil, List.getElem?_cons_zero, List.getElem?_cons_succ, Nat.zero_add, r0, c0, hcc, r1, r2, lo, lo3, e]
    rw [f4_X111111010_1]
end Go.Ab

/- The laws BwtTurns, BwtKeeps. -/
namespace Go.Ab
open Go Go.Proofs Go.Ab.Wd Go.Ab.Bs Go.Ab.Sai
set_option linter.unusedVariables false
set_option linter.unusedSimpArgs false
theorem wrapu (x : Int) : IntKind.wrap .u64 x = x % 18446744073709551616 := by
  unfold IntKind.wrap
  have e2 : (2 : Int) ^ IntKind.u64.bits = 18446744073709551616 := by decide
  simp [e2, IntKind.signed]
theorem at11_run {σ : Store} {h : Hdl} {l : List Int} (hl : σ.Ints h l) (hn : l.length < 2 ^ 62) (x : Int) : ∃ i : Int, Runs Try.prog 25 [.slice h, .int .i64 x] σ (.int .i64 i) σ ∧ (x ∈ l → i = (l.idxOf x : Nat)) ∧ (x ∉ l → i = -1) := by
  have ll := hl.ilen
  obtain ⟨r, e, q⟩ := EvI.upX (f := fun k s => stepF Try.prog (gm Try.prog k) drawn k Try.f25 [1, 0, 1, 0] [8, 7, 1, 0] s) l.length
    (fun i s => s = ([.int .i64 i, .int .i64 l.length, .int .i64 x, .slice h], σ) ∧ x ∉ l.take i)
    (fun r => (r = (AX.ret, [(4, .int .i64 (l.idxOf x : Nat))], σ) ∧ x ∈ l) ∨ (r = (AX.exit 0, [], σ) ∧ x ∉ l))
    (by
      rintro i s hi ⟨rfl, hq⟩
      have i0 : (0 : Int) ≤ i := by omega
      have i1 : (i : Int) < l.length := by omega
      have w := wsucc hi hn
      by_cases e : rd l i = x
      · have hx : l.idxOf x = i := by
          rw [← e] at hq ⊢
          have := idx0_at hi hq
          unfold idx0 at this; omega
        exact .inr ⟨(AX.ret, [(4, .int .i64 (l.idxOf x : Nat))], σ), Ev.of fun k => by simp only [f25_L1010]; simp only [Option.bind_some, decide_eq_true_eq, decide_eq_false_iff_not, Bool.not_eq_true', Bool.not_true, Bool.not_false, Bool.false_eq_true, Bool.true_eq_false, Bool.not_eq_eq_eq_not, beq_self_eq_true, beqFT, beqTF, decide_true, decide_false, not_false_eq_true, not_true_eq_false, ne_eq, true_and, and_true, false_and, and_false, and_self, if_true, if_false, ite_true, ite_false, Bool.and_true, Bool.and_false, Bool.true_and, Bool.false_and, Bool.or_true, Bool.true_or, Bool.or_false, Bool.false_or, or_true, true_or, or_false, false_or, or_self, AV.asInt, AV.asBool, AV.asSl, AV.asPtr, AV.asFn, AV.asStr, AV.asMap, AV.asIfc, AV.item, List.length_cons, List.length_nil, List.getElem?_cons_zero, List.getElem?_cons_succ, Nat.zero_add, ll, i0, i1, hl.rd i0 i1, e, hx], .inl ⟨rfl, e ▸ rd_mem i0 i1⟩⟩
      · refine .inl ⟨_, Ev.of fun k => by simp only [f25_L1010]; simp only [Option.bind_some, decide_eq_true_eq, decide_eq_false_iff_not, Bool.not_eq_true', Bool.not_true, Bool.not_false, Bool.false_eq_true, Bool.true_eq_false, Bool.not_eq_eq_eq_not, beq_self_eq_true, beqFT, beqTF, decide_true, decide_false, not_false_eq_true, not_true_eq_false, ne_eq, true_and, and_true, false_and, and_false, and_self, if_true, if_false, ite_true, ite_false, Bool.and_true, Bool.and_false, Bool.true_and, Bool.false_and, Bool.or_true, Bool.true_or, Bool.or_false, Bool.false_or, or_true, true_or, or_false, false_or, or_self, AV.asInt, AV.asBool, AV.asSl, AV.asPtr, AV.asFn, AV.asStr, AV.asMap, AV.asIfc, AV.item, List.length_cons, List.length_nil, List.getElem?_cons_zero, List.getElem?_cons_succ, Nat.zero_add, ll, i0, i1, hl.rd i0 i1, e, w], rfl, fun hx => ?_⟩
        rw [take_rd hi, List.mem_append] at hx
        rcases hx with hx | hx
        · exact hq hx
        · exact e (List.mem_singleton.1 hx).symm)
    (by
      rintro s ⟨rfl, hq⟩
      rw [List.take_of_length_le (Nat.le_refl _)] at hq
      exact ⟨(AX.exit 0, [], σ), Ev.of fun k => by simp only [f25_L1010]; simp only [Option.bind_some, decide_eq_true_eq, decide_eq_false_iff_not, Bool.not_eq_true', Bool.not_true, Bool.not_false, Bool.false_eq_true, Bool.true_eq_false, Bool.not_eq_eq_eq_not, beq_self_eq_true, beqFT, beqTF, decide_true, decide_false, not_false_eq_true, not_true_eq_false, ne_eq, true_and, and_true, false_and, and_false, and_self, if_true, if_false, ite_true, ite_false, Bool.and_true, Bool.and_false, Bool.true_and, Bool.false_and, Bool.or_true, Bool.true_or, Bool.or_false, Bool.false_or, or_true, true_or, or_false, false_or, or_self, AV.asInt, AV.asBool, AV.asSl, AV.asPtr, AV.asFn, AV.asStr, AV.asMap, AV.asIfc, AV.item, List.length_cons, List.length_nil, List.getElem?_cons_zero, List.getElem?_cons_succ, Nat.zero_add, Int.lt_irrefl], .inr ⟨rfl, hq⟩⟩)
    (Nat.zero_le _) (s := ([.int .i64 0, .int .i64 l.length, .int .i64 x, .slice h], σ)) ⟨rfl, by simp⟩
  rcases q with ⟨rfl, q⟩ | ⟨rfl, q⟩
  · refine ⟨_, Runs.intro (fn := Try.f25) (by kernel_rfl) (by kernel_rfl) ?_, fun _ => rfl, fun h => absurd q h⟩
    exact (Ev.bind (loopF_ev e) (Ev.of fun k => f25_X1010_1 (gm Try.prog k) k σ _)).congr fun k => by rw [f25_eq, ll]
  · refine ⟨_, Runs.intro (fn := Try.f25) (by kernel_rfl) (by kernel_rfl) ?_, fun h => absurd h q, fun _ => rfl⟩
    exact (Ev.bind (loopF_ev e) (Ev.of fun k => f25_X1010_2 (gm Try.prog k) k σ)).congr fun k => by rw [f25_eq, ll]
theorem law_BwtTurns {σ : Store} {h : Hdl} {few : List Int} {from_ : Int} (hT : Store.Nums .u8 σ h few) (hH : σ.Has h) (hn : few.length < 2 ^ 47) (hw : ∀ n ∈ few, IntKind.min .u8 ≤ n ∧ n ≤ IntKind.max .u8) (hf : IntKind.min .i64 ≤ from_ ∧ from_ ≤ IntKind.max .i64) (hp : σ.prot ≤ σ.objs.length) :
    ∃ σ', Runs Try.prog 6 [.slice h, .int .i64 from_] σ (.bool true) σ' := by
  have ll := nums_len hT
  obtain ⟨k0, r0⟩ := first11_told σ
  obtain ⟨v, hv, v0, v1⟩ : ∃ v : Int, IntKind.wrap .i64 (Int.tmod (IntKind.wrap .u64 from_) 5) = v ∧ 0 ≤ v ∧ v < 5 := by
    rw [wrapu, Int.tmod_eq_emod_of_nonneg (by omega)]
    exact ⟨from_ % 18446744073709551616 % 5, by rw [wrap64 (by omega) (by omega)], by omega, by omega⟩
  obtain ⟨ra, ea, ht, σ1, rfl, K1, g1⟩ := EvI.up (f := fun k s => stepF Try.prog (gm Try.prog k) drawn k Try.f6 [1, 1, 1, 1, 0, 1, 0] [22, 21, 20, 6, 5] s) few.length
    (fun i s => ∃ h7 s1, s = ([.int .i64 i, .int .i64 few.length, .slice h, .slice h7, .int .i64 v], s1) ∧ Kp σ.objs.length σ s1 ∧ GrowI s1 σ.objs.length h7 (((few.take 150).take i).map fun x => v + 1 + x % 7))
    (fun r => ∃ h7 s1, r = (AX.exit 0, [(6, .slice h7), (5, .int .i64 v)], s1) ∧ Kp σ.objs.length σ s1 ∧ GrowI s1 σ.objs.length h7 ((few.take 150).map fun x => v + 1 + x % 7))
    (by
      rintro i s hi ⟨h7, s1, rfl, kk, g⟩
      have i0 : (0 : Int) ≤ i := by omega
      have i1 : (i : Int) < few.length := by omega
      have w := wsucc hi (by omega)
      have rx := nums_rd (Store.Sl.kp hT kk) i0 i1
      obtain ⟨x0, x1⟩ := wfb (hw _ (rd_mem i0 i1))
      by_cases c : i < 150
      · have c' : (i : Int) < 150 := by omega
        have w1 : IntKind.wrap .i64 (IntKind.wrap .i64 (v + 1) + IntKind.wrap .i64 (Int.tmod (rd few i) 7)) = v + 1 + rd few i % 7 := by
          rw [Int.tmod_eq_emod_of_nonneg x0, wrap64 (x := v + 1) (by omega) (by omega), wrap64 (x := rd few i % 7) (by omega) (by omega), wrap64 (by omega) (by omega)]
        obtain ⟨h8, s2, e2, k2, g2⟩ := g.app (by rw [kk.prot]; exact hp) kk.len (v + 1 + rd few i % 7) (by simp; omega)
        refine ⟨_, Ev.of fun k => by simp only [f6_L1111010]; simp only [Option.bind_some, decide_eq_true_eq, decide_eq_false_iff_not, Bool.not_eq_true', Bool.not_true, Bool.not_false, Bool.false_eq_true, Bool.true_eq_false, Bool.not_eq_eq_eq_not, beq_self_eq_true, beqFT, beqTF, decide_true, decide_false, not_false_eq_true, not_true_eq_false, ne_eq, true_and, and_true, false_and, and_false, and_self, if_true, if_false, ite_true, ite_false, Bool.and_true, Bool.and_false, Bool.true_and, Bool.false_and, Bool.or_true, Bool.true_or, Bool.or_false, Bool.false_or, or_true, true_or, or_false, false_or, or_self, AV.asInt, AV.asBool, AV.asSl, AV.asPtr, AV.asFn, AV.asStr, AV.asMap, AV.asIfc, AV.item, List.length_cons, List.length_nil, List.getElem?_cons_zero, List.getElem?_cons_succ, Nat.zero_add, ll, i0, i1, rx, c', w1, read1, e2, w], h8, s2, rfl, kk.trans k2, ?_⟩
        have er : rd (few.take 150) i = rd few i := by rw [rd_getElem (by simp; omega), rd_getElem hi]; simp
        rw [take_rd (by simp; omega), er, List.map_append]; exact g2
      · have c' : ¬ (i : Int) < 150 := by omega
        refine ⟨_, Ev.of fun k => by simp only [f6_L1111010]; simp only [Option.bind_some, decide_eq_true_eq, decide_eq_false_iff_not, Bool.not_eq_true', Bool.not_true, Bool.not_false, Bool.false_eq_true, Bool.true_eq_false, Bool.not_eq_eq_eq_not, beq_self_eq_true, beqFT, beqTF, decide_true, decide_false, not_false_eq_true, not_true_eq_false, ne_eq, true_and, and_true, false_and, and_false, and_self, if_true, if_false, ite_true, ite_false, Bool.and_true, Bool.and_false, Bool.true_and, Bool.false_and, Bool.or_true, Bool.true_or, Bool.or_false, Bool.false_or, or_true, true_or, or_false, false_or, or_self, AV.asInt, AV.asBool, AV.asSl, AV.asPtr, AV.asFn, AV.asStr, AV.asMap, AV.asIfc, AV.item, List.length_cons, List.length_nil, List.getElem?_cons_zero, List.getElem?_cons_succ, Nat.zero_add, ll, i0, i1, rx, c', w], h7, s1, rfl, kk, ?_⟩
        rw [List.take_take] at g ⊢
        rw [Nat.min_eq_right (by omega)] at g ⊢; exact g)
    (by
      rintro s ⟨h7, s1, rfl, kk, g⟩
      rw [List.take_of_length_le (by simp; omega)] at g
      exact ⟨(AX.exit 0, [(6, .slice h7), (5, .int .i64 v)], s1), Ev.of fun k => by simp only [f6_L1111010]; simp only [Option.bind_some, decide_eq_true_eq, decide_eq_false_iff_not, Bool.not_eq_true', Bool.not_true, Bool.not_false, Bool.false_eq_true, Bool.true_eq_false, Bool.not_eq_eq_eq_not, beq_self_eq_true, beqFT, beqTF, decide_true, decide_false, not_false_eq_true, not_true_eq_false, ne_eq, true_and, and_true, false_and, and_false, and_self, if_true, if_false, ite_true, ite_false, Bool.and_true, Bool.and_false, Bool.true_and, Bool.false_and, Bool.or_true, Bool.true_or, Bool.or_false, Bool.false_or, or_true, true_or, or_false, false_or, or_self, AV.asInt, AV.asBool, AV.asSl, AV.asPtr, AV.asFn, AV.asStr, AV.asMap, AV.asIfc, AV.item, List.length_cons, List.length_nil, List.getElem?_cons_zero, List.getElem?_cons_succ, Nat.zero_add, Int.lt_irrefl], h7, s1, rfl, kk, g⟩)
    (s := ([.int .i64 0, .int .i64 few.length, .slice h, .slice Hdl.nil, .int .i64 v], σ)) ⟨Hdl.nil, σ, rfl, Kp.refl _ _, Grow.nil _ _ _⟩
  have hp1 : σ1.prot ≤ σ1.objs.length := by rw [K1.prot]; have := K1.len; omega
  obtain ⟨h2, σ2, e2, K2, g2⟩ := g1.app (by rw [K1.prot]; exact hp) K1.len v (by simp; omega)
  obtain ⟨u, hu⟩ : ∃ u, u = (few.take 150).map fun x => v + 1 + x % 7 := ⟨_, rfl⟩
  rw [← hu] at g1 g2
  have lu : u.length ≤ 150 := by rw [hu]; simp; omega
  have hwu : ∀ x ∈ u, v < x ∧ x < 13 := fun x hx => by
    rw [hu] at hx; obtain ⟨y, hy, rfl⟩ := List.mem_map.1 hx; omega
  obtain ⟨t, ht_⟩ : ∃ t, t = u ++ [v] := ⟨_, rfl⟩
  rw [← ht_] at g2
  have lt : t.length = u.length + 1 := by rw [ht_]; simp
  have hwt : ∀ x ∈ t, 0 ≤ x ∧ x < 13 := fun x hx => by
    rw [ht_, List.mem_append] at hx
    rcases hx with hx | hx
    · have := hwu x hx; omega
    · rw [List.mem_singleton] at hx; omega
  have et : rd t (t.length - 1) = v := by
    rw [show ((t.length : Int) - 1) = (u.length : Nat) by omega, rd_getElem (by omega)]; simp [ht_]
  have he : endsL t = true := by
    rw [endsL_iff]
    refine ⟨by omega, fun i i0 i1 => ?_⟩
    rw [et]
    obtain ⟨i, rfl⟩ := Int.eq_ofNat_of_zero_le i0
    have hi : i < u.length := by omega
    have : rd t (i : Int) = rd u (i : Int) := by rw [rd_getElem (by omega), rd_getElem hi]; simp [ht_, List.getElem_append_left hi]
    rw [this]; exact (hwu _ (rd_mem i0 (by omega))).1
  have hE : Bs.Ends t := ⟨by omega, fun i i0 i1 e => by have := (endsL_iff.1 he).2 i i0 i1; omega⟩
  have K12 : Kp σ.objs.length σ σ2 := K1.trans K2
  have hp2 : σ2.prot ≤ σ2.objs.length := by rw [K12.prot]; have := K12.len; omega
  obtain ⟨h3, σ3, ⟨k3, r3⟩, K3, G3⟩ := ref9_array g2.ints (by omega) hp2
  have hp3 : σ3.prot ≤ σ3.objs.length := by rw [K3.prot]; have := K3.len; omega
  have hSA := saOf_spec t
  have lsa := saOf_len t
  obtain ⟨h4, σ4, ⟨k4, r4⟩, K4, I4, H4⟩ := make_run (g2.kp K3).ints G3.ints hp3 (by omega) (by omega)
  have hpm : permB (saOf t) = true ∧ (saOf t).length = t.length := ⟨permB_iff.2 (by rw [lsa]; exact hSA.perm), lsa⟩
  rw [if_pos hpm] at r4 I4
  have hp4 : σ4.prot ≤ σ4.objs.length := by rw [K4.prot]; have := K4.len; omega
  have J4 := (G3.kp K4).ints
  obtain ⟨w, ⟨k5, r5⟩, q5, _⟩ := at11_run J4 (by omega) 0
  have hm0 : (0 : Int) ∈ saOf t := hSA.perm.mem_iff.2 ⟨by omega, by omega⟩
  have q5 := q5 hm0
  have w0 : 0 ≤ w := by omega
  have w1 : w < t.length := by have := List.idxOf_lt_length_of_mem hm0; omega
  have hw0 : rd (saOf t) w = 0 := by
    rw [q5, rd_getElem (List.idxOf_lt_length_of_mem hm0)]; exact List.getElem_idxOf _
  have eb := backOf_bwt hSA hE w0 w1 hw0
  have lb := bwtOf_length t (saOf t)
  have hperm := bwtOf_perm (t := t) hSA.perm
  have okc : okC (bwtOf t (saOf t)) 13 = true := okC_iff.2 ⟨by omega, by omega, fun x hx => hwt x (hperm.mem_iff.1 hx)⟩
  obtain ⟨h6, σ6, ⟨k6, r6⟩, K6, I6, H6⟩ := back_run (al := 13) (w := w) I4 hp4 (by omega) okc w0 (by omega)
  have okb : backOk (bwtOf t (saOf t)) w = true := by
    rw [backOk_eq (by omega), eb, he]; simp [isB, hw0]
  rw [if_pos okb] at r6 I6
  rw [eb] at I6
  have K36 : Kp σ2.objs.length σ2 σ6 := (K3.all K4).all K6
  obtain ⟨k7, r7⟩ := same_self I6 (g2.kp K36).ints (by omega)
  refine ⟨σ6, Runs.intro (fn := Try.f6) (by kernel_rfl) (by kernel_rfl) ?_⟩
  obtain ⟨na, ea⟩ := loopF_ev ea
  refine ⟨k0 + na + k3 + k4 + k5 + k6 + k7, fun m hm => ?_⟩
  have r0 := r0 m (by omega)
  have ea := ea m (by omega)
  have r3 := r3 m (by omega)
  have r4 := r4 m (by omega)
  have r5 := r5 m (by omega)
  have r6 := r6 m (by omega)
  have r7 := r7 m (by omega)
  simp only [Option.bind_some, decide_eq_true_eq, decide_eq_false_iff_not, Bool.not_eq_true', Bool.not_true, Bool.not_false, Bool.false_eq_true, Bool.true_eq_false, Bool.not_eq_eq_eq_not, beq_self_eq_true, beqFT, beqTF, decide_true, decide_false, not_false_eq_true, not_true_eq_false, ne_eq, true_and, and_true, false_and, and_false, and_self, if_true, if_false, ite_true, ite_false, Bool.and_true, Bool.and_false, Bool.true_and, Bool.false_and, Bool.or_true, Bool.true_or, Bool.or_false, Bool.false_or, or_true, true_or, or_false, false_or, or_self, AV.asInt, AV.asBool, AV.asSl, AV.asPtr, AV.asFn, AV.asStr, AV.asMap, AV.asIfc, AV.item, List.length_cons, List.length_nil, List.getElem?_cons_zero, List.getElem?_cons_succ, Nat.zero_add] at r0 ea r3 r4 r5 r6 r7
  simp only [f6_eq]
  simp only [Option.bind_some, decide_eq_true_eq, decide_eq_false_iff_not, Bool.not_eq_true', Bool.not_true, Bool.not_false, Bool.false_eq_true, Bool.true_eq_false, Bool.not_eq_eq_eq_not, beq_self_eq_true, beqFT, beqTF, decide_true, decide_false, not_false_eq_true, not_true_eq_false, ne_eq, true_and, and_true, false_and, and_false, and_self, if_true, if_false, ite_true, ite_false, Bool.and_true, Bool.and_false, Bool.true_and, Bool.false_and, Bool.or_true, Bool.true_or, Bool.or_false, Bool.false_or, or_true, true_or, or_false, false_or, or_self, AV.asInt, AV.asBool, AV.asSl, AV.asPtr, AV.asFn, AV.asStr, AV.asMap, AV.asIfc, AV.item, List.length_cons, List.length_nil, List.getElem?_cons_zero, List.getElem?_cons_succ, Nat.zero_add, r0, ll, hv, ea]
  rw [f6_X1111010_1]
  simp only [Option.bind_some, decide_eq_true_eq, decide_eq_false_iff_not, Bool.not_eq_true', Bool.not_true, Bool.not_false, Bool.false_eq_true, Bool.true_eq_false, Bool.not_eq_eq_eq_not, beq_self_eq_true, beqFT, beqTF, decide_true, decide_false, not_false_eq_true, not_true_eq_false, ne_eq, true_and, and_true, false_and, and_false, and_self, if_true, if_false, ite_true, ite_false, Bool.and_true, Bool.and_false, Bool.true_and, Bool.false_and, Bool.or_true, Bool.true_or, Bool.or_false, Bool.false_or, or_true, true_or, or_false, false_or, or_self, AV.asInt, AV.asBool, AV.asSl, AV.asPtr, AV.asFn, AV.asStr, AV.asMap, AV.asIfc, AV.item, List.length_cons, List.length_nil, List.getElem?_cons_zero, List.getElem?_cons_succ, Nat.zero_add, read1, e2, r3, r4, r5, r6, r7]
theorem cnt_all {l : List Int} {p : Int → Bool} (h : ∀ x ∈ l, p x = true) : Bs.cnt p l = l.length := by
  unfold Bs.cnt; rw [List.filter_eq_self.2 h]
theorem belows_perm {a b : List Int} (h : a.Perm b) (n : Nat) : belows a n = belows b n := by
  unfold belows below
  congr 1; funext c; rw [cnt_perm h]
theorem law_BwtKeeps {σ : Store} {h : Hdl} {few : List Int} (hT : Store.Nums .u8 σ h few) (hH : σ.Has h) (hn : few.length < 2 ^ 47) (hw : ∀ n ∈ few, IntKind.min .u8 ≤ n ∧ n ≤ IntKind.max .u8) (hp : σ.prot ≤ σ.objs.length) :
    ∃ σ', Runs Try.prog 7 [.slice h] σ (.bool true) σ' := by
  have ll := nums_len hT
  obtain ⟨k0, r0⟩ := first11_told σ
  obtain ⟨ra, ea, ht, σ1, rfl, K1, g1⟩ := EvI.up (f := fun k s => stepF Try.prog (gm Try.prog k) drawn k Try.f7 [1, 1, 1, 0, 1, 0] [16, 15, 14, 3] s) few.length
    (fun i s => ∃ h7 s1, s = ([.int .i64 i, .int .i64 few.length, .slice h, .slice h7], s1) ∧ Kp σ.objs.length σ s1 ∧ GrowI s1 σ.objs.length h7 ((few.take 300).take i))
    (fun r => ∃ h7 s1, r = (AX.exit 0, [(3, .slice h7)], s1) ∧ Kp σ.objs.length σ s1 ∧ GrowI s1 σ.objs.length h7 (few.take 300))
    (by
      rintro i s hi ⟨h7, s1, rfl, kk, g⟩
      have i0 : (0 : Int) ≤ i := by omega
      have i1 : (i : Int) < few.length := by omega
      have w := wsucc hi (by omega)
      have rx := nums_rd (Store.Sl.kp hT kk) i0 i1
      obtain ⟨x0, x1⟩ := wfb (hw _ (rd_mem i0 i1))
      have w1 : IntKind.wrap .i64 (rd few i) = rd few i := wrap64 (by omega) (by omega)
      by_cases c : i < 300
      · have c' : (i : Int) < 300 := by omega
        obtain ⟨h8, s2, e2, k2, g2⟩ := g.app (by rw [kk.prot]; exact hp) kk.len (rd few i) (by simp; omega)
        refine ⟨_, Ev.of fun k => by simp only [f7_L111010]; simp only [Option.bind_some, decide_eq_true_eq, decide_eq_false_iff_not, Bool.not_eq_true', Bool.not_true, Bool.not_false, Bool.false_eq_true, Bool.true_eq_false, Bool.not_eq_eq_eq_not, beq_self_eq_true, beqFT, beqTF, decide_true, decide_false, not_false_eq_true, not_true_eq_false, ne_eq, true_and, and_true, false_and, and_false, and_self, if_true, if_false, ite_true, ite_false, Bool.and_true, Bool.and_false, Bool.true_and, Bool.false_and, Bool.or_true, Bool.true_or, Bool.or_false, Bool.false_or, or_true, true_or, or_false, false_or, or_self, AV.asInt, AV.asBool, AV.asSl, AV.asPtr, AV.asFn, AV.asStr, AV.asMap, AV.asIfc, AV.item, List.length_cons, List.length_nil, List.getElem?_cons_zero, List.getElem?_cons_succ, Nat.zero_add, ll, i0, i1, rx, c', w1, read1, e2, w], h8, s2, rfl, kk.trans k2, ?_⟩
        have er : rd (few.take 300) i = rd few i := by rw [rd_getElem (by simp; omega), rd_getElem hi]; simp
        rw [take_rd (by simp; omega), er]; exact g2
      · have c' : ¬ (i : Int) < 300 := by omega
        refine ⟨_, Ev.of fun k => by simp only [f7_L111010]; simp only [Option.bind_some, decide_eq_true_eq, decide_eq_false_iff_not, Bool.not_eq_true', Bool.not_true, Bool.not_false, Bool.false_eq_true, Bool.true_eq_false, Bool.not_eq_eq_eq_not, beq_self_eq_true, beqFT, beqTF, decide_true, decide_false, not_false_eq_true, not_true_eq_false, ne_eq, true_and, and_true, false_and, and_false, and_self, if_true, if_false, ite_true, ite_false, Bool.and_true, Bool.and_false, Bool.true_and, Bool.false_and, Bool.or_true, Bool.true_or, Bool.or_false, Bool.false_or, or_true, true_or, or_false, false_or, or_self, AV.asInt, AV.asBool, AV.asSl, AV.asPtr, AV.asFn, AV.asStr, AV.asMap, AV.asIfc, AV.item, List.length_cons, List.length_nil, List.getElem?_cons_zero, List.getElem?_cons_succ, Nat.zero_add, ll, i0, i1, rx, c', w], h7, s1, rfl, kk, ?_⟩
        rw [List.take_take] at g ⊢
        rw [Nat.min_eq_right (by omega)] at g ⊢; exact g)
    (by
      rintro s ⟨h7, s1, rfl, kk, g⟩
      rw [List.take_of_length_le (by simp; omega)] at g
      exact ⟨(AX.exit 0, [(3, .slice h7)], s1), Ev.of fun k => by simp only [f7_L111010]; simp only [Option.bind_some, decide_eq_true_eq, decide_eq_false_iff_not, Bool.not_eq_true', Bool.not_true, Bool.not_false, Bool.false_eq_true, Bool.true_eq_false, Bool.not_eq_eq_eq_not, beq_self_eq_true, beqFT, beqTF, decide_true, decide_false, not_false_eq_true, not_true_eq_false, ne_eq, true_and, and_true, false_and, and_false, and_self, if_true, if_false, ite_true, ite_false, Bool.and_true, Bool.and_false, Bool.true_and, Bool.false_and, Bool.or_true, Bool.true_or, Bool.or_false, Bool.false_or, or_true, true_or, or_false, false_or, or_self, AV.asInt, AV.asBool, AV.asSl, AV.asPtr, AV.asFn, AV.asStr, AV.asMap, AV.asIfc, AV.item, List.length_cons, List.length_nil, List.getElem?_cons_zero, List.getElem?_cons_succ, Nat.zero_add, Int.lt_irrefl], h7, s1, rfl, kk, g⟩)
    (s := ([.int .i64 0, .int .i64 few.length, .slice h, .slice Hdl.nil], σ)) ⟨Hdl.nil, σ, rfl, Kp.refl _ _, Grow.nil _ _ _⟩
  have hp1 : σ1.prot ≤ σ1.objs.length := by rw [K1.prot]; have := K1.len; omega
  obtain ⟨t, ht_⟩ : ∃ t, t = few.take 300 := ⟨_, rfl⟩
  rw [← ht_] at g1
  have lt := g1.ints.ilen
  have lt3 : t.length ≤ 300 := by rw [ht_]; simp; omega
  have hwt : ∀ x ∈ t, 0 ≤ x ∧ x < 256 := fun x hx => by have := wfb (hw x (List.mem_of_mem_take (ht_ ▸ hx))); omega
  obtain ⟨h3, σ3, ⟨k3, r3⟩, K3, G3⟩ := ref9_array g1.ints (by omega) hp1
  have hp3 : σ3.prot ≤ σ3.objs.length := by rw [K3.prot]; have := K3.len; omega
  have hSA := saOf_spec t
  have lsa := saOf_len t
  obtain ⟨h4, σ4, ⟨k4, r4⟩, K4, I4, H4⟩ := make_run (g1.kp K3).ints G3.ints hp3 (by omega) (by omega)
  have hpm : permB (saOf t) = true ∧ (saOf t).length = t.length := ⟨permB_iff.2 (by rw [lsa]; exact hSA.perm), lsa⟩
  rw [if_pos hpm] at r4 I4
  have hp4 : σ4.prot ≤ σ4.objs.length := by rw [K4.prot]; have := K4.len; omega
  have lb := bwtOf_length t (saOf t)
  have hperm := bwtOf_perm (t := t) hSA.perm
  have okc : okC (bwtOf t (saOf t)) 256 = true := okC_iff.2 ⟨by omega, by omega, fun x hx => hwt x (hperm.mem_iff.1 hx)⟩
  have okt : okC t 256 = true := okC_iff.2 ⟨by omega, by omega, fun x hx => hwt x hx⟩
  obtain ⟨h5, σ5, ⟨k5, r5⟩, K5, I5, H5, _⟩ := counts_run (al := 256) (g1.kp (K3.all K4)).ints hp4 (by omega)
  have hp5 : σ5.prot ≤ σ5.objs.length := by rw [K5.prot]; have := K5.len; omega
  obtain ⟨h6, σ6, ⟨k6, r6⟩, K6, I6, H6, _⟩ := counts_run (al := 256) (Store.Sl.kp I4 K5) hp5 (by omega)
  rw [if_pos okt] at r5 I5
  rw [if_pos okc, belows_perm hperm] at I6
  rw [if_pos okc] at r6
  have J5 : σ6.Ints h5 (belows t ((256 : Int).toNat + 1)) := Store.Sl.kp I5 K6
  obtain ⟨k7, r7⟩ := same_self J5 I6 (by rw [belows_length]; decide)
  have l5 := J5.ilen
  rw [belows_length] at l5
  have c1 : (256 : Int) < h5.len := by rw [l5]; decide
  have rx := J5.rd (i := 256) (by omega) (by rw [belows_length]; decide)
  rw [rd_belows (by omega) (by decide)] at rx
  have e256 : below t 256 = t.length := by
    unfold below; rw [cnt_all fun x hx => by have := hwt x hx; simpa using this.2]
  rw [e256] at rx
  refine ⟨σ6, Runs.intro (fn := Try.f7) (by kernel_rfl) (by kernel_rfl) ?_⟩
  obtain ⟨na, ea⟩ := loopF_ev ea
  refine ⟨k0 + na + k3 + k4 + k5 + k6 + k7, fun m hm => ?_⟩
  have r0 := r0 m (by omega)
  have ea := ea m (by omega)
  have r3 := r3 m (by omega)
  have r4 := r4 m (by omega)
  have r5 := r5 m (by omega)
  have r6 := r6 m (by omega)
  have r7 := r7 m (by omega)
  have z : (0 : Int) ≤ 256 := by omega
  simp only [Option.bind_some, decide_eq_true_eq, decide_eq_false_iff_not, Bool.not_eq_true', Bool.not_true, Bool.not_false, Bool.false_eq_true, Bool.true_eq_false, Bool.not_eq_eq_eq_not, beq_self_eq_true, beqFT, beqTF, decide_true, decide_false, not_false_eq_true, not_true_eq_false, ne_eq, true_and, and_true, false_and, and_false, and_self, if_true, if_false, ite_true, ite_false, Bool.and_true, Bool.and_false, Bool.true_and, Bool.false_and, Bool.or_true, Bool.true_or, Bool.or_false, Bool.false_or, or_true, true_or, or_false, false_or, or_self, AV.asInt, AV.asBool, AV.asSl, AV.asPtr, AV.asFn, AV.asStr, AV.asMap, AV.asIfc, AV.item, List.length_cons, List.length_nil, List.getElem?_cons_zero, List.getElem?_cons_succ, Nat.zero_add] at r0 ea r3 r4 r5 r6 r7
  simp only [f7_eq]
  simp only [Option.bind_some, decide_eq_true_eq, decide_eq_false_iff_not, Bool.not_eq_true', Bool.not_true, Bool.not_false, Bool.false_eq_true, Bool.true_eq_false, Bool.not_eq_eq_eq_not, beq_self_eq_true, beqFT, beqTF, decide_true, decide_false, not_false_eq_true, not_true_eq_false, ne_eq, true_and, and_true, false_and, and_false, and_self, if_true, if_false, ite_true, ite_false, Bool.and_true, Bool.and_false, Bool.true_and, Bool.false_and, Bool.or_true, Bool.true_or, Bool.or_false, Bool.false_or, or_true, true_or, or_false, false_or, or_self, AV.asInt, AV.asBool, AV.asSl, AV.asPtr, AV.asFn, AV.asStr, AV.asMap, AV.asIfc, AV.item, List.length_cons, List.length_nil, List.getElem?_cons_zero, List.getElem?_cons_succ, Nat.zero_add, r0, ll, ea]
  rw [f7_X111010_1]
  simp only [Option.bind_some, decide_eq_true_eq, decide_eq_false_iff_not, Bool.not_eq_true', Bool.not_true, Bool.not_false, Bool.false_eq_true, Bool.true_eq_false, Bool.not_eq_eq_eq_not, beq_self_eq_true, beqFT, beqTF, decide_true, decide_false, not_false_eq_true, not_true_eq_false, ne_eq, true_and, and_true, false_and, and_false, and_self, if_true, if_false, ite_true, ite_false, Bool.and_true, Bool.and_false, Bool.true_and, Bool.false_and, Bool.or_true, Bool.true_or, Bool.or_false, Bool.false_or, or_true, true_or, or_false, false_or, or_self, AV.asInt, AV.asBool, AV.asSl, AV.asPtr, AV.asFn, AV.asStr, AV.asMap, AV.asIfc, AV.item, List.length_cons, List.length_nil, List.getElem?_cons_zero, List.getElem?_cons_succ, Nat.zero_add, r3, r4, r5, r6, r7, z, c1, rx, lt]
end Go.Ab

/- What is told of first holds. -/
namespace Go.Ab
open Go Go.Proofs
theorem toldOk (hm : Try.prog.follows .mixedOrders = true) : SpS Try.prog (Told.sp Try.prog) ∧ SpK (Told.sp Try.prog) :=
  tell_sound hm fun g hg => by
    simp only [List.mem_cons, List.not_mem_nil, or_false] at hg
    rcases hg with rfl | rfl
    · exact ⟨Try.f15, 60, by kernel_rfl, by kernel_rfl, by kernel_rfl, by kernel_rfl⟩
    · exact ⟨Try.f26, 60, by kernel_rfl, by kernel_rfl, by kernel_rfl, by kernel_rfl⟩
end Go.Ab
