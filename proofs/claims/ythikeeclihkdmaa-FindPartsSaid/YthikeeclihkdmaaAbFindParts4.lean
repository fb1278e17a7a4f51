/- A part of the proof of the law FindParts: lemmas alone; what each says stands at it. No conditions. -/
import Derived.Test.YthikeeclihkdmaaAbFindParts3
import Derived.Test.YthikeeclihkdmaaAbFindParts1
/- How many bits of a number are ones: the sum by folding. Plain Lean, no program. -/
namespace Go.Ab.Pop
set_option linter.unusedVariables false
set_option linter.unusedSimpArgs false
/-- The sum of digits. -/
def Dg (P : Nat) : Nat → Nat → Nat
  | 0, _ => 0
  | n + 1, x => x % P + Dg P n (x / P)
/-- Every other digit. -/
def Em (P : Nat) : Nat → Nat → Nat
  | 0, _ => 0
  | n + 1, x => x % P + P * P * Em P n (x / (P * P))
def Small (P m : Nat) : Nat → Nat → Prop
  | 0, _ => True
  | n + 1, x => x % P ≤ m ∧ Small P m n (x / P)
theorem split2 {P a b : Nat} (ha : a < P * P) : (a + P * P * b) % (P * P) = a ∧ (a + P * P * b) / (P * P) = b := by
  have h0 : 0 < P * P := by omega
  exact ⟨by rw [Nat.add_mul_mod_self_left, Nat.mod_eq_of_lt ha], by rw [Nat.add_mul_div_left _ _ h0, Nat.div_eq_of_lt ha, Nat.zero_add]⟩
theorem two_lt {P a b : Nat} (hP : 2 ≤ P) (ha : a < P) (hb : b < P) : a + b < P * P := by
  have : 2 * P ≤ P * P := Nat.mul_le_mul_right P hP
  omega
theorem div3 (x P : Nat) : x / P / (P * P) = x / (P * P) / P := by rw [Nat.div_div_eq_div_mul, Nat.div_div_eq_div_mul, Nat.mul_comm]
theorem fold_step {P : Nat} (hP : 2 ≤ P) : ∀ (n x : Nat), Dg (P * P) n (Em P n x + Em P n (x / P)) = Dg P (2 * n) x
  | 0, _ => rfl
  | n + 1, x => by
    have e : Em P (n + 1) x + Em P (n + 1) (x / P) = (x % P + x / P % P) + P * P * (Em P n (x / (P * P)) + Em P n (x / (P * P) / P)) := by
      simp only [Em]; rw [div3, Nat.mul_add]; omega
    have hlt := two_lt hP (Nat.mod_lt x (by omega)) (Nat.mod_lt (x / P) (show P > 0 by omega))
    obtain ⟨h1, h2⟩ := split2 (b := Em P n (x / (P * P)) + Em P n (x / (P * P) / P)) hlt
    rw [show 2 * (n + 1) = 2 * n + 1 + 1 by omega]
    simp only [Dg]
    rw [e, h1, h2, fold_step hP n, Nat.div_div_eq_div_mul]; omega
theorem small_fold {P m : Nat} (hP : 2 ≤ P) : ∀ (n x : Nat), Small P m (2 * n) x → Small (P * P) (2 * m) n (Em P n x + Em P n (x / P))
  | 0, _, _ => trivial
  | n + 1, x, h => by
    have e : Em P (n + 1) x + Em P (n + 1) (x / P) = (x % P + x / P % P) + P * P * (Em P n (x / (P * P)) + Em P n (x / (P * P) / P)) := by
      simp only [Em]; rw [div3, Nat.mul_add]; omega
    have hlt := two_lt hP (Nat.mod_lt x (by omega)) (Nat.mod_lt (x / P) (show P > 0 by omega))
    obtain ⟨h1, h2⟩ := split2 (b := Em P n (x / (P * P)) + Em P n (x / (P * P) / P)) hlt
    rw [show 2 * (n + 1) = 2 * n + 1 + 1 by omega] at h
    simp only [Small] at h ⊢
    rw [e, h1, h2]
    refine ⟨by omega, small_fold hP n _ ?_⟩
    have := h.2.2
    rwa [Nat.div_div_eq_div_mul] at this
theorem em_sum {P m : Nat} (hP : 2 ≤ P) (hm : 2 * m < P) : ∀ (n x : Nat), Small P m (2 * n + 1) x → Em P n (x / P + x) = Em P n x + Em P n (x / P)
  | 0, _, _ => rfl
  | n + 1, x, h => by
    rw [show 2 * (n + 1) + 1 = 2 * n + 1 + 1 + 1 by omega] at h
    simp only [Small] at h
    obtain ⟨h0, h1, h2⟩ := h
    rw [Nat.div_div_eq_div_mul] at h2
    have h2' : x / (P * P) % P ≤ m := h2.1
    have ih := em_sum hP hm n (x / (P * P)) h2
    have hP0 : 0 < P := by omega
    have ex : x = x % P + P * (x / P % P) + P * P * (x / (P * P)) := by
      have a1 := Nat.mod_add_div x P
      have a2 := Nat.mod_add_div (x / P) P
      rw [Nat.div_div_eq_div_mul] at a2
      calc x = x % P + P * (x / P) := a1.symm
        _ = x % P + P * (x / P % P + P * (x / (P * P))) := by rw [a2]
        _ = _ := by rw [Nat.mul_add, Nat.mul_assoc, Nat.add_assoc]
    have ey : x / P = x / P % P + P * (x / (P * P) % P) + P * P * (x / (P * P) / P) := by
      have a1 := Nat.mod_add_div (x / P) P
      have a2 := Nat.mod_add_div (x / (P * P)) P
      rw [Nat.div_div_eq_div_mul] at a1
      calc x / P = x / P % P + P * (x / (P * P)) := a1.symm
        _ = x / P % P + P * (x / (P * P) % P + P * (x / (P * P) / P)) := by rw [a2]
        _ = _ := by rw [Nat.mul_add, Nat.mul_assoc, Nat.add_assoc]
    have es : x / P + x = ((x % P + x / P % P) + P * (x / P % P + x / (P * P) % P)) + P * P * (x / (P * P) / P + x / (P * P)) := by
      conv => lhs; rw [ey]; rhs; rw [ex]
      rw [Nat.mul_add, Nat.mul_add]; omega
    have hs1 : x % P + x / P % P < P := by omega
    have hs2 : x / P % P + x / (P * P) % P < P := by omega
    have hlt : (x % P + x / P % P) + P * (x / P % P + x / (P * P) % P) < P * P := by
      have : P * (x / P % P + x / (P * P) % P + 1) ≤ P * P := Nat.mul_le_mul_left P (by omega)
      rw [Nat.mul_add] at this; omega
    obtain ⟨s1, s2⟩ := split2 (b := x / (P * P) / P + x / (P * P)) hlt
    have sm : (x / P + x) % P = x % P + x / P % P := by
      have : (x / P + x) % P = (x / P + x) % (P * P) % P := by rw [Nat.mod_mul_left_mod]
      rw [this, es, s1, Nat.add_mul_mod_self_left, Nat.mod_eq_of_lt hs1]
    simp only [Em]
    rw [sm, show (x / P + x) / (P * P) = x / (P * P) / P + x / (P * P) by rw [es, s2], ih, div3, Nat.mul_add]
    omega
def mask (w : Nat) : Nat → Nat
  | 0 => 0
  | n + 1 => (2 ^ w - 1) + 2 ^ w * 2 ^ w * mask w n
theorem and_mask (w : Nat) (hw : 0 < w) : ∀ (n x : Nat), x &&& mask w n = Em (2 ^ w) n x
  | 0, x => by simp [mask, Em]
  | n + 1, x => by
    have hp : 2 ^ w * 2 ^ w = 2 ^ (2 * w) := by rw [← Nat.pow_add]; congr 1; omega
    have h0 : 0 < 2 ^ w := Nat.two_pow_pos w
    have h1 : 2 ^ w - 1 < 2 ^ w * 2 ^ w := by
      have : 1 * 2 ^ w ≤ 2 ^ w * 2 ^ w := Nat.mul_le_mul_right _ h0
      omega
    obtain ⟨m1, m2⟩ := split2 (b := mask w n) h1
    simp only [mask, Em]
    rw [← Nat.mod_add_div (x &&& (2 ^ w - 1 + 2 ^ w * 2 ^ w * mask w n)) (2 ^ w * 2 ^ w)]
    rw [hp] at m1 m2 ⊢
    rw [Nat.and_mod_two_pow, Nat.and_div_two_pow, m1, m2, and_mask w hw n, Nat.and_two_pow_sub_one_eq_mod, ← hp, Nat.mod_mul_left_mod, hp]
theorem small_of (P m : Nat) (hP : 0 < P) (hm : P ≤ m + 1) : ∀ n x, Small P m n x
  | 0, _ => trivial
  | n + 1, x => ⟨by have := Nat.mod_lt x hP; omega, small_of P m hP hm n _⟩
/-- How many of n bits are ones. -/
def pop : Nat → Nat → Nat
  | 0, _ => 0
  | n + 1, x => x % 2 + pop n (x / 2)
theorem pop_dg : ∀ n x, pop n x = Dg 2 n x
  | 0, _ => rfl
  | n + 1, x => by simp only [pop, Dg, pop_dg n]
theorem small_zero {P m : Nat} : ∀ n, Small P m n 0
  | 0 => trivial
  | n + 1 => ⟨by simp, by rw [Nat.zero_div]; exact small_zero n⟩
theorem small_more {P m : Nat} (hP : 1 < P) : ∀ (n k x : Nat), x < P ^ n → Small P m n x → Small P m (n + k) x
  | 0, k, x, hx, _ => by
    have : x = 0 := by simpa using hx
    subst this; exact small_zero _
  | n + 1, k, x, hx, h => by
    rw [show n + 1 + k = (n + k) + 1 by omega]
    refine ⟨h.1, small_more hP n k _ ?_ h.2⟩
    rw [Nat.div_lt_iff_lt_mul (by omega), ← Nat.pow_succ]; exact hx
theorem em_lt {P : Nat} (hP : 0 < P) : ∀ n x, Em P n x < (P * P) ^ n
  | 0, _ => by simp [Em]
  | n + 1, x => by
    have ih := em_lt hP n (x / (P * P))
    have h1 := Nat.mod_lt x hP
    have h2 : P ≤ P * P := by have : 1 * P ≤ P * P := Nat.mul_le_mul_right _ hP; omega
    simp only [Em, Nat.pow_succ]
    have : P * P * (Em P n (x / (P * P)) + 1) ≤ P * P * (P * P) ^ n := Nat.mul_le_mul_left _ ih
    rw [Nat.mul_add, Nat.mul_comm (P * P) ((P * P) ^ n)] at this
    omega
/-- The sum by folding. -/
def fold64 (x : Nat) : Nat :=
  let a := (x / 2 &&& 0x5555555555555555) + (x &&& 0x5555555555555555)
  let b := (a / 4 &&& 0x3333333333333333) + (a &&& 0x3333333333333333)
  (b / 16 + b) &&& 0x0f0f0f0f0f0f0f0f
theorem fold64_spec (x : Nat) (hx : x < 2 ^ 64) : Small 256 8 8 (fold64 x) ∧ Dg 256 8 (fold64 x) = pop 64 x ∧ fold64 x < 2 ^ 64 := by
  have m1 : mask 1 32 = 0x5555555555555555 := by decide
  have m2 : mask 2 16 = 0x3333333333333333 := by decide
  have m3 : mask 4 8 = 0x0f0f0f0f0f0f0f0f := by decide
  simp only [fold64]
  rw [← m1, ← m2, ← m3, and_mask 1 (by omega), and_mask 1 (by omega), and_mask 2 (by omega), and_mask 2 (by omega), and_mask 4 (by omega)]
  simp only [show 2 ^ 1 = 2 by rfl, show 2 ^ 2 = 4 by rfl, show 2 ^ 4 = 16 by rfl]
  rw [Nat.add_comm (Em 2 32 (x / 2))]
  have f1 := fold_step (P := 2) (by omega) 32 x
  have s1 := small_fold (P := 2) (m := 1) (by omega) 32 x (small_of 2 1 (by omega) (by omega) _ _)
  generalize ha : Em 2 32 x + Em 2 32 (x / 2) = a at f1 s1 ⊢
  rw [Nat.add_comm (Em 4 16 (a / 4))]
  have f2 := fold_step (P := 4) (by omega) 16 a
  have s2 := small_fold (P := 4) (m := 2) (by omega) 16 a s1
  generalize hb : Em 4 16 a + Em 4 16 (a / 4) = b at f2 s2 ⊢
  have lb : b < 16 ^ 17 := by
    have h1 := em_lt (P := 4) (by omega) 16 a
    have h2 := em_lt (P := 4) (by omega) 16 (a / 4)
    have : (4 * 4) ^ 16 + (4 * 4) ^ 16 ≤ 16 ^ 17 := by decide
    omega
  have lb16 : b < 16 ^ 16 := by
    -- its digits are small, and there are sixteen
    have hd : b / 16 ^ 16 = 0 := by
      have h1 := em_lt (P := 4) (by omega) 16 a
      have h2 := em_lt (P := 4) (by omega) 16 (a / 4)
      have key : ∀ (n u v : Nat), (Em 4 n u + Em 4 n v) / (4 * 4) ^ n = 0 := by
        intro n
        induction n with
        | zero => intro u v; simp [Em]
        | succ n ih =>
          intro u v
          have e : Em 4 (n + 1) u + Em 4 (n + 1) v = (u % 4 + v % 4) + 4 * 4 * (Em 4 n (u / (4 * 4)) + Em 4 n (v / (4 * 4))) := by simp only [Em]; omega
          have hlt : u % 4 + v % 4 < 4 * 4 := by omega
          rw [e, Nat.pow_succ, Nat.mul_comm ((4 * 4) ^ n), ← Nat.div_div_eq_div_mul, (split2 hlt).2]
          exact ih _ _
      have := key 16 a (a / 4)
      rw [hb] at this
      exact this
    have := Nat.div_add_mod b (16 ^ 16)
    have := Nat.mod_lt b (show 16 ^ 16 > 0 by decide)
    omega
  have s3 := em_sum (P := 16) (m := 4) (by omega) (by omega) 8 b (small_more (by omega) 16 1 b lb16 s2)
  rw [s3]
  refine ⟨small_fold (P := 16) (m := 4) (by omega) 8 b s2, ?_, ?_⟩
  · rw [fold_step (P := 16) (by omega) 8 b, f2, f1, pop_dg]
  · have h1 := em_lt (P := 16) (by omega) 8 (b / 16 + b)
    rw [s3] at h1
    have : (16 * 16) ^ 8 = 2 ^ 64 := by decide
    omega
theorem pop_le : ∀ n x, pop n x ≤ n
  | 0, _ => Nat.le_refl _
  | n + 1, x => by simp only [pop]; have := pop_le n (x / 2); omega
theorem div_of {a b m : Nat} (ha : a < m) : (a + m * b) / m = b := by rw [Nat.add_mul_div_left _ _ (by omega), Nat.div_eq_of_lt ha, Nat.zero_add]
/-- Eight digits, each at most eight. -/
def eight (x0 x1 x2 x3 x4 x5 x6 x7 : Nat) : Nat := x0 + 256 * (x1 + 256 * (x2 + 256 * (x3 + 256 * (x4 + 256 * (x5 + 256 * (x6 + 256 * x7))))))
theorem eight_div1 (x0 x1 x2 x3 x4 x5 x6 x7 : Nat) (h : x0 < 256) : eight x0 x1 x2 x3 x4 x5 x6 x7 / 256 = eight x1 x2 x3 x4 x5 x6 x7 0 := by
  unfold eight; rw [div_of h, Nat.mul_zero, Nat.add_zero]
theorem eight_add (x0 x1 x2 x3 x4 x5 x6 x7 y0 y1 y2 y3 y4 y5 y6 y7 : Nat) : eight x0 x1 x2 x3 x4 x5 x6 x7 + eight y0 y1 y2 y3 y4 y5 y6 y7 = eight (x0 + y0) (x1 + y1) (x2 + y2) (x3 + y3) (x4 + y4) (x5 + y5) (x6 + y6) (x7 + y7) := by
  unfold eight; omega
theorem eight_lt (x0 x1 x2 x3 x4 x5 x6 x7 : Nat) (h0 : x0 < 256) (h1 : x1 < 256) (h2 : x2 < 256) (h3 : x3 < 256) (h4 : x4 < 256) (h5 : x5 < 256) (h6 : x6 < 256) (h7 : x7 < 256) : eight x0 x1 x2 x3 x4 x5 x6 x7 < 18446744073709551616 := by
  unfold eight; omega
theorem eight_of {z : Nat} (hz : z < 2 ^ 64) : z = eight (z % 256) (z / 256 % 256) (z / 256 / 256 % 256) (z / 256 / 256 / 256 % 256) (z / 256 / 256 / 256 / 256 % 256) (z / 256 / 256 / 256 / 256 / 256 % 256) (z / 256 / 256 / 256 / 256 / 256 / 256 % 256) (z / 256 / 256 / 256 / 256 / 256 / 256 / 256 % 256) := by
  have step : ∀ x : Nat, x = x % 256 + 256 * (x / 256) := fun x => (Nat.mod_add_div x 256).symm
  have last : z / 256 / 256 / 256 / 256 / 256 / 256 / 256 % 256 = z / 256 / 256 / 256 / 256 / 256 / 256 / 256 := by
    rw [Nat.mod_eq_of_lt]
    simp only [Nat.div_div_eq_div_mul]
    exact Nat.div_lt_of_lt_mul (by simpa using hz)
  unfold eight
  rw [last, ← step, ← step, ← step, ← step, ← step, ← step, ← step]
theorem last_eight (x0 x1 x2 x3 x4 x5 x6 x7 : Nat) (h0 : x0 ≤ 8) (h1 : x1 ≤ 8) (h2 : x2 ≤ 8) (h3 : x3 ≤ 8) (h4 : x4 ≤ 8) (h5 : x5 ≤ 8) (h6 : x6 ≤ 8) (h7 : x7 ≤ 8) {z c d : Nat} (hz : z = eight x0 x1 x2 x3 x4 x5 x6 x7) (hc : c = z + z / 256) (hd : d = c + c / 256 / 256) :
    (d + d / 256 / 256 / 256 / 256) % 128 = x0 + x1 + x2 + x3 + x4 + x5 + x6 + x7 ∧ d + d / 256 / 256 / 256 / 256 < 18446744073709551616 ∧ d < 18446744073709551616 ∧ c < 18446744073709551616 := by
  rw [hz, eight_div1 _ _ _ _ _ _ _ _ (by omega), eight_add] at hc
  rw [hc, eight_div1 _ _ _ _ _ _ _ _ (by omega), eight_div1 _ _ _ _ _ _ _ _ (by omega), eight_add] at hd
  obtain ⟨f, e⟩ : ∃ f, d + d / 256 / 256 / 256 / 256 = f := ⟨_, rfl⟩
  rw [e]
  rw [hd, eight_div1 _ _ _ _ _ _ _ _ (by omega), eight_div1 _ _ _ _ _ _ _ _ (by omega), eight_div1 _ _ _ _ _ _ _ _ (by omega), eight_div1 _ _ _ _ _ _ _ _ (by omega), eight_add] at e
  clear hz
  refine ⟨?_, ?_, ?_, ?_⟩
  · rw [← e]
    unfold eight
    rw [show ∀ a b : Nat, a + 256 * b = a + 128 * (2 * b) from fun a b => by omega, Nat.add_mul_mod_self_left, Nat.mod_eq_of_lt (by omega)]
    omega
  · rw [← e]; exact eight_lt _ _ _ _ _ _ _ _ (by omega) (by omega) (by omega) (by omega) (by omega) (by omega) (by omega) (by omega)
  · rw [hd]; exact eight_lt _ _ _ _ _ _ _ _ (by omega) (by omega) (by omega) (by omega) (by omega) (by omega) (by omega) (by omega)
  · rw [hc]; exact eight_lt _ _ _ _ _ _ _ _ (by omega) (by omega) (by omega) (by omega) (by omega) (by omega) (by omega) (by omega)
theorem last_sum {z : Nat} (h : Small 256 8 8 z) (hz : z < 2 ^ 64) {c d : Nat} (hc : c = z + z / 256) (hd : d = c + c / 65536) :
    (d + d / 4294967296) % 128 = Dg 256 8 z ∧ d + d / 4294967296 < 18446744073709551616 ∧ d < 18446744073709551616 ∧ c < 18446744073709551616 := by
  obtain ⟨h0, h1, h2, h3, h4, h5, h6, h7, _⟩ := h
  have hd' : d = c + c / 256 / 256 := by rw [hd, Nat.div_div_eq_div_mul]
  have := last_eight _ _ _ _ _ _ _ _ h0 h1 h2 h3 h4 h5 h6 h7 (eight_of hz) hc hd'
  rw [show d / 4294967296 = d / 256 / 256 / 256 / 256 by simp only [Nat.div_div_eq_div_mul]]
  refine ⟨?_, this.2⟩
  rw [this.1]
  simp only [Dg]
  omega
end Go.Ab.Pop


/- A row of numbers by its bits, level by level. Plain Lean, no program. -/
namespace Go.Ab.Bs
open Go.Ab.Wd
set_option linter.unusedVariables false
set_option linter.unusedSimpArgs false
/-- The bit k of a number. -/
def bitb (k : Nat) (x : Int) : Bool := decide (x.toNat / 2 ^ k % 2 = 1)
def low (k : Nat) (l : List Int) : List Int := l.filter fun x => !bitb k x
def high (k : Nat) (l : List Int) : List Int := l.filter (bitb k)
def down (k : Nat) (l : List Int) : List Int := low k l ++ high k l
/-- The bits of the levels, from the highest one on. -/
def levels : Nat → List Int → List (List Bool)
  | 0, _ => []
  | k + 1, l => l.map (bitb k) :: levels k (down k l)
theorem low_length (k : Nat) (l : List Int) : (low k l).length + (high k l).length = l.length := by
  induction l with
  | nil => rfl
  | cons x l ih =>
    unfold low high at ih ⊢
    cases h : bitb k x <;> simp [h] <;> omega
theorem down_length (k : Nat) (l : List Int) : (down k l).length = l.length := by unfold down; rw [List.length_append, low_length]
theorem down_mem {k : Nat} {l : List Int} {x : Int} : x ∈ down k l ↔ x ∈ l := by
  unfold down low high
  rw [List.mem_append, List.mem_filter, List.mem_filter]
  cases h : bitb k x <;> simp
/-- The row ahead of a level: row w l w = l, row w l k: what is behind the levels w-1 .. k. -/
def rowAt : Nat → List Int → Nat → List Int
  | 0, l, _ => l
  | w + 1, l, k => if k = w + 1 then l else rowAt w (down w l) k
theorem rowAt_top (w : Nat) (l : List Int) : rowAt w l w = l := by cases w <;> simp [rowAt]
theorem rowAt_step : ∀ (w : Nat) (l : List Int) (k : Nat), k < w → rowAt w l k = down k (rowAt w l (k + 1))
  | 0, _, _, h => by omega
  | w + 1, l, k, h => by
    by_cases c : k = w
    · subst c
      rw [rowAt, if_neg (by omega), rowAt_top, rowAt, if_pos rfl]
    · rw [rowAt, if_neg (by omega), rowAt, if_neg (by omega)]
      exact rowAt_step w _ k (by omega)
theorem rowAt_length (w : Nat) (l : List Int) (k : Nat) : (rowAt w l k).length = l.length := by
  induction w generalizing l with
  | zero => rfl
  | succ w ih =>
    rw [rowAt]
    split
    · rfl
    · rw [ih, down_length]
theorem rowAt_mem (w : Nat) (l : List Int) (k : Nat) (x : Int) : x ∈ rowAt w l k ↔ x ∈ l := by
  induction w generalizing l with
  | zero => rfl
  | succ w ih =>
    rw [rowAt]
    split
    · rfl
    · rw [ih, down_mem]
/-! ### parts of a row -/
/-- A part stands in a row from a place on. -/
def Part (r : List Int) (a : Nat) (s : List Int) : Prop := ∃ x y, r = x ++ s ++ y ∧ x.length = a
theorem Part.le {r s : List Int} {a : Nat} (h : Part r a s) : a + s.length ≤ r.length := by obtain ⟨x, y, rfl, rfl⟩ := h; simp
theorem Part.get {r s : List Int} {a i : Nat} (h : Part r a s) (hi : i < s.length) : r[a + i]? = s[i]? := by
  obtain ⟨x, y, rfl, rfl⟩ := h
  rw [List.append_assoc, List.getElem?_append_right (by omega), Nat.add_sub_cancel_left, List.getElem?_append_left hi]
theorem Part.of_take {r : List Int} {a b : Nat} (hab : a ≤ b) (hb : b ≤ r.length) : Part r a ((r.take b).drop a) :=
  ⟨r.take a, r.drop b, by
    have e1 : r.take b = r.take a ++ (r.take b).drop a := by
      conv => lhs; rw [← List.take_append_drop a (r.take b)]
      rw [List.take_take, Nat.min_eq_left hab]
    rw [← e1, List.take_append_drop], by simp; omega⟩
/-- How many ones, noughts stand ahead of a place. -/
def onesTo (b : List Bool) (i : Nat) : Nat := ((b.take i).filter id).length
def zerosTo (b : List Bool) (i : Nat) : Nat := min i b.length - onesTo b i
theorem onesTo_map (k : Nat) (r : List Int) (i : Nat) : onesTo (r.map (bitb k)) i = (high k (r.take i)).length := by
  unfold onesTo high
  rw [← List.map_take, List.filter_map, List.length_map]; rfl
theorem zerosTo_map (k : Nat) (r : List Int) (i : Nat) : zerosTo (r.map (bitb k)) i = (low k (r.take i)).length := by
  unfold zerosTo
  rw [onesTo_map, List.length_map]
  have := low_length k (r.take i)
  rw [List.length_take] at this
  omega
/-- Where a place of a level leads. -/
def goto (b : List Bool) (i : Nat) (one : Bool) : Nat := if one = true then zerosTo b b.length + onesTo b i else zerosTo b i
theorem Part.down {r s : List Int} {a : Nat} (h : Part r a s) (k : Nat) (one : Bool) :
    Part (down k r) (goto (r.map (bitb k)) a one) (s.filter fun x => bitb k x == one) ∧
      goto (r.map (bitb k)) (a + s.length) one = goto (r.map (bitb k)) a one + (s.filter fun x => bitb k x == one).length := by
  obtain ⟨x, y, rfl, rfl⟩ := h
  have e1 : (x ++ s ++ y).take x.length = x := by rw [List.append_assoc, List.take_left']; rfl
  have e2 : (x ++ s ++ y).take (x.length + s.length) = x ++ s := by rw [List.take_left']; simp
  cases one with
  | false =>
    simp only [goto, Bool.false_eq_true, if_false, zerosTo_map, e1, e2]
    have hl : (s.filter fun x => bitb k x == false) = low k s := by unfold low; congr 1; funext z; cases bitb k z <;> rfl
    rw [hl]
    refine ⟨⟨low k x, low k y ++ high k (x ++ s ++ y), by simp [Bs.down, low], rfl⟩, by simp [low]⟩
  | true =>
    simp only [goto, if_true, zerosTo_map, onesTo_map, e1, e2, List.length_map, List.take_length]
    have hl : (s.filter fun x => bitb k x == true) = high k s := by unfold high; congr 1; funext z; cases bitb k z <;> rfl
    rw [hl]
    refine ⟨⟨low k (x ++ s ++ y) ++ high k x, high k y, by simp [Bs.down, high], by simp⟩, by simp [high]; omega⟩
/-- The upper bits agree. -/
def alike (k : Nat) (c x : Int) : Bool := decide (x.toNat / 2 ^ k = c.toNat / 2 ^ k)
theorem alike_step (k : Nat) (c x : Int) : alike k c x = (alike (k + 1) c x && (bitb k x == bitb k c)) := by
  unfold alike bitb
  have e1 : x.toNat / 2 ^ (k + 1) = x.toNat / 2 ^ k / 2 := by rw [Nat.pow_succ, Nat.div_div_eq_div_mul]
  have e2 : c.toNat / 2 ^ (k + 1) = c.toNat / 2 ^ k / 2 := by rw [Nat.pow_succ, Nat.div_div_eq_div_mul]
  rw [e1, e2]
  generalize x.toNat / 2 ^ k = u
  generalize c.toNat / 2 ^ k = v
  have : (decide (u % 2 = 1) == decide (v % 2 = 1)) = decide (u % 2 = v % 2) := by
    rcases Nat.mod_two_eq_zero_or_one u with h1 | h1 <;> rcases Nat.mod_two_eq_zero_or_one v with h2 | h2 <;> simp [h1, h2]
  rw [this, ← Bool.decide_and]
  congr 1
  exact propext (by omega)
/-- Going down along the bits of c: what is left of a part is what agrees with c. -/
theorem Part.path {w : Nat} {l s : List Int} {a k : Nat} {c : Int} (hk : k < w) (h : Part (rowAt w l (k + 1)) a (s.filter (alike (k + 1) c))) :
    Part (rowAt w l k) (goto ((rowAt w l (k + 1)).map (bitb k)) a (bitb k c)) (s.filter (alike k c)) ∧
      goto ((rowAt w l (k + 1)).map (bitb k)) (a + (s.filter (alike (k + 1) c)).length) (bitb k c) = goto ((rowAt w l (k + 1)).map (bitb k)) a (bitb k c) + (s.filter (alike k c)).length := by
  have h1 := h.down k (bitb k c)
  rw [List.filter_filter] at h1
  have e : (fun a => (bitb k a == bitb k c) && alike (k + 1) c a) = alike k c := by funext x; rw [alike_step k c x, Bool.and_comm]
  rw [e] at h1
  rw [rowAt_step w l k hk]
  exact h1
end Go.Ab.Bs


/- The count of ones of a word; numbers of words. -/
namespace Go.Ab
open Go Go.Proofs Go.Ab.Wd Go.Ab.Bs Go.Ab.Sai
set_option linter.unusedVariables false
set_option linter.unusedSimpArgs false
theorem wrapu64 {x : Int} (h0 : 0 ≤ x) (h1 : x < 18446744073709551616) : IntKind.wrap .u64 x = x := by
  unfold IntKind.wrap
  have e2 : (2 : Int) ^ IntKind.u64.bits = 18446744073709551616 := by decide
  simp [e2, IntKind.signed]; omega
theorem and_u64 {a b : Nat} (ha : a < 18446744073709551616) (hb : b < 18446744073709551616) : bitOp .and .u64 (a : Int) (b : Int) = ((a &&& b : Nat) : Int) := by
  have e : IntKind.u64.bits = 64 := by decide
  have h : a &&& b < 18446744073709551616 := Nat.lt_of_le_of_lt Nat.and_le_left ha
  unfold bitOp; simp only [e, BitVec.ofInt_natCast, BitVec.toNat_and, BitVec.toNat_ofNat]
  rw [Nat.mod_eq_of_lt (by simpa using ha), Nat.mod_eq_of_lt (by simpa using hb), wrapu64 (by omega) (by omega)]
theorem or_u64 {a b : Nat} (ha : a < 18446744073709551616) (hb : b < 18446744073709551616) : bitOp .or .u64 (a : Int) (b : Int) = ((a ||| b : Nat) : Int) := by
  have e : IntKind.u64.bits = 64 := by decide
  have h : a ||| b < 2 ^ 64 := Nat.or_lt_two_pow (by simpa using ha) (by simpa using hb)
  unfold bitOp; simp only [e, BitVec.ofInt_natCast, BitVec.toNat_or, BitVec.toNat_ofNat]
  rw [Nat.mod_eq_of_lt (by simpa using ha), Nat.mod_eq_of_lt (by simpa using hb), wrapu64 (by omega) (by omega)]
theorem shr_u64 {a s : Nat} (hs : s ≤ 64) : shrI .u64 (a : Int) (s : Int) = ((a / 2 ^ s : Nat) : Int) := by
  have e : IntKind.u64.bits = 64 := by decide
  unfold shrI
  rw [e, Int.toNat_natCast, Nat.min_eq_left hs, Int.fdiv_eq_ediv_of_nonneg _ (Int.le_of_lt (Int.pow_pos (by omega)))]
  simp
theorem wrap_bits (s : Nat) : BitVec.ofInt 64 (IntKind.wrap .i64 (s : Int)) = BitVec.ofNat 64 s := by
  apply BitVec.eq_of_toNat_eq
  rw [BitVec.toNat_ofInt, BitVec.toNat_ofNat]
  unfold IntKind.wrap
  have e1 : (2 : Int) ^ IntKind.i64.bits = 18446744073709551616 := by decide
  have e3 : (2 : Int) ^ (IntKind.i64.bits - 1) = 9223372036854775808 := by decide
  simp only [e1, e3, IntKind.signed]
  simp
  split <;> omega
theorem and_127 {s : Nat} : bitOp .and .i64 (IntKind.wrap .i64 (s : Int)) 127 = ((s % 128 : Nat) : Int) := by
  have e : IntKind.i64.bits = 64 := by decide
  show IntKind.wrap .i64 (BitVec.ofInt 64 (IntKind.wrap .i64 (s : Int)) &&& BitVec.ofInt 64 127).toNat = _
  rw [wrap_bits]
  have h : (BitVec.ofNat 64 s &&& BitVec.ofInt 64 127).toNat = s % 128 := by
    rw [BitVec.toNat_and, BitVec.toNat_ofNat, show (BitVec.ofInt 64 127).toNat = 2 ^ 7 - 1 by decide, Nat.and_two_pow_sub_one_eq_mod]
    omega
  rw [h, wrap64 (by omega) (by omega)]
theorem count_run (σ : Store) {x : Nat} (hx : x < 2 ^ 64) : Runs Try.prog 59 [.int .u64 x] σ (.int .i64 (Pop.pop 64 x : Nat)) σ := by
  refine Runs.intro (fn := Try.f59) (by kernel_rfl) (by kernel_rfl) (Ev.of fun k => ?_)
  rw [f59_eq]
  obtain ⟨F1, F2, F3⟩ := Pop.fold64_spec x hx
  obtain ⟨a, ha⟩ : ∃ a, a = (x / 2 &&& 0x5555555555555555) + (x &&& 0x5555555555555555) := ⟨_, rfl⟩
  obtain ⟨b, hb⟩ : ∃ b, b = (a / 4 &&& 0x3333333333333333) + (a &&& 0x3333333333333333) := ⟨_, rfl⟩
  obtain ⟨z, hz⟩ : ∃ z, z = (b / 16 + b) &&& 0x0f0f0f0f0f0f0f0f := ⟨_, rfl⟩
  have ez : Pop.fold64 x = z := by rw [hz, hb, ha]; rfl
  rw [ez] at F1 F2 F3
  obtain ⟨c, hc⟩ : ∃ c, c = z + z / 256 := ⟨_, rfl⟩
  obtain ⟨d, hd⟩ : ∃ d, d = c + c / 65536 := ⟨_, rfl⟩
  obtain ⟨L1, L2, L3, L4⟩ := Pop.last_sum F1 F3 hc hd
  have a1 : x / 2 &&& 0x5555555555555555 ≤ 0x5555555555555555 := Nat.and_le_right
  have a2 : x &&& 0x5555555555555555 ≤ 0x5555555555555555 := Nat.and_le_right
  have b1 : a / 4 &&& 0x3333333333333333 ≤ 0x3333333333333333 := Nat.and_le_right
  have b2 : a &&& 0x3333333333333333 ≤ 0x3333333333333333 := Nat.and_le_right
  have s1 : shrI .u64 (x : Int) 1 = ((x / 2 : Nat) : Int) := shr_u64 (s := 1) (by omega)
  have s2 : shrI .u64 (a : Int) 2 = ((a / 4 : Nat) : Int) := shr_u64 (s := 2) (by omega)
  have s4 : shrI .u64 (b : Int) 4 = ((b / 16 : Nat) : Int) := shr_u64 (s := 4) (by omega)
  have s8 : shrI .u64 (z : Int) 8 = ((z / 256 : Nat) : Int) := shr_u64 (s := 8) (by omega)
  have s16 : shrI .u64 (c : Int) 16 = ((c / 65536 : Nat) : Int) := shr_u64 (s := 16) (by omega)
  have s32 : shrI .u64 (d : Int) 32 = ((d / 4294967296 : Nat) : Int) := shr_u64 (s := 32) (by omega)
  have e1 : IntKind.wrap .u64 (bitOp .and .u64 (shrI .u64 (x : Int) 1) 6148914691236517205 + bitOp .and .u64 (x : Int) 6148914691236517205) = (a : Int) := by
    have q1 : bitOp .and .u64 ((x / 2 : Nat) : Int) 6148914691236517205 = ((x / 2 &&& 0x5555555555555555 : Nat) : Int) := and_u64 (b := 6148914691236517205) (by omega) (by omega)
    have q2 : bitOp .and .u64 (x : Int) 6148914691236517205 = ((x &&& 0x5555555555555555 : Nat) : Int) := and_u64 (b := 6148914691236517205) (by omega) (by omega)
    rw [s1, q1, q2, wrapu64 (by omega) (by omega), ha]; omega
  have e2 : IntKind.wrap .u64 (bitOp .and .u64 (shrI .u64 (a : Int) 2) 3689348814741910323 + bitOp .and .u64 (a : Int) 3689348814741910323) = (b : Int) := by
    have q1 : bitOp .and .u64 ((a / 4 : Nat) : Int) 3689348814741910323 = ((a / 4 &&& 0x3333333333333333 : Nat) : Int) := and_u64 (b := 3689348814741910323) (by omega) (by omega)
    have q2 : bitOp .and .u64 (a : Int) 3689348814741910323 = ((a &&& 0x3333333333333333 : Nat) : Int) := and_u64 (b := 3689348814741910323) (by omega) (by omega)
    rw [s2, q1, q2, wrapu64 (by omega) (by omega), hb]; omega
  have e3 : bitOp .and .u64 (IntKind.wrap .u64 (shrI .u64 (b : Int) 4 + (b : Int))) 1085102592571150095 = (z : Int) := by
    rw [s4, wrapu64 (by omega) (by omega), ← Int.natCast_add, hz]
    exact and_u64 (b := 1085102592571150095) (by omega) (by omega)
  have e4 : IntKind.wrap .u64 ((z : Int) + shrI .u64 (z : Int) 8) = (c : Int) := by rw [s8, wrapu64 (by omega) (by omega)]; omega
  have e5 : IntKind.wrap .u64 ((c : Int) + shrI .u64 (c : Int) 16) = (d : Int) := by rw [s16, wrapu64 (by omega) (by omega)]; omega
  have e6 : IntKind.wrap .u64 ((d : Int) + shrI .u64 (d : Int) 32) = ((d + d / 4294967296 : Nat) : Int) := by rw [s32, wrapu64 (by omega) (by omega)]; omega
  simp only [e1, e2, e3, e4, e5, e6, and_127]
  rw [L1, F2]
end Go.Ab


/- Bits in words. -/
namespace Go.Ab.Bs
open Go.Ab.Wd
set_option linter.unusedVariables false
set_option linter.unusedSimpArgs false
/-- A bit at a place; past the end: none. -/
def bitAt (B : List Bool) (i : Nat) : Bool := B[i]?.getD false
theorem onesTo_succ (B : List Bool) (i : Nat) : onesTo B (i + 1) = onesTo B i + if bitAt B i = true then 1 else 0 := by
  unfold onesTo bitAt
  rw [List.take_add_one]
  cases h : B[i]? with
  | none => simp
  | some b => cases b <;> simp
theorem onesTo_zero (B : List Bool) : onesTo B 0 = 0 := by simp [onesTo]
theorem onesTo_le (B : List Bool) (i : Nat) : onesTo B i ≤ i := by
  unfold onesTo; have := List.length_filter_le id (B.take i); rw [List.length_take] at this; omega
theorem onesTo_len (B : List Bool) (i : Nat) : onesTo B i ≤ B.length := by
  unfold onesTo; have := List.length_filter_le id (B.take i); rw [List.length_take] at this; omega
theorem onesTo_ge (B : List Bool) {i : Nat} (h : B.length ≤ i) : onesTo B i = onesTo B B.length := by
  unfold onesTo; rw [List.take_of_length_le h, List.take_of_length_le (Nat.le_refl _)]
theorem pop_succ : ∀ (s x : Nat), Pop.pop (s + 1) x = Pop.pop s x + if x.testBit s = true then 1 else 0
  | 0, x => by
    simp only [Pop.pop, Nat.add_zero, Nat.zero_add, Nat.testBit_zero]
    rcases Nat.mod_two_eq_zero_or_one x with h | h <;> simp [h]
  | s + 1, x => by
    rw [Pop.pop, pop_succ s (x / 2), Pop.pop, Nat.testBit_succ]; omega
/-- Words hold bits. -/
structure WB (B : List Bool) (ws : List Int) : Prop where
  len : ws.length = (B.length + 63) / 64
  bit : ∀ j : Nat, j < ws.length → ∃ x : Nat, rd ws j = x ∧ x < 2 ^ 64 ∧ ∀ b, b < 64 → x.testBit b = bitAt B (64 * j + b)
theorem ones_pop {B : List Bool} {x j : Nat} (h : ∀ b, b < 64 → x.testBit b = bitAt B (64 * j + b)) : ∀ s, s ≤ 64 → onesTo B (64 * j + s) = onesTo B (64 * j) + Pop.pop s x
  | 0, _ => by simp [Pop.pop]
  | s + 1, hs => by
    rw [← Nat.add_assoc, onesTo_succ, ones_pop h s (by omega), pop_succ, h s (by omega)]; omega
theorem pop_low {x s : Nat} : ∀ t, Pop.pop t (x &&& (2 ^ s - 1)) = Pop.pop (min t s) x
  | 0 => by simp [Pop.pop]
  | t + 1 => by
    rw [pop_succ, pop_low t, Nat.testBit_and, Nat.testBit_two_pow_sub_one]
    by_cases c : t < s
    · rw [show min (t + 1) s = min t s + 1 by omega, pop_succ, show min t s = t by omega]; simp [c]
    · rw [show min (t + 1) s = min t s by omega]; simp [c]
/-- Sums ahead of blocks. -/
structure AH (B : List Bool) (ws ah : List Int) : Prop where
  len : ah.length = (ws.length + 7) / 8
  val : ∀ j : Nat, j < ah.length → rd ah j = (onesTo B (512 * j) : Nat)
theorem testBit_div (x s : Nat) : x.testBit s = decide (x / 2 ^ s % 2 = 1) := Nat.testBit_eq_decide_div_mod_eq
end Go.Ab.Bs


/- A list of bits with its counts: rank, at. -/
namespace Go.Ab
open Go Go.Proofs Go.Ab.Wd Go.Ab.Bs Go.Ab.Sai
set_option linter.unusedVariables false
set_option linter.unusedSimpArgs false
section
variable {σ : Store} {b es o : Nat} {l : List AV}
theorem row_int {k : IntKind} {x : Int} (r : σ.Row b es l) (h : l[o]? = some (.int k x)) : σ.ldInt k (Ptr.add (some (b, 0)) o) = some x := by
  simp only [Store.ldInt, Ptr.add, Option.map_some, r.cell, Nat.zero_add, h, if_true]
theorem row_sl {x : Hdl} (r : σ.Row b es l) (h : l[o]? = some (.slice x)) : σ.ldSl (Ptr.add (some (b, 0)) o) = some x := by
  simp only [Store.ldSl, Ptr.add, Option.map_some, r.cell, Nat.zero_add, h]
end
/-- A list of bits in memory. -/
structure Vec (σ : Store) (p : Ptr) (B : List Bool) : Prop where
  ex : ∃ b hw ha ws ah, p = some (b, 0) ∧ σ.Row b 4 [.int .i64 B.length, .slice hw, .slice ha, .int .i64 (onesTo B B.length : Nat)] ∧ Store.Nums .u64 σ hw ws ∧ σ.Ints ha ah ∧ WB B ws ∧ AH B ws ah
  small : B.length < 2 ^ 30
theorem Vec.kp {σ σ' : Store} {p : Ptr} {B : List Bool} (v : Vec σ p B) (k : Kp σ.objs.length σ σ') : Vec σ' p B := by
  obtain ⟨b, hw, ha, ws, ah, rfl, R, W, A, wb, ab⟩ := v.ex
  exact ⟨⟨b, hw, ha, ws, ah, rfl, R.kp k R.lt, Store.Sl.kp W k, Store.Sl.kp A k, wb, ab⟩, v.small⟩
/-- The rows of a list of bits are among some. -/
structure VecF (σ : Store) (p : Ptr) (B : List Bool) (F : Nat → Prop) : Prop where
  ex : ∃ b hw ha ws ah, p = some (b, 0) ∧ σ.Row b 4 [.int .i64 B.length, .slice hw, .slice ha, .int .i64 (onesTo B B.length : Nat)] ∧ Store.Nums .u64 σ hw ws ∧ σ.Ints ha ah ∧ WB B ws ∧ AH B ws ah ∧ F b ∧ (∀ x, hw.row = some x → F x) ∧ ∀ x, ha.row = some x → F x
  small : B.length < 2 ^ 30
theorem VecF.vec {σ : Store} {p : Ptr} {B : List Bool} {F : Nat → Prop} (v : VecF σ p B F) : Vec σ p B := by
  obtain ⟨b, hw, ha, ws, ah, rfl, R, W, A, wb, ab, _, _, _⟩ := v.ex
  exact ⟨⟨b, hw, ha, ws, ah, rfl, R, W, A, wb, ab⟩, v.small⟩
theorem VecF.keep {σ σ' : Store} {p : Ptr} {B : List Bool} {F : Nat → Prop} (v : VecF σ p B F) (k : ∀ x, F x → σ'.objs[x]? = σ.objs[x]?) : VecF σ' p B F := by
  obtain ⟨b, hw, ha, ws, ah, rfl, R, W, A, wb, ab, f1, f2, f3⟩ := v.ex
  exact ⟨⟨b, hw, ha, ws, ah, rfl, (k b f1).trans R, W.keep fun c o e => k c (f2 c (by simp [Hdl.row, e])), A.keep fun c o e => k c (f3 c (by simp [Hdl.row, e])), wb, ab, f1, f2, f3⟩, v.small⟩
section
variable {σ : Store} {p : Ptr} {B : List Bool}
theorem vec_len (v : Vec σ p B) : Runs Try.prog 83 [.ptr p] σ (.int .i64 B.length) σ := by
  obtain ⟨b, hw, ha, ws, ah, rfl, R, W, A, wb, ab⟩ := v.ex
  have e0 := row_int R (o := 0) rfl
  refine Runs.intro (fn := Try.f83) (by kernel_rfl) (by kernel_rfl) (Ev.of fun k => ?_)
  rw [f83_eq]
  simp only [Option.bind_some, decide_eq_true_eq, decide_eq_false_iff_not, Bool.not_eq_true', Bool.not_true, Bool.not_false, Bool.false_eq_true, Bool.true_eq_false, Bool.not_eq_eq_eq_not, beq_self_eq_true, beqFT, beqTF, decide_true, decide_false, not_false_eq_true, not_true_eq_false, ne_eq, true_and, and_true, false_and, and_false, and_self, if_true, if_false, ite_true, ite_false, Bool.and_true, Bool.and_false, Bool.true_and, Bool.false_and, Bool.or_true, Bool.true_or, Bool.or_false, Bool.false_or, or_true, true_or, or_false, false_or, or_self, AV.asInt, AV.asBool, AV.asSl, AV.asPtr, AV.asFn, AV.asStr, AV.asMap, AV.asIfc, AV.item, List.length_cons, List.length_nil, List.getElem?_cons_zero, List.getElem?_cons_succ, Nat.zero_add, Option.isNone_some, e0]
theorem idiv64 {i : Int} (h0 : 0 ≤ i) (h1 : i < 2 ^ 62) : IntKind.wrap .i64 (Int.tdiv i 64) = (i.toNat / 64 : Nat) ∧ Int.tmod i 64 = (i.toNat % 64 : Nat) := by
  rw [Int.tdiv_eq_ediv_of_nonneg h0, Int.tmod_eq_emod_of_nonneg h0, wrap64 (by omega) (by omega)]
  omega
theorem vec_at (v : Vec σ p B) (i : Int) : Runs Try.prog 41 [.ptr p, .int .i64 i] σ (.bool (decide (0 ≤ i) && bitAt B i.toNat)) σ := by
  obtain ⟨b, hw, ha, ws, ah, rfl, R, W, A, wb, ab⟩ := v.ex
  have sm := v.small
  have e0 := row_int R (o := 0) rfl
  have e1 := row_sl R (o := 1) rfl
  refine Runs.intro (fn := Try.f41) (by kernel_rfl) (by kernel_rfl) (Ev.of fun k => ?_)
  rw [f41_eq]
  by_cases c0 : 0 ≤ i
  · by_cases c1 : i < B.length
    · obtain ⟨d1, d2⟩ := idiv64 c0 (by omega)
      have lw := nums_len W
      have wl := wb.len
      have j1 : i.toNat / 64 < ws.length := by omega
      obtain ⟨x, x1, x2, x3⟩ := wb.bit _ j1
      have rx := nums_rd W (i := (i.toNat / 64 : Nat)) (by omega) (by omega)
      have c2 : (0 : Int) ≤ (i.toNat / 64 : Nat) := by omega
      have c3 : ((i.toNat / 64 : Nat) : Int) < hw.len := by omega
      have c4 : (0 : Int) ≤ (i.toNat % 64 : Nat) := by omega
      have q1 : shrI .u64 (x : Int) (i.toNat % 64 : Nat) = ((x / 2 ^ (i.toNat % 64) : Nat) : Int) := shr_u64 (by omega)
      have q2 : x / 2 ^ (i.toNat % 64) < 2 ^ 64 := Nat.lt_of_le_of_lt (Nat.div_le_self _ _) x2
      have q3 : bitOp .and .u64 ((x / 2 ^ (i.toNat % 64) : Nat) : Int) 1 = ((x / 2 ^ (i.toNat % 64) % 2 : Nat) : Int) := by
        rw [← Nat.and_one_is_mod]; exact and_u64 (b := 1) (by omega) (by omega)
      have hb := x3 (i.toNat % 64) (by omega)
      rw [testBit_div, show 64 * (i.toNat / 64) + i.toNat % 64 = i.toNat by omega] at hb
      simp only [Option.bind_some, decide_eq_true_eq, decide_eq_false_iff_not, Bool.not_eq_true', Bool.not_true, Bool.not_false, Bool.false_eq_true, Bool.true_eq_false, Bool.not_eq_eq_eq_not, beq_self_eq_true, beqFT, beqTF, decide_true, decide_false, not_false_eq_true, not_true_eq_false, ne_eq, true_and, and_true, false_and, and_false, and_self, if_true, if_false, ite_true, ite_false, Bool.and_true, Bool.and_false, Bool.true_and, Bool.false_and, Bool.or_true, Bool.true_or, Bool.or_false, Bool.false_or, or_true, true_or, or_false, false_or, or_self, AV.asInt, AV.asBool, AV.asSl, AV.asPtr, AV.asFn, AV.asStr, AV.asMap, AV.asIfc, AV.item, List.length_cons, List.length_nil, List.getElem?_cons_zero, List.getElem?_cons_succ, Nat.zero_add, Option.isNone_some, e0, e1, c0, c1, d1, d2, c2, c3, c4, rx, x1, q1, q3, ← hb]
      have : ((x / 2 ^ (i.toNat % 64) % 2 : Nat) : Int) = 1 ↔ x / 2 ^ (i.toNat % 64) % 2 = 1 := by omega
      simp only [this]
    · have : bitAt B i.toNat = false := by unfold bitAt; rw [List.getElem?_eq_none (by omega)]; rfl
      simp only [Option.bind_some, decide_eq_true_eq, decide_eq_false_iff_not, Bool.not_eq_true', Bool.not_true, Bool.not_false, Bool.false_eq_true, Bool.true_eq_false, Bool.not_eq_eq_eq_not, beq_self_eq_true, beqFT, beqTF, decide_true, decide_false, not_false_eq_true, not_true_eq_false, ne_eq, true_and, and_true, false_and, and_false, and_self, if_true, if_false, ite_true, ite_false, Bool.and_true, Bool.and_false, Bool.true_and, Bool.false_and, Bool.or_true, Bool.true_or, Bool.or_false, Bool.false_or, or_true, true_or, or_false, false_or, or_self, AV.asInt, AV.asBool, AV.asSl, AV.asPtr, AV.asFn, AV.asStr, AV.asMap, AV.asIfc, AV.item, List.length_cons, List.length_nil, List.getElem?_cons_zero, List.getElem?_cons_succ, Nat.zero_add, Option.isNone_some, e0, c0, c1, this]
  · simp only [Option.bind_some, decide_eq_true_eq, decide_eq_false_iff_not, Bool.not_eq_true', Bool.not_true, Bool.not_false, Bool.false_eq_true, Bool.true_eq_false, Bool.not_eq_eq_eq_not, beq_self_eq_true, beqFT, beqTF, decide_true, decide_false, not_false_eq_true, not_true_eq_false, ne_eq, true_and, and_true, false_and, and_false, and_self, if_true, if_false, ite_true, ite_false, Bool.and_true, Bool.and_false, Bool.true_and, Bool.false_and, Bool.or_true, Bool.true_or, Bool.or_false, Bool.false_or, or_true, true_or, or_false, false_or, or_self, AV.asInt, AV.asBool, AV.asSl, AV.asPtr, AV.asFn, AV.asStr, AV.asMap, AV.asIfc, AV.item, List.length_cons, List.length_nil, List.getElem?_cons_zero, List.getElem?_cons_succ, Nat.zero_add, Option.isNone_some, c0]
theorem vec_rank (v : Vec σ p B) (i : Int) : Runs Try.prog 43 [.ptr p, .int .i64 i] σ (.int .i64 (onesTo B i.toNat : Nat)) σ := by
  obtain ⟨b, hw, ha, ws, ah, rfl, R, W, A, wb, ab⟩ := v.ex
  have sm := v.small
  have e0 := row_int R (o := 0) rfl
  have e1 := row_sl R (o := 1) rfl
  have e2 := row_sl R (o := 2) rfl
  have e3 := row_int R (o := 3) rfl
  by_cases c0 : i ≤ 0
  · refine Runs.intro (fn := Try.f43) (by kernel_rfl) (by kernel_rfl) (Ev.of fun k => ?_)
    rw [f43_eq]
    simp only [Option.bind_some, decide_eq_true_eq, decide_eq_false_iff_not, Bool.not_eq_true', Bool.not_true, Bool.not_false, Bool.false_eq_true, Bool.true_eq_false, Bool.not_eq_eq_eq_not, beq_self_eq_true, beqFT, beqTF, decide_true, decide_false, not_false_eq_true, not_true_eq_false, ne_eq, true_and, and_true, false_and, and_false, and_self, if_true, if_false, ite_true, ite_false, Bool.and_true, Bool.and_false, Bool.true_and, Bool.false_and, Bool.or_true, Bool.true_or, Bool.or_false, Bool.false_or, or_true, true_or, or_false, false_or, or_self, AV.asInt, AV.asBool, AV.asSl, AV.asPtr, AV.asFn, AV.asStr, AV.asMap, AV.asIfc, AV.item, List.length_cons, List.length_nil, List.getElem?_cons_zero, List.getElem?_cons_succ, Nat.zero_add, Option.isNone_some, c0]
    rw [show i.toNat = 0 by omega, onesTo_zero]; rfl
  by_cases c1 : (B.length : Int) ≤ i
  · refine Runs.intro (fn := Try.f43) (by kernel_rfl) (by kernel_rfl) (Ev.of fun k => ?_)
    rw [f43_eq]
    simp only [Option.bind_some, decide_eq_true_eq, decide_eq_false_iff_not, Bool.not_eq_true', Bool.not_true, Bool.not_false, Bool.false_eq_true, Bool.true_eq_false, Bool.not_eq_eq_eq_not, beq_self_eq_true, beqFT, beqTF, decide_true, decide_false, not_false_eq_true, not_true_eq_false, ne_eq, true_and, and_true, false_and, and_false, and_self, if_true, if_false, ite_true, ite_false, Bool.and_true, Bool.and_false, Bool.true_and, Bool.false_and, Bool.or_true, Bool.true_or, Bool.or_false, Bool.false_or, or_true, true_or, or_false, false_or, or_self, AV.asInt, AV.asBool, AV.asSl, AV.asPtr, AV.asFn, AV.asStr, AV.asMap, AV.asIfc, AV.item, List.length_cons, List.length_nil, List.getElem?_cons_zero, List.getElem?_cons_succ, Nat.zero_add, Option.isNone_some, c0, e0, c1, e3]
    rw [onesTo_ge B (i := i.toNat) (by omega)]
  obtain ⟨d1, d2⟩ := idiv64 (i := i) (by omega) (by omega)
  obtain ⟨w, hw_⟩ : ∃ w, w = i.toNat / 64 := ⟨_, rfl⟩
  rw [← hw_] at d1
  have lw := nums_len W
  have la := A.ilen
  have wl := wb.len
  have al := ab.len
  have d3 : IntKind.wrap .i64 (Int.tdiv (w : Nat) 8) = (w / 8 : Nat) := by
    rw [Int.tdiv_eq_ediv_of_nonneg (by omega), wrap64 (by omega) (by omega)]; omega
  have d4 : IntKind.wrap .i64 ((w / 8 : Nat) * 8) = (w / 8 * 8 : Nat) := by
    rw [wrap64 (by omega) (by omega)]; omega
  have ra := A.rd (i := (w / 8 : Nat)) (by omega) (by omega)
  rw [ab.val _ (by omega)] at ra
  obtain ⟨r, e, rfl⟩ := EvI.up (f := fun k s => stepF Try.prog (gm Try.prog k) drawn k Try.f43 [1, 1, 1, 1, 1, 0, 1, 0] [7, 6, 5, 1, 0] s) (w - w / 8 * 8)
    (fun t s => s = ([.int .i64 (w / 8 * 8 + t : Nat), .int .i64 (onesTo B (64 * (w / 8 * 8 + t)) : Nat), .int .i64 (w : Nat), .int .i64 i, .ptr (some (b, 0))], σ))
    (fun r => r = (AX.exit 0, [(6, .int .i64 (onesTo B (64 * w) : Nat)), (5, .int .i64 (w : Nat)), (1, .int .i64 i), (0, .ptr (some (b, 0)))], σ))
    (by
      rintro t s ht rfl
      obtain ⟨j, hj⟩ : ∃ j, j = w / 8 * 8 + t := ⟨_, rfl⟩
      rw [← hj, show w / 8 * 8 + (t + 1) = j + 1 by omega]
      have j0 : (0 : Int) ≤ j := by omega
      have j1 : (j : Int) < w := by omega
      have j2 : (j : Int) < hw.len := by omega
      obtain ⟨x, x1, x2, x3⟩ := wb.bit j (by omega)
      have rx := nums_rd W (i := (j : Int)) (by omega) (by omega)
      obtain ⟨n3, r3⟩ := count_run σ x2
      have op := ones_pop x3 64 (Nat.le_refl _)
      have ol := onesTo_le B (64 * j)
      have pl := Pop.pop_le 64 x
      have w1 : IntKind.wrap .i64 ((onesTo B (64 * j) : Nat) + (Pop.pop 64 x : Nat)) = (onesTo B (64 * (j + 1)) : Nat) := by
        rw [wrap64 (by omega) (by omega), show 64 * (j + 1) = 64 * j + 64 by omega, op]; omega
      have w2 : IntKind.wrap .i64 ((j : Int) + 1) = ((j + 1 : Nat) : Int) := by rw [wrap64 (by omega) (by omega)]; omega
      refine ⟨([.int .i64 (j + 1 : Nat), .int .i64 (onesTo B (64 * (j + 1)) : Nat), .int .i64 (w : Nat), .int .i64 i, .ptr (some (b, 0))], σ), ⟨n3, fun k hk => ?_⟩, rfl⟩
      have r3 := r3 k hk
      simp only at r3
      simp only [f43_L11111010]
      simp only [Option.bind_some, decide_eq_true_eq, decide_eq_false_iff_not, Bool.not_eq_true', Bool.not_true, Bool.not_false, Bool.false_eq_true, Bool.true_eq_false, Bool.not_eq_eq_eq_not, beq_self_eq_true, beqFT, beqTF, decide_true, decide_false, not_false_eq_true, not_true_eq_false, ne_eq, true_and, and_true, false_and, and_false, and_self, if_true, if_false, ite_true, ite_false, Bool.and_true, Bool.and_false, Bool.true_and, Bool.false_and, Bool.or_true, Bool.true_or, Bool.or_false, Bool.false_or, or_true, true_or, or_false, false_or, or_self, AV.asInt, AV.asBool, AV.asSl, AV.asPtr, AV.asFn, AV.asStr, AV.asMap, AV.asIfc, AV.item, List.length_cons, List.length_nil, List.getElem?_cons_zero, List.getElem?_cons_succ, Nat.zero_add, j0, j1, j2, e1, rx, x1, r3, w1, w2])
    (by
      rintro s rfl
      rw [show w / 8 * 8 + (w - w / 8 * 8) = w by omega]
      exact ⟨_, Ev.of fun k => by simp only [f43_L11111010]; simp only [Option.bind_some, decide_eq_true_eq, decide_eq_false_iff_not, Bool.not_eq_true', Bool.not_true, Bool.not_false, Bool.false_eq_true, Bool.true_eq_false, Bool.not_eq_eq_eq_not, beq_self_eq_true, beqFT, beqTF, decide_true, decide_false, not_false_eq_true, not_true_eq_false, ne_eq, true_and, and_true, false_and, and_false, and_self, if_true, if_false, ite_true, ite_false, Bool.and_true, Bool.and_false, Bool.true_and, Bool.false_and, Bool.or_true, Bool.true_or, Bool.or_false, Bool.false_or, or_true, true_or, or_false, false_or, or_self, AV.asInt, AV.asBool, AV.asSl, AV.asPtr, AV.asFn, AV.asStr, AV.asMap, AV.asIfc, AV.item, List.length_cons, List.length_nil, List.getElem?_cons_zero, List.getElem?_cons_succ, Nat.zero_add, Int.lt_irrefl], rfl⟩)
    (s := ([.int .i64 (w / 8 * 8 : Nat), .int .i64 (onesTo B (512 * (w / 8)) : Nat), .int .i64 (w : Nat), .int .i64 i, .ptr (some (b, 0))], σ)) (by rw [show 64 * (w / 8 * 8 + 0) = 512 * (w / 8) by omega]; rfl)
  obtain ⟨n1, e⟩ := loopF_ev e
  obtain ⟨x, x1, x2, x3⟩ := wb.bit w (by omega)
  have rx := nums_rd W (i := (w : Int)) (by omega) (by omega)
  have hs : i.toNat % 64 < 64 := Nat.mod_lt _ (by omega)
  have p2 : 2 ^ (i.toNat % 64) ≤ 2 ^ 63 := Nat.pow_le_pow_right (by omega) (by omega)
  have p1 : 1 ≤ 2 ^ (i.toNat % 64) := Nat.one_le_two_pow
  have q1 : IntKind.wrap .u64 (shlI .u64 1 (i.toNat % 64 : Nat) - 1) = ((2 ^ (i.toNat % 64) - 1 : Nat) : Int) := by
    have eb : IntKind.u64.bits = 64 := by decide
    unfold shlI
    rw [eb, Int.toNat_natCast, Nat.min_eq_left (by omega), Int.one_mul]
    have : ((2 : Int) ^ (i.toNat % 64)) = ((2 ^ (i.toNat % 64) : Nat) : Int) := by simp
    rw [this, wrapu64 (x := ((2 ^ (i.toNat % 64) : Nat) : Int)) (by omega) (by omega), wrapu64 (by omega) (by omega)]; omega
  have q2 : bitOp .and .u64 (x : Int) ((2 ^ (i.toNat % 64) - 1 : Nat) : Int) = ((x &&& (2 ^ (i.toNat % 64) - 1) : Nat) : Int) := and_u64 (by omega) (by omega)
  obtain ⟨n2, r2⟩ := count_run σ (x := x &&& (2 ^ (i.toNat % 64) - 1)) (Nat.lt_of_le_of_lt Nat.and_le_left x2)
  have pl := pop_low (x := x) (s := i.toNat % 64) 64
  rw [Nat.min_eq_right (by omega)] at pl
  have op := ones_pop x3 (i.toNat % 64) (by omega)
  have ol := onesTo_le B i.toNat
  rw [show 64 * w + i.toNat % 64 = i.toNat by omega] at op
  have w1 : IntKind.wrap .i64 ((onesTo B (64 * w) : Nat) + (Pop.pop 64 (x &&& (2 ^ (i.toNat % 64) - 1)) : Nat)) = (onesTo B i.toNat : Nat) := by
    rw [pl, wrap64 (by omega) (by omega), op]; omega
  have c2 : (0 : Int) ≤ (w / 8 : Nat) := by omega
  have c3 : ((w / 8 : Nat) : Int) < ha.len := by omega
  have c4 : (0 : Int) ≤ (w : Nat) := by omega
  have c5 : ((w : Nat) : Int) < hw.len := by omega
  have c6 : (0 : Int) ≤ (i.toNat % 64 : Nat) := by omega
  refine Runs.intro (fn := Try.f43) (by kernel_rfl) (by kernel_rfl) ⟨n1 + n2, fun k hk => ?_⟩
  have e := e k (by omega)
  have r2 := r2 k (by omega)
  simp only at e r2
  simp only [f43_eq]
  simp only [Option.bind_some, decide_eq_true_eq, decide_eq_false_iff_not, Bool.not_eq_true', Bool.not_true, Bool.not_false, Bool.false_eq_true, Bool.true_eq_false, Bool.not_eq_eq_eq_not, beq_self_eq_true, beqFT, beqTF, decide_true, decide_false, not_false_eq_true, not_true_eq_false, ne_eq, true_and, and_true, false_and, and_false, and_self, if_true, if_false, ite_true, ite_false, Bool.and_true, Bool.and_false, Bool.true_and, Bool.false_and, Bool.or_true, Bool.true_or, Bool.or_false, Bool.false_or, or_true, true_or, or_false, false_or, or_self, AV.asInt, AV.asBool, AV.asSl, AV.asPtr, AV.asFn, AV.asStr, AV.asMap, AV.asIfc, AV.item, List.length_cons, List.length_nil, List.getElem?_cons_zero, List.getElem?_cons_succ, Nat.zero_add, Option.isNone_some, c0, e0, c1, e2, d1, d3, d4, c2, c3, ra, e]
  rw [f43_X11111010_1]
  simp only [Option.bind_some, decide_eq_true_eq, decide_eq_false_iff_not, Bool.not_eq_true', Bool.not_true, Bool.not_false, Bool.false_eq_true, Bool.true_eq_false, Bool.not_eq_eq_eq_not, beq_self_eq_true, beqFT, beqTF, decide_true, decide_false, not_false_eq_true, not_true_eq_false, ne_eq, true_and, and_true, false_and, and_false, and_self, if_true, if_false, ite_true, ite_false, Bool.and_true, Bool.and_false, Bool.true_and, Bool.false_and, Bool.or_true, Bool.true_or, Bool.or_false, Bool.false_or, or_true, true_or, or_false, false_or, or_self, AV.asInt, AV.asBool, AV.asSl, AV.asPtr, AV.asFn, AV.asStr, AV.asMap, AV.asIfc, AV.item, List.length_cons, List.length_nil, List.getElem?_cons_zero, List.getElem?_cons_succ, Nat.zero_add, e1, c4, c5, rx, x1, d2, c6, q1, q2, r2, w1]
theorem mn2_eq (a b : Int) : mn2 a b = min a b := by unfold mn2; split <;> omega
theorem mx2_eq (a b : Int) : mx2 a b = max a b := by unfold mx2; split <;> omega
theorem vec_zeros (v : Vec σ p B) (i : Int) : Runs Try.prog 82 [.ptr p, .int .i64 i] σ (.int .i64 (zerosTo B i.toNat : Nat)) σ := by
  obtain ⟨n1, r1⟩ := vec_len v
  obtain ⟨n2, r2⟩ := vec_rank v i
  have sm := v.small
  have ol := onesTo_le B i.toNat
  have ol2 := onesTo_len B i.toNat
  have w1 : IntKind.wrap .i64 (mx2 (Int.ofNat 0) (mn2 i B.length) - (onesTo B i.toNat : Nat)) = (zerosTo B i.toNat : Nat) := by
    have : mx2 (Int.ofNat 0) (mn2 i B.length) = (min i.toNat B.length : Nat) := by rw [mn2_eq, mx2_eq]; simp only [Int.ofNat_eq_natCast]; omega
    unfold zerosTo
    rw [this, wrap64 (by omega) (by omega)]; omega
  refine Runs.intro (fn := Try.f82) (by kernel_rfl) (by kernel_rfl) ⟨n1 + n2, fun k hk => ?_⟩
  have r1 := r1 k (by omega)
  have r2 := r2 k (by omega)
  simp only at r1 r2
  simp only [f82_eq]
  simp only [Option.bind_some, decide_eq_true_eq, decide_eq_false_iff_not, Bool.not_eq_true', Bool.not_true, Bool.not_false, Bool.false_eq_true, Bool.true_eq_false, Bool.not_eq_eq_eq_not, beq_self_eq_true, beqFT, beqTF, decide_true, decide_false, not_false_eq_true, not_true_eq_false, ne_eq, true_and, and_true, false_and, and_false, and_self, if_true, if_false, ite_true, ite_false, Bool.and_true, Bool.and_false, Bool.true_and, Bool.false_and, Bool.or_true, Bool.true_or, Bool.or_false, Bool.false_or, or_true, true_or, or_false, false_or, or_self, AV.asInt, AV.asBool, AV.asSl, AV.asPtr, AV.asFn, AV.asStr, AV.asMap, AV.asIfc, AV.item, List.length_cons, List.length_nil, List.getElem?_cons_zero, List.getElem?_cons_succ, Nat.zero_add, r1, r2, w1]
theorem down_run (v : Vec σ p B) (i : Int) (one : Bool) : Runs Try.prog 64 [.ptr p, .int .i64 i, .bool one] σ (.int .i64 (goto B i.toNat one : Nat)) σ := by
  obtain ⟨n1, r1⟩ := vec_len v
  obtain ⟨n2, r2⟩ := vec_zeros v B.length
  obtain ⟨n3, r3⟩ := vec_rank v i
  obtain ⟨n4, r4⟩ := vec_zeros v i
  have sm := v.small
  have ol2 := onesTo_len B i.toNat
  refine Runs.intro (fn := Try.f64) (by kernel_rfl) (by kernel_rfl) ⟨n1 + n2 + n3 + n4, fun k hk => ?_⟩
  have r1 := r1 k (by omega)
  have r2 := r2 k (by omega)
  have r3 := r3 k (by omega)
  have r4 := r4 k (by omega)
  simp only [Int.toNat_natCast] at r1 r2 r3 r4
  simp only [f64_eq]
  cases one with
  | false => simp only [Option.bind_some, decide_eq_true_eq, decide_eq_false_iff_not, Bool.not_eq_true', Bool.not_true, Bool.not_false, Bool.false_eq_true, Bool.true_eq_false, Bool.not_eq_eq_eq_not, beq_self_eq_true, beqFT, beqTF, decide_true, decide_false, not_false_eq_true, not_true_eq_false, ne_eq, true_and, and_true, false_and, and_false, and_self, if_true, if_false, ite_true, ite_false, Bool.and_true, Bool.and_false, Bool.true_and, Bool.false_and, Bool.or_true, Bool.true_or, Bool.or_false, Bool.false_or, or_true, true_or, or_false, false_or, or_self, AV.asInt, AV.asBool, AV.asSl, AV.asPtr, AV.asFn, AV.asStr, AV.asMap, AV.asIfc, AV.item, List.length_cons, List.length_nil, List.getElem?_cons_zero, List.getElem?_cons_succ, Nat.zero_add, r4, goto]
  | true =>
    have w1 : IntKind.wrap .i64 ((zerosTo B B.length : Nat) + (onesTo B i.toNat : Nat)) = (zerosTo B B.length + onesTo B i.toNat : Nat) := by
      have : zerosTo B B.length ≤ B.length := by unfold zerosTo; omega
      rw [wrap64 (by omega) (by omega)]; omega
    simp only [Option.bind_some, decide_eq_true_eq, decide_eq_false_iff_not, Bool.not_eq_true', Bool.not_true, Bool.not_false, Bool.false_eq_true, Bool.true_eq_false, Bool.not_eq_eq_eq_not, beq_self_eq_true, beqFT, beqTF, decide_true, decide_false, not_false_eq_true, not_true_eq_false, ne_eq, true_and, and_true, false_and, and_false, and_self, if_true, if_false, ite_true, ite_false, Bool.and_true, Bool.and_false, Bool.true_and, Bool.false_and, Bool.or_true, Bool.true_or, Bool.or_false, Bool.false_or, or_true, true_or, or_false, false_or, or_self, AV.asInt, AV.asBool, AV.asSl, AV.asPtr, AV.asFn, AV.asStr, AV.asMap, AV.asIfc, AV.item, List.length_cons, List.length_nil, List.getElem?_cons_zero, List.getElem?_cons_succ, Nat.zero_add, r1, r2, r3, w1, goto]
end
end Go.Ab


/- Packed bits: New, Set, Words; a list of bits from them. -/
namespace Go.Ab
open Go Go.Proofs Go.Ab.Wd Go.Ab.Bs Go.Ab.Sai
set_option linter.unusedVariables false
set_option linter.unusedSimpArgs false
/-- slices.Clone. -/
theorem clone_fact {σ : Store} {h : Hdl} {l : List AV} {bs : Nat} (s : σ.Sl h 1 l) (hp : σ.prot ≤ σ.objs.length) (ho : l.all AV.one = true) (hb : 0 < bs) (hc : l.length * bs ≤ 140737488355328) :
    ∃ h' σ', Kp σ.objs.length σ σ' ∧ Grow σ' σ.objs.length h' 1 l ∧
      (if Option.isNone (Hdl.a h) = true then some (.slice Hdl.nil, σ) else Option.bind (Store.readSl (σ.push [] 1) h 1) fun x => Option.bind (Store.app (σ.push [] 1) ⟨some (σ.objs.length, 0), 0, some 0⟩ 1 bs x h.len) fun y => some (AV.slice y.1, y.2)) = some (AV.slice h', σ') := by
  by_cases c : Option.isNone (Hdl.a h) = true
  · rw [if_pos c]
    have hl : l = [] := by
      have hlen := s.len
      rcases s.row with h0 | ⟨b, o, cs, rw, e, _⟩
      · rw [h0] at hlen; exact List.length_eq_zero_iff.1 (by omega)
      · rw [e] at c; cases c
    subst hl
    exact ⟨Hdl.nil, σ, Kp.refl _ _, Grow.nil _ _ _, rfl⟩
  · rw [if_neg c]
    obtain ⟨h', σ', e1, e2, k, g⟩ := copy_app s hp ho hb hc
    exact ⟨h', σ', k, g, by rw [e1, Option.bind_some, e2]; rfl⟩
theorem cloneU_run {σ : Store} {h : Hdl} {l : List Int} (s : Store.Nums .u64 σ h l) (hp : σ.prot ≤ σ.objs.length) (hc : l.length < 2 ^ 40) :
    ∃ h' σ', Runs Try.prog 71 [.slice h] σ (.slice h') σ' ∧ Kp σ.objs.length σ σ' ∧ GrowN .u64 σ' σ.objs.length h' l := by
  obtain ⟨h', σ', k, g, e⟩ := clone_fact (bs := 8) s hp (numsL_one _ _) (by omega) (by simp; omega)
  exact ⟨h', σ', Runs.intro (fn := Try.f71) (by kernel_rfl) (by kernel_rfl) (Ev.of fun m => by rw [f71_eq]; exact e), k, g⟩
theorem cloneI_run {σ : Store} {h : Hdl} {l : List Int} (s : σ.Ints h l) (hp : σ.prot ≤ σ.objs.length) (hc : l.length < 2 ^ 40) :
    ∃ h' σ', Runs Try.prog 52 [.slice h] σ (.slice h') σ' ∧ Kp σ.objs.length σ σ' ∧ GrowI σ' σ.objs.length h' l := by
  obtain ⟨h', σ', k, g, e⟩ := clone_fact (bs := 8) s hp (intsL_one _) (by omega) (by simp; omega)
  exact ⟨h', σ', Runs.intro (fn := Try.f52) (by kernel_rfl) (by kernel_rfl) (Ev.of fun m => by rw [f52_eq]; exact e), k, g⟩
def ptrsL (l : List Ptr) : List AV := l.map AV.ptr
@[simp] theorem ptrsL_length (l : List Ptr) : (ptrsL l).length = l.length := by simp [ptrsL]
/-- Packed bits in memory. -/
structure Pk (σ : Store) (L : Nat) (B : List Bool) : Prop where
  ex : ∃ ws, σ.Row L 1 (numsL .u64 ws) ∧ WB B ws
  row : σ.Row (L + 1) 3 [.int .i64 1, .int .i64 B.length, .slice (hdS L ((B.length + 63) / 64))]
theorem need_run (σ : Store) {n : Nat} (hn : n < 2 ^ 40) : Runs Try.prog 53 [.int .i64 1, .int .i64 n] σ (.int .i64 ((n + 63) / 64 : Nat)) σ := by
  refine Runs.intro (fn := Try.f53) (by kernel_rfl) (by kernel_rfl) (Ev.of fun k => ?_)
  rw [f53_eq, Int.one_mul, wrap64 (x := (n : Int)) (by omega) (by omega), wrap64 (x := (n : Int) + 63) (by omega) (by omega), Int.tdiv_eq_ediv_of_nonneg (by omega), wrap64 (by omega) (by omega)]
  congr 3
theorem mask_run (σ : Store) : Runs Try.prog 55 [.int .i64 1] σ (.int .u64 1) σ := by
  refine Runs.intro (fn := Try.f55) (by kernel_rfl) (by kernel_rfl) (Ev.of fun k => ?_)
  have w : IntKind.wrap .i64 (64 - 1) = 63 := by decide
  have e : shrI .u64 18446744073709551615 63 = 1 := (shr_u64 (a := 18446744073709551615) (s := 63) (by omega)).trans (by decide)
  have c : (0 : Int) ≤ 63 := by omega
  rw [f55_eq]
  simp only [w, e, c, if_true]
theorem rd_replicate0 (n : Nat) (j : Nat) : rd (List.replicate n (0 : Int)) j = 0 := by
  unfold rd; simp [List.getD, List.getElem?_replicate]; split <;> rfl
theorem packNew_run {σ : Store} {n : Nat} (hn : n ≤ 4194304) : ∃ σ', Runs Try.prog 33 [.int .i64 1, .int .i64 n] σ (.tuple [.ptr (some (σ.objs.length + 1, 0)), .int .i64 0]) σ' ∧ Kp σ.objs.length σ σ' ∧ σ'.objs.length = σ.objs.length + 2 ∧ Pk σ' σ.objs.length (List.replicate n false) := by
  obtain ⟨k1, r1⟩ := need_run σ (n := n) (by omega)
  have c1 : ¬ (1 : Int) < 1 := by omega
  have c2 : ¬ (64 : Int) < 1 := by omega
  have c3 : ¬ (n : Int) < 0 := by omega
  have c4 : ¬ (4194304 : Int) < n := by omega
  have c5 : (0 : Int) ≤ ((n + 63) / 64 : Nat) := by omega
  have c6 : (((n + 63) / 64 : Nat) : Int) * ((8 : Nat) : Int) ≤ 281474976710656 := by omega
  refine ⟨(σ.push (mkCells [.int .u64 0] ((n + 63) / 64)) 1).push [.int .i64 1, .int .i64 n, .slice (hdS σ.objs.length ((n + 63) / 64))] 3, Runs.intro (fn := Try.f33) (by kernel_rfl) (by kernel_rfl) ⟨k1, fun k hk => ?_⟩, ?_, by simp, ⟨⟨List.replicate ((n + 63) / 64) 0, ?_, ?_⟩, ?_⟩⟩
  · have r1 := r1 k hk
    simp only at r1
    simp only [f33_eq]
    simp only [Option.bind_some, decide_eq_true_eq, decide_eq_false_iff_not, Bool.not_eq_true', Bool.not_true, Bool.not_false, Bool.false_eq_true, Bool.true_eq_false, Bool.not_eq_eq_eq_not, beq_self_eq_true, beqFT, beqTF, decide_true, decide_false, not_false_eq_true, not_true_eq_false, ne_eq, true_and, and_true, false_and, and_false, and_self, if_true, if_false, ite_true, ite_false, Bool.and_true, Bool.and_false, Bool.true_and, Bool.false_and, Bool.or_true, Bool.true_or, Bool.or_false, Bool.false_or, or_true, true_or, or_false, false_or, or_self, AV.asInt, AV.asBool, AV.asSl, AV.asPtr, AV.asFn, AV.asStr, AV.asMap, AV.asIfc, AV.item, List.length_cons, List.length_nil, List.getElem?_cons_zero, List.getElem?_cons_succ, Nat.zero_add, c1, c2, c3, c4, r1, c5, c6, Int.le_refl, Int.toNat_natCast]
    simp [hdS]
  · exact (Kp.push _ _ (Nat.le_refl _)).push' (by simp)
  · rw [← mkCells_num]; exact Store.Row.new.push
  · refine ⟨by simp, fun j hj => ⟨0, rd_replicate0 _ _, by omega, fun b hb => ?_⟩⟩
    simp [bitAt, List.getElem?_replicate]
    split <;> rfl
  · have := (Store.Row.new : ((σ.push (mkCells [.int .u64 0] ((n + 63) / 64)) 1).push [.int .i64 1, .int .i64 n, .slice (hdS σ.objs.length ((n + 63) / 64))] 3).Row _ 3 _)
    simpa using this
/-- A bit is set. -/
theorem setbit {x s : Nat} (hx : x < 2 ^ 64) (hs : s < 64) : ∃ z : Nat, bitOp .or .u64 (bitOp .andNot .u64 (x : Int) ((2 ^ s : Nat) : Int)) ((2 ^ s : Nat) : Int) = z ∧ z < 2 ^ 64 ∧ ∀ b, b < 64 → z.testBit b = (x.testBit b || decide (b = s)) := by
  have p2 : 2 ^ s < 2 ^ 64 := Nat.pow_lt_pow_right (by omega) hs
  obtain ⟨u, hu⟩ : ∃ u, u = (BitVec.ofNat 64 x &&& ~~~BitVec.ofNat 64 (2 ^ s)).toNat := ⟨_, rfl⟩
  have ul : u < 2 ^ 64 := by rw [hu]; exact BitVec.isLt _
  have e1 : bitOp .andNot .u64 (x : Int) ((2 ^ s : Nat) : Int) = (u : Int) := by
    show IntKind.wrap .u64 (BitVec.ofInt 64 (x : Int) &&& ~~~BitVec.ofInt 64 ((2 ^ s : Nat) : Int)).toNat = _
    rw [BitVec.ofInt_natCast, BitVec.ofInt_natCast, ← hu, wrapu64 (by omega) (by omega)]
  refine ⟨u ||| 2 ^ s, by rw [e1, or_u64 (by omega) (by omega)], Nat.or_lt_two_pow ul p2, fun b hb => ?_⟩
  rw [Nat.testBit_or, Nat.testBit_two_pow, hu, BitVec.testBit_toNat, BitVec.getLsbD_and, BitVec.getLsbD_not, BitVec.getLsbD_ofNat, BitVec.getLsbD_ofNat, Nat.testBit_two_pow]
  by_cases c : s = b
  · subst c; simp
  · have c' : ¬ b = s := fun h => c h.symm
    simp [c, c', hb]
theorem Bs.WB.set {B : List Bool} {ws : List Int} (w : WB B ws) {i : Nat} (hi : i < B.length) {x z : Nat} (hx : rd ws (i / 64 : Nat) = x) (hz : z < 2 ^ 64) (hb : ∀ b, b < 64 → z.testBit b = (x.testBit b || decide (b = i % 64))) :
    WB (B.set i true) (ws.set (i / 64) (z : Int)) := by
  refine ⟨by simpa using w.len, fun j hj => ?_⟩
  rw [List.length_set] at hj
  obtain ⟨y, y1, y2, y3⟩ := w.bit j hj
  by_cases c : j = i / 64
  · subst c
    have exy : x = y := by omega
    subst exy
    refine ⟨z, ?_, hz, fun b hb' => ?_⟩
    · rw [rd_getElem (by simpa using hj)]; simp
    · rw [hb b hb', y3 b hb']
      unfold bitAt
      rw [List.getElem?_set]
      by_cases c : b = i % 64
      · rw [if_pos (by omega), if_pos (by omega)]; simp [c]
      · rw [if_neg (by omega)]; simp [c]
  · refine ⟨y, ?_, y2, fun b hb' => ?_⟩
    · rw [rd_getElem (show j < (ws.set (i / 64) (z : Int)).length by rw [List.length_set]; exact hj), List.getElem_set_ne (by omega), ← rd_getElem hj]; exact y1
    · rw [y3 b hb']
      unfold bitAt
      rw [List.getElem?_set, if_neg (by omega)]
theorem set_run {σ : Store} {L : Nat} {B : List Bool} (P : Pk σ L B) (hp : σ.prot ≤ L) {i : Nat} (hi : i < B.length) (hn : B.length < 2 ^ 30) :
    ∃ σ', Runs Try.prog 35 [.ptr (some (L + 1, 0)), .int .i64 i, .int .u64 1] σ (.bool true) σ' ∧ Kp L σ σ' ∧ Off L σ σ' ∧ Pk σ' L (B.set i true) := by
  obtain ⟨ws, W, wb⟩ := P.ex
  have R := P.row
  have e0 := row_int R (o := 0) rfl
  have e1 := row_int R (o := 1) rfl
  have e2 := row_sl R (o := 2) rfl
  obtain ⟨km, rm⟩ := mask_run σ
  have wl := wb.len
  obtain ⟨d1, d2⟩ := idiv64 (i := (i : Int)) (by omega) (by omega)
  rw [Int.toNat_natCast] at d1 d2
  obtain ⟨x, x1, x2, x3⟩ := wb.bit (i / 64) (by omega)
  obtain ⟨z, z1, z2, z3⟩ := setbit (s := i % 64) x2 (Nat.mod_lt _ (by omega))
  have rx := row_rd W (i := (i / 64 : Nat)) (len := (B.length + 63) / 64) (cp := some ((B.length + 63) / 64)) (by omega) (by omega)
  have st := st_nums (x := (z : Int)) (len := (B.length + 63) / 64) (cp := some ((B.length + 63) / 64)) W hp (i := (i / 64 : Nat)) (by omega) (by omega)
  rw [Int.toNat_natCast] at st
  have p2 : 2 ^ (i % 64) ≤ 2 ^ 63 := Nat.pow_le_pow_right (by omega) (by omega)
  have p1 : 1 ≤ 2 ^ (i % 64) := Nat.one_le_two_pow
  have q1 : shlI .u64 1 (i % 64 : Nat) = ((2 ^ (i % 64) : Nat) : Int) := by
    have eb : IntKind.u64.bits = 64 := by decide
    unfold shlI
    rw [eb, Int.toNat_natCast, Nat.min_eq_left (by omega), Int.one_mul]
    have : ((2 : Int) ^ (i % 64)) = ((2 ^ (i % 64) : Nat) : Int) := by simp
    rw [this, wrapu64 (by omega) (by omega)]
  have w1 : IntKind.wrap .i64 ((i : Int) * 1) = i := by rw [Int.mul_one, wrap64 (by omega) (by omega)]
  have w2 : ¬ (64 : Int) < IntKind.wrap .i64 ((i % 64 : Nat) + 1) := by rw [wrap64 (by omega) (by omega)]; omega
  have c0 : ¬ (i : Int) < 0 := by omega
  have c1 : ¬ (B.length : Int) ≤ i := by omega
  have c2 : ¬ (1 : Int) < 1 := by omega
  have c3 : (0 : Int) ≤ (i / 64 : Nat) := by omega
  have c4 : ((i / 64 : Nat) : Int) < ((B.length + 63) / 64 : Nat) := by omega
  have c5 : (0 : Int) ≤ (i % 64 : Nat) := by omega
  obtain ⟨σ', hσ⟩ : ∃ s, s = σ.setO L (.cells (numsL .u64 (ws.set (i / 64) (z : Int))) true 1) := ⟨_, rfl⟩
  have R' : σ'.Row (L + 1) 3 [.int .i64 1, .int .i64 B.length, .slice (hdS L ((B.length + 63) / 64))] := by rw [hσ]; exact R.setO_ne (by omega)
  have e0' := row_int R' (o := 0) rfl
  refine ⟨σ', Runs.intro (fn := Try.f35) (by kernel_rfl) (by kernel_rfl) ⟨km, fun k hk => ?_⟩, ?_, ?_, ⟨⟨ws.set (i / 64) (z : Int), ?_, wb.set hi x1 z2 z3⟩, by simpa using R'⟩⟩
  · have rm := rm k hk
    simp only at rm
    simp only [f35_eq]
    simp only [Option.bind_some, decide_eq_true_eq, decide_eq_false_iff_not, Bool.not_eq_true', Bool.not_true, Bool.not_false, Bool.false_eq_true, Bool.true_eq_false, Bool.not_eq_eq_eq_not, beq_self_eq_true, beqFT, beqTF, decide_true, decide_false, not_false_eq_true, not_true_eq_false, ne_eq, true_and, and_true, false_and, and_false, and_self, if_true, if_false, ite_true, ite_false, Bool.and_true, Bool.and_false, Bool.true_and, Bool.false_and, Bool.or_true, Bool.true_or, Bool.or_false, Bool.false_or, or_true, true_or, or_false, false_or, or_self, AV.asInt, AV.asBool, AV.asSl, AV.asPtr, AV.asFn, AV.asStr, AV.asMap, AV.asIfc, AV.item, List.length_cons, List.length_nil, List.getElem?_cons_zero, List.getElem?_cons_succ, Nat.zero_add, Option.isNone_some, c0, e1, c1, e0, rm, c2, e2, w1, d1, d2, c3, c4, rx, x1, c5, q1, z1, st, ← hσ, e0', w2]
  · rw [hσ]; exact (Kp.refl _ _).setO (Nat.le_refl _)
  · rw [hσ]; exact ⟨rfl, setO_len, fun c hc => by show (σ.objs.set L _)[c]? = _; rw [List.getElem?_set, if_neg (by omega)]⟩
  · rw [hσ]; exact Store.Row.setO_eq W.lt
end Go.Ab


/- A list of bits from packed bits. -/
namespace Go.Ab
open Go Go.Proofs Go.Ab.Wd Go.Ab.Bs Go.Ab.Sai
set_option linter.unusedVariables false
set_option linter.unusedSimpArgs false
theorem callG_same {Γ : Gam} {g : Fun} {args : List AV} {v : AV} {σ : Store} (h : Γ g args { σ with prot := σ.objs.length } = some (v, { σ with prot := σ.objs.length })) : callG Γ true g args σ = some (v, σ) := by
  unfold callG; simp only []; rw [h]; rfl
theorem st_fld {σ : Store} {b es o : Nat} {l : List AV} (r : σ.Row b es l) (hp : σ.prot ≤ b) (h1 : o < l.length) {v : AV} (hv : v.one = true) :
    σ.stL (Ptr.add (some (b, 0)) o) [v] 0 = some (σ.setO b (.cells (l.set o v) true es)) := by
  have := st_cell r hp h1 hv
  simpa [Ptr.add] using this
def aheads (B : List Bool) (i : Nat) : List Int := (List.range ((i + 7) / 8)).map fun j => (onesTo B (512 * j) : Nat)
theorem aheads_length (B : List Bool) (i : Nat) : (aheads B i).length = (i + 7) / 8 := by simp [aheads]
theorem aheads_hit (B : List Bool) {i : Nat} (h : i % 8 = 0) : aheads B (i + 1) = aheads B i ++ [((onesTo B (64 * i) : Nat) : Int)] := by
  unfold aheads
  rw [show (i + 1 + 7) / 8 = (i + 7) / 8 + 1 by omega, List.range_succ, List.map_append]
  simp only [List.map_cons, List.map_nil]
  rw [show 512 * ((i + 7) / 8) = 64 * i by omega]
theorem aheads_miss (B : List Bool) {i : Nat} (h : i % 8 ≠ 0) : aheads B (i + 1) = aheads B i := by
  unfold aheads
  rw [show (i + 1 + 7) / 8 = (i + 7) / 8 by omega]
theorem rankNew_run {σ : Store} {L : Nat} {B : List Bool} (P : Pk σ L B) (hp : σ.prot ≤ σ.objs.length) (hn : B.length < 2 ^ 30) :
    ∃ p σ', Runs Try.prog 36 [.ptr (some (L + 1, 0))] σ (.tuple [.ptr p, .int .i64 0]) σ' ∧ Kp σ.objs.length σ σ' ∧ VecF σ' p B (fun x => σ.objs.length ≤ x ∧ x < σ'.objs.length) := by
  obtain ⟨ws, W, wb⟩ := P.ex
  have R := P.row
  have wl := wb.len
  have e0 := row_int R (o := 0) rfl
  have e1 := row_int R (o := 1) rfl
  have e2 := row_sl R (o := 2) rfl
  obtain ⟨k1, r1⟩ : Runs Try.prog 56 [.ptr (some (L + 1, 0))] σ (.int .i64 1) σ :=
    Runs.intro (fn := Try.f56) (by kernel_rfl) (by kernel_rfl) (Ev.of fun k => by rw [f56_eq]; simp only [Option.bind_some, decide_eq_true_eq, decide_eq_false_iff_not, Bool.not_eq_true', Bool.not_true, Bool.not_false, Bool.false_eq_true, Bool.true_eq_false, Bool.not_eq_eq_eq_not, beq_self_eq_true, beqFT, beqTF, decide_true, decide_false, not_false_eq_true, not_true_eq_false, ne_eq, true_and, and_true, false_and, and_false, and_self, if_true, if_false, ite_true, ite_false, Bool.and_true, Bool.and_false, Bool.true_and, Bool.false_and, Bool.or_true, Bool.true_or, Bool.or_false, Bool.false_or, or_true, true_or, or_false, false_or, or_self, AV.asInt, AV.asBool, AV.asSl, AV.asPtr, AV.asFn, AV.asStr, AV.asMap, AV.asIfc, AV.item, List.length_cons, List.length_nil, List.getElem?_cons_zero, List.getElem?_cons_succ, Nat.zero_add, Option.isNone_some, e0])
  obtain ⟨k2, r2⟩ : Runs Try.prog 57 [.ptr (some (L + 1, 0))] σ (.int .i64 B.length) σ :=
    Runs.intro (fn := Try.f57) (by kernel_rfl) (by kernel_rfl) (Ev.of fun k => by rw [f57_eq]; simp only [Option.bind_some, decide_eq_true_eq, decide_eq_false_iff_not, Bool.not_eq_true', Bool.not_true, Bool.not_false, Bool.false_eq_true, Bool.true_eq_false, Bool.not_eq_eq_eq_not, beq_self_eq_true, beqFT, beqTF, decide_true, decide_false, not_false_eq_true, not_true_eq_false, ne_eq, true_and, and_true, false_and, and_false, and_self, if_true, if_false, ite_true, ite_false, Bool.and_true, Bool.and_false, Bool.true_and, Bool.false_and, Bool.or_true, Bool.true_or, Bool.or_false, Bool.false_or, or_true, true_or, or_false, false_or, or_self, AV.asInt, AV.asBool, AV.asSl, AV.asPtr, AV.asFn, AV.asStr, AV.asMap, AV.asIfc, AV.item, List.length_cons, List.length_nil, List.getElem?_cons_zero, List.getElem?_cons_succ, Nat.zero_add, Option.isNone_some, e1])
  have Wn : Store.Nums .u64 σ (hdS L ((B.length + 63) / 64)) ws := row_nums W (by omega)
  obtain ⟨hw, σ2, ⟨k3, r3⟩, K2, g2⟩ := cloneU_run Wn hp (by omega)
  have hp2 : σ2.prot ≤ σ2.objs.length := by rw [K2.prot]; have := K2.len; omega
  obtain ⟨k4, r4⟩ : Runs Try.prog 58 [.ptr (some (L + 1, 0))] σ (.slice hw) σ2 :=
    Runs.intro (fn := Try.f58) (by kernel_rfl) (by kernel_rfl) ⟨k3, fun k hk => by
      have r3 := r3 k hk
      simp only at r3
      simp only [f58_eq]; simp only [Option.bind_some, decide_eq_true_eq, decide_eq_false_iff_not, Bool.not_eq_true', Bool.not_true, Bool.not_false, Bool.false_eq_true, Bool.true_eq_false, Bool.not_eq_eq_eq_not, beq_self_eq_true, beqFT, beqTF, decide_true, decide_false, not_false_eq_true, not_true_eq_false, ne_eq, true_and, and_true, false_and, and_false, and_self, if_true, if_false, ite_true, ite_false, Bool.and_true, Bool.and_false, Bool.true_and, Bool.false_and, Bool.or_true, Bool.true_or, Bool.or_false, Bool.false_or, or_true, true_or, or_false, false_or, or_self, AV.asInt, AV.asBool, AV.asSl, AV.asPtr, AV.asFn, AV.asStr, AV.asMap, AV.asIfc, AV.item, List.length_cons, List.length_nil, List.getElem?_cons_zero, List.getElem?_cons_succ, Nat.zero_add, Option.isNone_some, e2, r3]⟩
  obtain ⟨b, hb⟩ : ∃ b, b = σ2.objs.length := ⟨_, rfl⟩
  obtain ⟨σ3, h3⟩ : ∃ s, s = σ2.push [.int .i64 B.length, .slice hw, .slice Hdl.nil, .int .i64 0] 4 := ⟨_, rfl⟩
  have K3 : Kp b σ2 σ3 := by rw [h3, hb]; exact Kp.push _ _ (Nat.le_refl _)
  have R3 : σ3.Row b 4 [.int .i64 B.length, .slice hw, .slice Hdl.nil, .int .i64 0] := by rw [h3, hb]; exact Store.Row.new
  have f1 := row_sl R3 (o := 1) rfl
  have lw := nums_len g2.nums
  have l3 : b + 1 ≤ σ3.objs.length := R3.lt
  obtain ⟨r, e, σ4, ha, rfl, K4, R4, g4⟩ := EvI.up (f := fun k s => stepF Try.prog (gm Try.prog k) drawn k Try.f36 [1, 1, 1, 0, 1, 0] [25, 24, 23, 4] s) ws.length
    (fun i s => ∃ s1 ha, s = ([.int .i64 i, .int .i64 ws.length, .slice hw, .ptr (some (b, 0))], s1) ∧ Kp b σ2 s1 ∧ s1.Row b 4 [.int .i64 B.length, .slice hw, .slice ha, .int .i64 (onesTo B (64 * i) : Nat)] ∧ GrowI s1 (b + 1) ha (aheads B i))
    (fun r => ∃ s1 ha, r = (AX.exit 1, [(4, .ptr (some (b, 0)))], s1) ∧ Kp b σ2 s1 ∧ s1.Row b 4 [.int .i64 B.length, .slice hw, .slice ha, .int .i64 (onesTo B (64 * ws.length) : Nat)] ∧ GrowI s1 (b + 1) ha (aheads B ws.length))
    (by
      rintro i s hi ⟨s1, ha, rfl, kk, rr, g⟩
      have i0 : (0 : Int) ≤ i := by omega
      have i1 : (i : Int) < ws.length := by omega
      have i2 : (i : Int) < hw.len := by omega
      have w := wsucc hi (by omega)
      have hps : s1.prot ≤ b := by rw [kk.prot, hb]; exact hp2
      have rx := nums_rd (Store.Sl.kp g2.nums (hb ▸ kk)) i0 i1
      obtain ⟨x, x1, x2, x3⟩ := wb.bit i hi
      have op := ones_pop x3 64 (Nat.le_refl _)
      have ol := onesTo_le B (64 * i)
      have pl := Pop.pop_le 64 x
      have w1 : IntKind.wrap .i64 ((onesTo B (64 * i) : Nat) + (Pop.pop 64 x : Nat)) = (onesTo B (64 * (i + 1)) : Nat) := by
        rw [wrap64 (by omega) (by omega), show 64 * (i + 1) = 64 * i + 64 by omega, op]; omega
      have q2 := row_sl rr (o := 2) rfl
      have q3 := row_int rr (o := 3) rfl
      by_cases c : i % 8 = 0
      · have c' : Int.tmod (i : Int) 8 = 0 := by rw [Int.tmod_eq_emod_of_nonneg i0]; omega
        obtain ⟨h', s2, e2, k2, g2'⟩ := g.app (by omega) rr.lt (onesTo B (64 * i) : Nat) (by rw [aheads_length]; omega)
        have rr2 := rr.kp k2 (Nat.lt_succ_self b)
        have p2 : s2.prot ≤ b := by rw [k2.prot]; exact hps
        have t1 := st_fld rr2 p2 (o := 2) (by simp) (v := .slice h') rfl
        obtain ⟨s3, hs3⟩ : ∃ s, s = s2.setO b (.cells ([.int .i64 B.length, .slice hw, .slice ha, .int .i64 (onesTo B (64 * i) : Nat)].set 2 (.slice h')) true 4) := ⟨_, rfl⟩
        rw [← hs3] at t1
        have rr3 : s3.Row b 4 [.int .i64 B.length, .slice hw, .slice h', .int .i64 (onesTo B (64 * i) : Nat)] := by rw [hs3]; exact Store.Row.setO_eq rr2.lt
        have q4 := row_int rr3 (o := 3) rfl
        have p3 : s3.prot ≤ b := by rw [hs3]; exact p2
        have t2 := st_fld rr3 p3 (o := 3) (by simp) (v := .int .i64 (onesTo B (64 * (i + 1)) : Nat)) rfl
        obtain ⟨s4, hs4⟩ : ∃ s, s = s3.setO b (.cells ([.int .i64 B.length, .slice hw, .slice h', .int .i64 (onesTo B (64 * i) : Nat)].set 3 (.int .i64 (onesTo B (64 * (i + 1)) : Nat))) true 4) := ⟨_, rfl⟩
        rw [← hs4] at t2
        obtain ⟨n5, r5⟩ := count_run { s3 with prot := s3.objs.length } x2
        refine ⟨([.int .i64 (i + 1 : Nat), .int .i64 ws.length, .slice hw, .ptr (some (b, 0))], s4), ⟨n5, fun k hk => ?_⟩, s4, h', rfl, ?_, ?_, ?_⟩
        · have r5 := r5 k hk
          simp only at r5
          have r6 := callG_same r5
          simp only [f36_L111010]
          simp only [Option.bind_some, decide_eq_true_eq, decide_eq_false_iff_not, Bool.not_eq_true', Bool.not_true, Bool.not_false, Bool.false_eq_true, Bool.true_eq_false, Bool.not_eq_eq_eq_not, beq_self_eq_true, beqFT, beqTF, decide_true, decide_false, not_false_eq_true, not_true_eq_false, ne_eq, true_and, and_true, false_and, and_false, and_self, if_true, if_false, ite_true, ite_false, Bool.and_true, Bool.and_false, Bool.true_and, Bool.false_and, Bool.or_true, Bool.true_or, Bool.or_false, Bool.false_or, or_true, true_or, or_false, false_or, or_self, AV.asInt, AV.asBool, AV.asSl, AV.asPtr, AV.asFn, AV.asStr, AV.asMap, AV.asIfc, AV.item, List.length_cons, List.length_nil, List.getElem?_cons_zero, List.getElem?_cons_succ, Nat.zero_add, i0, i1, i2, rx, x1, c', q2, q3, read1, e2, t1, q4, r6, w1, t2, w]
        · rw [hs4, hs3]; exact ((kk.trans (k2.mono (by omega))).setO (Nat.le_refl _)).setO (Nat.le_refl _)
        · rw [hs4]; exact Store.Row.setO_eq rr3.lt
        · rw [aheads_hit B c, hs4, hs3]; exact (g2'.setO (Nat.lt_succ_self b)).setO (Nat.lt_succ_self b)
      · have c' : ¬ Int.tmod (i : Int) 8 = 0 := by rw [Int.tmod_eq_emod_of_nonneg i0]; omega
        have t2 := st_fld rr hps (o := 3) (by simp) (v := .int .i64 (onesTo B (64 * (i + 1)) : Nat)) rfl
        obtain ⟨s4, hs4⟩ : ∃ s, s = s1.setO b (.cells ([.int .i64 B.length, .slice hw, .slice ha, .int .i64 (onesTo B (64 * i) : Nat)].set 3 (.int .i64 (onesTo B (64 * (i + 1)) : Nat))) true 4) := ⟨_, rfl⟩
        rw [← hs4] at t2
        obtain ⟨n5, r5⟩ := count_run { s1 with prot := s1.objs.length } x2
        refine ⟨([.int .i64 (i + 1 : Nat), .int .i64 ws.length, .slice hw, .ptr (some (b, 0))], s4), ⟨n5, fun k hk => ?_⟩, s4, ha, rfl, ?_, ?_, ?_⟩
        · have r5 := r5 k hk
          simp only at r5
          have r6 := callG_same r5
          simp only [f36_L111010]
          simp only [Option.bind_some, decide_eq_true_eq, decide_eq_false_iff_not, Bool.not_eq_true', Bool.not_true, Bool.not_false, Bool.false_eq_true, Bool.true_eq_false, Bool.not_eq_eq_eq_not, beq_self_eq_true, beqFT, beqTF, decide_true, decide_false, not_false_eq_true, not_true_eq_false, ne_eq, true_and, and_true, false_and, and_false, and_self, if_true, if_false, ite_true, ite_false, Bool.and_true, Bool.and_false, Bool.true_and, Bool.false_and, Bool.or_true, Bool.true_or, Bool.or_false, Bool.false_or, or_true, true_or, or_false, false_or, or_self, AV.asInt, AV.asBool, AV.asSl, AV.asPtr, AV.asFn, AV.asStr, AV.asMap, AV.asIfc, AV.item, List.length_cons, List.length_nil, List.getElem?_cons_zero, List.getElem?_cons_succ, Nat.zero_add, i0, i1, i2, rx, x1, c', q3, r6, w1, t2, w]
        · rw [hs4]; exact kk.setO (Nat.le_refl _)
        · rw [hs4]; exact Store.Row.setO_eq rr.lt
        · rw [aheads_miss B c, hs4]; exact g.setO (Nat.lt_succ_self b))
    (by
      rintro s ⟨s1, ha, rfl, kk, rr, g⟩
      exact ⟨(AX.exit 1, [(4, .ptr (some (b, 0)))], s1), Ev.of fun k => by simp only [f36_L111010]; simp only [Option.bind_some, decide_eq_true_eq, decide_eq_false_iff_not, Bool.not_eq_true', Bool.not_true, Bool.not_false, Bool.false_eq_true, Bool.true_eq_false, Bool.not_eq_eq_eq_not, beq_self_eq_true, beqFT, beqTF, decide_true, decide_false, not_false_eq_true, not_true_eq_false, ne_eq, true_and, and_true, false_and, and_false, and_self, if_true, if_false, ite_true, ite_false, Bool.and_true, Bool.and_false, Bool.true_and, Bool.false_and, Bool.or_true, Bool.true_or, Bool.or_false, Bool.false_or, or_true, true_or, or_false, false_or, or_self, AV.asInt, AV.asBool, AV.asSl, AV.asPtr, AV.asFn, AV.asStr, AV.asMap, AV.asIfc, AV.item, List.length_cons, List.length_nil, List.getElem?_cons_zero, List.getElem?_cons_succ, Nat.zero_add, Int.lt_irrefl], s1, ha, rfl, kk, rr, g⟩)
    (s := ([.int .i64 0, .int .i64 ws.length, .slice hw, .ptr (some (b, 0))], σ3)) ⟨σ3, Hdl.nil, rfl, K3, by simpa [onesTo_zero] using R3, Grow.nil _ _ _⟩
  rw [onesTo_ge B (i := 64 * ws.length) (by omega)] at R4
  obtain ⟨n5, e⟩ := loopF_ev e
  have K24 : Kp σ2.objs.length σ2 σ4 := hb ▸ K4
  refine ⟨some (b, 0), σ4, Runs.intro (fn := Try.f36) (by kernel_rfl) (by kernel_rfl) ⟨k1 + k2 + k4 + n5, fun k hk => ?_⟩, K2.all K24, ⟨⟨b, hw, ha, ws, aheads B ws.length, rfl, R4, Store.Sl.kp g2.nums K24, g4.ints, wb, ⟨aheads_length _ _, fun j hj => ?_⟩, ⟨by rw [hb]; exact K2.len, R4.lt⟩, fun x hx => ?_, fun x hx => ?_⟩, hn⟩⟩
  · have r1 := r1 k (by omega)
    have r2 := r2 k (by omega)
    have r4 := r4 k (by omega)
    have e := e k (by omega)
    simp only at r1 r2 r4 e
    simp only [f36_eq]
    simp only [Option.bind_some, decide_eq_true_eq, decide_eq_false_iff_not, Bool.not_eq_true', Bool.not_true, Bool.not_false, Bool.false_eq_true, Bool.true_eq_false, Bool.not_eq_eq_eq_not, beq_self_eq_true, beqFT, beqTF, decide_true, decide_false, not_false_eq_true, not_true_eq_false, ne_eq, true_and, and_true, false_and, and_false, and_self, if_true, if_false, ite_true, ite_false, Bool.and_true, Bool.and_false, Bool.true_and, Bool.false_and, Bool.or_true, Bool.true_or, Bool.or_false, Bool.false_or, or_true, true_or, or_false, false_or, or_self, AV.asInt, AV.asBool, AV.asSl, AV.asPtr, AV.asFn, AV.asStr, AV.asMap, AV.asIfc, AV.item, List.length_cons, List.length_nil, List.getElem?_cons_zero, List.getElem?_cons_succ, Nat.zero_add, Option.isNone_some, r1, r2, r4, ← h3, ← hb, f1, lw, e]
    rw [f36_X111010_1]
  · rw [rd_getElem hj]; simp [aheads]
  · obtain ⟨o, ho⟩ : ∃ o, hw.a = some (x, o) := by
      cases ha : hw.a with
      | none => simp [Hdl.row, ha] at hx
      | some bo => obtain ⟨c, o⟩ := bo; simp [Hdl.row, ha] at hx; subst hx; exact ⟨o, rfl⟩
    have := g2.rowLt x o ho
    exact ⟨this.1, by have := K4.len; omega⟩
  · obtain ⟨o, ho⟩ : ∃ o, ha.a = some (x, o) := by
      cases h : ha.a with
      | none => simp [Hdl.row, h] at hx
      | some bo => obtain ⟨c, o⟩ := bo; simp [Hdl.row, h] at hx; subst hx; exact ⟨o, rfl⟩
    have := g4.rowLt x o ho
    have := K2.len
    exact ⟨by omega, by omega⟩
end Go.Ab


/- Packed numbers of any width: bits of the words that are written. -/
namespace Go.Ab
open Go Go.Proofs Go.Ab.Wd Go.Ab.Bs Go.Ab.Sai
set_option linter.unusedVariables false
set_option linter.unusedSimpArgs false
theorem andNot_u64 {a b : Nat} (ha : a < 2 ^ 64) (hb : b < 2 ^ 64) : ∃ z : Nat, bitOp .andNot .u64 (a : Int) (b : Int) = z ∧ z < 2 ^ 64 ∧ ∀ k, k < 64 → z.testBit k = (a.testBit k && !b.testBit k) := by
  obtain ⟨u, hu⟩ : ∃ u, u = (BitVec.ofNat 64 a &&& ~~~BitVec.ofNat 64 b).toNat := ⟨_, rfl⟩
  have ul : u < 2 ^ 64 := by rw [hu]; exact BitVec.isLt _
  refine ⟨u, ?_, ul, fun k hk => ?_⟩
  · show IntKind.wrap .u64 (BitVec.ofInt 64 (a : Int) &&& ~~~BitVec.ofInt 64 (b : Int)).toNat = _
    rw [BitVec.ofInt_natCast, BitVec.ofInt_natCast, ← hu, wrapu64 (by omega) (by omega)]
  · rw [hu, BitVec.testBit_toNat, BitVec.getLsbD_and, BitVec.getLsbD_not, BitVec.getLsbD_ofNat, BitVec.getLsbD_ofNat]
    simp [hk]
theorem shl_bits {a s : Nat} (hs : s ≤ 64) : ∃ z : Nat, shlI .u64 (a : Int) (s : Int) = z ∧ z < 2 ^ 64 ∧ ∀ k, k < 64 → z.testBit k = (decide (s ≤ k) && a.testBit (k - s)) := by
  have eb : IntKind.u64.bits = 64 := by decide
  refine ⟨a * 2 ^ s % 2 ^ 64, ?_, Nat.mod_lt _ (by omega), fun k hk => ?_⟩
  · unfold shlI IntKind.wrap
    rw [eb, Int.toNat_natCast, Nat.min_eq_left hs]
    simp [IntKind.signed]
  · rw [Nat.testBit_mod_two_pow, Nat.testBit_mul_two_pow]
    simp [hk]
theorem shr_bits {a s : Nat} (hs : s ≤ 64) (ha : a < 2 ^ 64) : ∃ z : Nat, shrI .u64 (a : Int) (s : Int) = z ∧ z < 2 ^ 64 ∧ ∀ k, z.testBit k = a.testBit (k + s) := by
  refine ⟨a / 2 ^ s, shr_u64 hs, Nat.lt_of_le_of_lt (Nat.div_le_self _ _) ha, fun k => ?_⟩
  rw [Nat.testBit_div_two_pow]
theorem mask_bits {w : Nat} (h0 : 1 ≤ w) (h1 : w ≤ 64) : ∃ m : Nat, shrI .u64 18446744073709551615 ((64 - w : Nat) : Int) = m ∧ m < 2 ^ 64 ∧ ∀ k, m.testBit k = decide (k < w) := by
  obtain ⟨z, z1, z2, z3⟩ := shr_bits (a := 18446744073709551615) (s := 64 - w) (by omega) (by omega)
  refine ⟨z, z1, z2, fun k => ?_⟩
  rw [z3, show (18446744073709551615 : Nat) = 2 ^ 64 - 1 by decide, Nat.testBit_two_pow_sub_one]
  congr 1; exact propext (by omega)
/-- A word takes some bits of a number, from a place on. -/
theorem put_lo {x v m s w : Nat} (hx : x < 2 ^ 64) (hv : ∀ k, w ≤ k → v.testBit k = false) (hm : ∀ k, m.testBit k = decide (k < w)) (hs : s < 64) :
    ∃ z : Nat, bitOp .or .u64 (bitOp .andNot .u64 (x : Int) (shlI .u64 (m : Int) (s : Int))) (shlI .u64 (v : Int) (s : Int)) = z ∧ z < 2 ^ 64 ∧ ∀ k, k < 64 → z.testBit k = if s ≤ k ∧ k < s + w then v.testBit (k - s) else x.testBit k := by
  obtain ⟨a, a1, a2, a3⟩ := shl_bits (a := m) (s := s) (by omega)
  obtain ⟨b, b1, b2, b3⟩ := shl_bits (a := v) (s := s) (by omega)
  obtain ⟨c, c1, c2, c3⟩ := andNot_u64 hx a2
  refine ⟨c ||| b, by rw [a1, b1, c1, or_u64 (by omega) (by omega)], Nat.or_lt_two_pow c2 b2, fun k hk => ?_⟩
  rw [Nat.testBit_or, c3 k hk, a3 k hk, b3 k hk, hm]
  by_cases h1 : s ≤ k
  · by_cases h2 : k < s + w
    · have h3 : k - s < w := by omega
      simp [h1, h2, h3]
    · have h3 : ¬ k - s < w := by omega
      rw [hv (k - s) (by omega)]
      simp [h1, h2, h3]
  · simp [h1]
theorem put_hi {x v m s w : Nat} (hx : x < 2 ^ 64) (hv : v < 2 ^ 64) (hm0 : m < 2 ^ 64) (hvb : ∀ k, w ≤ k → v.testBit k = false) (hm : ∀ k, m.testBit k = decide (k < w)) (hs : s < 64) (hw : 64 < s + w) :
    ∃ z : Nat, bitOp .or .u64 (bitOp .andNot .u64 (x : Int) (shrI .u64 (m : Int) ((64 - s : Nat) : Int))) (shrI .u64 (v : Int) ((64 - s : Nat) : Int)) = z ∧ z < 2 ^ 64 ∧ ∀ k, k < 64 → z.testBit k = if k + 64 < s + w then v.testBit (k + 64 - s) else x.testBit k := by
  obtain ⟨a, a1, a2, a3⟩ := shr_bits (a := m) (s := 64 - s) (by omega) hm0
  obtain ⟨b, b1, b2, b3⟩ := shr_bits (a := v) (s := 64 - s) (by omega) hv
  obtain ⟨c, c1, c2, c3⟩ := andNot_u64 hx a2
  refine ⟨c ||| b, by rw [a1, b1, c1, or_u64 (by omega) (by omega)], Nat.or_lt_two_pow c2 b2, fun k hk => ?_⟩
  rw [Nat.testBit_or, c3 k hk, a3 k, b3 k, hm]
  by_cases h2 : k + 64 < s + w
  · have h3 : k + (64 - s) < w := by omega
    simp [h2, h3, show k + 64 - s = k + (64 - s) by omega]
  · have h3 : ¬ k + (64 - s) < w := by omega
    rw [hvb (k + (64 - s)) (by omega)]
    simp [h2, h3]
end Go.Ab


/- Packed numbers of any width: New, Set. -/
namespace Go.Ab
open Go Go.Proofs Go.Ab.Wd Go.Ab.Bs Go.Ab.Sai
set_option linter.unusedVariables false
set_option linter.unusedSimpArgs false
/-- The bit at a place of words. -/
def bitW (ws : List Int) (pos : Nat) : Bool := (rd ws (pos / 64 : Nat)).toNat.testBit (pos % 64)
/-- Words. -/
def Words (ws : List Int) : Prop := ∀ j : Nat, j < ws.length → ∃ x : Nat, rd ws j = x ∧ x < 2 ^ 64
/-- Packed numbers in memory. -/
structure PkW (σ : Store) (L w n : Nat) (ws : List Int) : Prop where
  row : σ.Row L 1 (numsL .u64 ws)
  hd : σ.Row (L + 1) 3 [.int .i64 w, .int .i64 n, .slice (hdS L ((w * n + 63) / 64))]
  len : ws.length = (w * n + 63) / 64
  wd : Words ws
theorem PkW.keep {σ σ' : Store} {L w n : Nat} {ws : List Int} (P : PkW σ L w n ws) (k0 : σ'.objs[L]? = σ.objs[L]?) (k1 : σ'.objs[L + 1]? = σ.objs[L + 1]?) : PkW σ' L w n ws :=
  ⟨k0.trans P.row, k1.trans P.hd, P.len, P.wd⟩
theorem maskW_run (σ : Store) {w : Nat} (h0 : 1 ≤ w) (h1 : w ≤ 64) : ∃ m : Nat, Runs Try.prog 55 [.int .i64 w] σ (.int .u64 m) σ ∧ m < 2 ^ 64 ∧ ∀ k, m.testBit k = decide (k < w) := by
  obtain ⟨m, m1, m2, m3⟩ := mask_bits h0 h1
  refine ⟨m, Runs.intro (fn := Try.f55) (by kernel_rfl) (by kernel_rfl) (Ev.of fun k => ?_), m2, m3⟩
  have w1 : IntKind.wrap .i64 (64 - (w : Int)) = ((64 - w : Nat) : Int) := by rw [wrap64 (by omega) (by omega)]; omega
  have c : (0 : Int) ≤ ((64 - w : Nat) : Int) := by omega
  rw [f55_eq]
  simp only [w1, m1, c, if_true]
theorem rd_set_nat {ws : List Int} {j q : Nat} {z : Int} (hj : j < ws.length) : rd (ws.set q z) (j : Int) = if q = j then z else rd ws (j : Int) := by
  rw [rd_getElem (show j < (ws.set q z).length by rw [List.length_set]; exact hj), rd_getElem hj, List.getElem_set]
theorem words_set {ws : List Int} (h : Words ws) (q : Nat) {z : Nat} (hz : z < 2 ^ 64) : Words (ws.set q (z : Int)) := fun j hj => by
  rw [List.length_set] at hj
  rw [rd_set_nat hj]
  split
  · exact ⟨z, rfl, hz⟩
  · exact h j hj
theorem setW_run {σ : Store} {L w n : Nat} {ws : List Int} (P : PkW σ L w n ws) (hp : σ.prot ≤ L) (h0 : 1 ≤ w) (h1 : w ≤ 32) (hn : n < 2 ^ 30) {i v : Nat} (hi : i < n) (hv : v < 2 ^ w) :
    ∃ σ' ws', Runs Try.prog 35 [.ptr (some (L + 1, 0)), .int .i64 i, .int .u64 v] σ (.bool true) σ' ∧ Kp L σ σ' ∧ Off L σ σ' ∧ PkW σ' L w n ws' ∧
      ∀ pos, pos < w * n → bitW ws' pos = if i * w ≤ pos ∧ pos < i * w + w then v.testBit (pos - i * w) else bitW ws pos := by
  have R := P.hd
  have W := P.row
  have wl := P.len
  have e0 := row_int R (o := 0) rfl
  have e1 := row_int R (o := 1) rfl
  have e2 := row_sl R (o := 2) rfl
  obtain ⟨m, ⟨km, rm⟩, m2, m3⟩ := maskW_run σ h0 (show w ≤ 64 by omega)
  have p2 : 2 ^ w ≤ 2 ^ 32 := Nat.pow_le_pow_right (by omega) h1
  have hm : m = 2 ^ w - 1 := by
    apply Nat.eq_of_testBit_eq; intro k
    rw [m3, Nat.testBit_two_pow_sub_one]
  have vbits : ∀ k, w ≤ k → v.testBit k = false := fun k hk => Nat.testBit_lt_two_pow (Nat.lt_of_lt_of_le hv (Nat.pow_le_pow_right (by omega) hk))
  obtain ⟨b, hb⟩ : ∃ b, b = i * w := ⟨_, rfl⟩
  have hbn : b + w ≤ w * n := by
    have : (i + 1) * w ≤ n * w := Nat.mul_le_mul_right _ hi
    rw [Nat.add_mul, Nat.one_mul, Nat.mul_comm n w] at this
    omega
  have hwn : w * n ≤ 32 * 2 ^ 30 := Nat.mul_le_mul h1 (by omega)
  have wb : IntKind.wrap .i64 ((i : Int) * w) = (b : Nat) := by
    rw [show (i : Int) * w = ((i * w : Nat) : Int) by simp, ← hb, wrap64 (by omega) (by omega)]
  obtain ⟨d1, d2⟩ := idiv64 (i := (b : Int)) (by omega) (by omega)
  rw [Int.toNat_natCast] at d1 d2
  have s64 : b % 64 < 64 := Nat.mod_lt _ (by omega)
  have hq : b / 64 < ws.length := by omega
  obtain ⟨x, x1, x2⟩ := P.wd (b / 64) hq
  obtain ⟨z, z1, z2, z3⟩ := put_lo x2 vbits m3 s64
  have rx := row_rd W (i := (b / 64 : Nat)) (len := (w * n + 63) / 64) (cp := some ((w * n + 63) / 64)) (by omega) (by omega)
  have st := st_nums (x := (z : Int)) (len := (w * n + 63) / 64) (cp := some ((w * n + 63) / 64)) W hp (i := (b / 64 : Nat)) (by omega) (by omega)
  rw [Int.toNat_natCast] at st
  have c0 : ¬ (i : Int) < 0 := by omega
  have c1 : ¬ (n : Int) ≤ i := by omega
  have c2 : ¬ (m : Int) < v := by omega
  have c3 : (0 : Int) ≤ (b / 64 : Nat) := by omega
  have c4 : ((b / 64 : Nat) : Int) < ((w * n + 63) / 64 : Nat) := by omega
  have c5 : (0 : Int) ≤ (b % 64 : Nat) := by omega
  obtain ⟨σ1, hσ1⟩ : ∃ s, s = σ.setO L (.cells (numsL .u64 (ws.set (b / 64) (z : Int))) true 1) := ⟨_, rfl⟩
  have R1 : σ1.Row (L + 1) 3 [.int .i64 w, .int .i64 n, .slice (hdS L ((w * n + 63) / 64))] := by rw [hσ1]; exact R.setO_ne (by omega)
  have W1 : σ1.Row L 1 (numsL .u64 (ws.set (b / 64) (z : Int))) := by rw [hσ1]; exact Store.Row.setO_eq W.lt
  have k1 : Kp L σ σ1 := by rw [hσ1]; exact (Kp.refl _ _).setO (Nat.le_refl _)
  have o1 : Off L σ σ1 := by rw [hσ1]; exact ⟨rfl, setO_len, fun c hc => by show (σ.objs.set L _)[c]? = _; rw [List.getElem?_set, if_neg (by omega)]⟩
  have e0' := row_int R1 (o := 0) rfl
  have e2' := row_sl R1 (o := 2) rfl
  have wsw : IntKind.wrap .i64 (((b % 64 : Nat) : Int) + w) = ((b % 64 + w : Nat) : Int) := by rw [wrap64 (by omega) (by omega)]; omega
  by_cases cs : 64 < b % 64 + w
  · have cs' : (64 : Int) < (b % 64 + w : Nat) := by omega
    have hq2 : b / 64 + 1 < ws.length := by omega
    obtain ⟨y, y1, y2⟩ := P.wd (b / 64 + 1) hq2
    obtain ⟨u, u1, u2, u3⟩ := put_hi y2 (v := v) (by omega) m2 vbits m3 s64 cs
    have hy : rd (ws.set (b / 64) (z : Int)) ((b / 64 + 1 : Nat) : Int) = y := by rw [rd_set_nat hq2, if_neg (by omega), y1]
    have ry := row_rd W1 (i := (b / 64 + 1 : Nat)) (len := (w * n + 63) / 64) (cp := some ((w * n + 63) / 64)) (by omega) (by rw [List.length_set]; omega)
    rw [hy] at ry
    have st2 := st_nums (x := (u : Int)) (len := (w * n + 63) / 64) (cp := some ((w * n + 63) / 64)) W1 (by rw [k1.prot]; exact hp) (i := (b / 64 + 1 : Nat)) (by omega) (by rw [List.length_set]; omega)
    rw [Int.toNat_natCast] at st2
    obtain ⟨σ2, hσ2⟩ : ∃ s, s = σ1.setO L (.cells (numsL .u64 ((ws.set (b / 64) (z : Int)).set (b / 64 + 1) (u : Int))) true 1) := ⟨_, rfl⟩
    have wq : IntKind.wrap .i64 (((b / 64 : Nat) : Int) + 1) = ((b / 64 + 1 : Nat) : Int) := by rw [wrap64 (by omega) (by omega)]; omega
    have w64 : IntKind.wrap .i64 (64 - ((b % 64 : Nat) : Int)) = ((64 - b % 64 : Nat) : Int) := by rw [wrap64 (by omega) (by omega)]; omega
    have c6 : (0 : Int) ≤ (b / 64 + 1 : Nat) := by omega
    have c7 : ((b / 64 + 1 : Nat) : Int) < ((w * n + 63) / 64 : Nat) := by omega
    have c8 : (0 : Int) ≤ (64 - b % 64 : Nat) := by omega
    refine ⟨σ2, (ws.set (b / 64) (z : Int)).set (b / 64 + 1) (u : Int), Runs.intro (fn := Try.f35) (by kernel_rfl) (by kernel_rfl) ⟨km, fun k hk => ?_⟩, by rw [hσ2]; exact k1.setO (Nat.le_refl _), ?_, ⟨?_, ?_, by simpa using wl, words_set (words_set P.wd _ z2) _ u2⟩, fun pos hpos => ?_⟩
    · have rm := rm k hk
      simp only at rm
      simp only [f35_eq]
      simp only [Option.bind_some, decide_eq_true_eq, decide_eq_false_iff_not, Bool.not_eq_true', Bool.not_true, Bool.not_false, Bool.false_eq_true, Bool.true_eq_false, Bool.not_eq_eq_eq_not, beq_self_eq_true, beqFT, beqTF, decide_true, decide_false, not_false_eq_true, not_true_eq_false, ne_eq, true_and, and_true, false_and, and_false, and_self, if_true, if_false, ite_true, ite_false, Bool.and_true, Bool.and_false, Bool.true_and, Bool.false_and, Bool.or_true, Bool.true_or, Bool.or_false, Bool.false_or, or_true, true_or, or_false, false_or, or_self, AV.asInt, AV.asBool, AV.asSl, AV.asPtr, AV.asFn, AV.asStr, AV.asMap, AV.asIfc, AV.item, List.length_cons, List.length_nil, List.getElem?_cons_zero, List.getElem?_cons_succ, Nat.zero_add, Option.isNone_some, c0, e1, c1, e0, rm, c2, e2, wb, d1, d2, c3, c4, rx, x1, c5, z1, st, ← hσ1, e0', wsw, cs', e2', wq, c6, c7, ry, w64, c8, u1, st2, ← hσ2]
    · rw [hσ2]
      exact o1.trans ⟨rfl, setO_len, fun c hc => by show (σ1.objs.set L _)[c]? = _; rw [List.getElem?_set, if_neg (by omega)]⟩
    · rw [hσ2]; exact Store.Row.setO_eq W1.lt
    · rw [hσ2]; exact R1.setO_ne (by omega)
    · have hpl : pos / 64 < ws.length := by omega
      have pm : pos % 64 < 64 := Nat.mod_lt _ (by omega)
      unfold bitW
      rw [rd_set_nat (by rw [List.length_set]; exact hpl), rd_set_nat hpl, ← hb]
      by_cases g1 : b / 64 + 1 = pos / 64
      · rw [if_pos g1, Int.toNat_natCast, u3 _ pm]
        rw [← g1, y1, Int.toNat_natCast]
        by_cases g2 : pos % 64 + 64 < b % 64 + w
        · rw [if_pos g2, if_pos (by omega)]; congr 1; omega
        · rw [if_neg g2, if_neg (by omega)]
      · rw [if_neg g1]
        by_cases g3 : b / 64 = pos / 64
        · rw [if_pos g3, Int.toNat_natCast, z3 _ pm, ← g3, x1, Int.toNat_natCast]
          by_cases g2 : b % 64 ≤ pos % 64 ∧ pos % 64 < b % 64 + w
          · rw [if_pos g2, if_pos (by omega)]; congr 1; omega
          · rw [if_neg g2, if_neg (by omega)]
        · rw [if_neg g3, if_neg (by omega)]
  · have cs' : ¬ (64 : Int) < (b % 64 + w : Nat) := by omega
    refine ⟨σ1, ws.set (b / 64) (z : Int), Runs.intro (fn := Try.f35) (by kernel_rfl) (by kernel_rfl) ⟨km, fun k hk => ?_⟩, k1, o1, ⟨W1, R1, by simpa using wl, words_set P.wd _ z2⟩, fun pos hpos => ?_⟩
    · have rm := rm k hk
      simp only at rm
      simp only [f35_eq]
      simp only [Option.bind_some, decide_eq_true_eq, decide_eq_false_iff_not, Bool.not_eq_true', Bool.not_true, Bool.not_false, Bool.false_eq_true, Bool.true_eq_false, Bool.not_eq_eq_eq_not, beq_self_eq_true, beqFT, beqTF, decide_true, decide_false, not_false_eq_true, not_true_eq_false, ne_eq, true_and, and_true, false_and, and_false, and_self, if_true, if_false, ite_true, ite_false, Bool.and_true, Bool.and_false, Bool.true_and, Bool.false_and, Bool.or_true, Bool.true_or, Bool.or_false, Bool.false_or, or_true, true_or, or_false, false_or, or_self, AV.asInt, AV.asBool, AV.asSl, AV.asPtr, AV.asFn, AV.asStr, AV.asMap, AV.asIfc, AV.item, List.length_cons, List.length_nil, List.getElem?_cons_zero, List.getElem?_cons_succ, Nat.zero_add, Option.isNone_some, c0, e1, c1, e0, rm, c2, e2, wb, d1, d2, c3, c4, rx, x1, c5, z1, st, ← hσ1, e0', wsw, cs']
    · have hpl : pos / 64 < ws.length := by omega
      have pm : pos % 64 < 64 := Nat.mod_lt _ (by omega)
      unfold bitW
      rw [rd_set_nat hpl, ← hb]
      by_cases g3 : b / 64 = pos / 64
      · rw [if_pos g3, Int.toNat_natCast, z3 _ pm, ← g3, x1, Int.toNat_natCast]
        by_cases g2 : b % 64 ≤ pos % 64 ∧ pos % 64 < b % 64 + w
        · rw [if_pos g2, if_pos (by omega)]; congr 1; omega
        · rw [if_neg g2, if_neg (by omega)]
      · rw [if_neg g3, if_neg (by omega)]
end Go.Ab


/- Packed numbers of any width: New; what they hold. -/
namespace Go.Ab
open Go Go.Proofs Go.Ab.Wd Go.Ab.Bs Go.Ab.Sai
set_option linter.unusedVariables false
set_option linter.unusedSimpArgs false
/-- The numbers that words hold. -/
def Cont (ws : List Int) (w n : Nat) (f : Nat → Nat) : Prop := ∀ i, i < n → ∀ k, k < w → bitW ws (i * w + k) = (f i).testBit k
theorem pos_lt {i k w n : Nat} (hi : i < n) (hk : k < w) : i * w + k < w * n := by
  have : (i + 1) * w ≤ n * w := Nat.mul_le_mul_right _ hi
  rw [Nat.add_mul, Nat.one_mul, Nat.mul_comm n w] at this
  omega
theorem Cont.set {ws ws' : List Int} {w n i v : Nat} {f : Nat → Nat} (C : Cont ws w n f) (h : ∀ pos, pos < w * n → bitW ws' pos = if i * w ≤ pos ∧ pos < i * w + w then v.testBit (pos - i * w) else bitW ws pos) : Cont ws' w n fun j => if j = i then v else f j := fun j hj k hk => by
  rw [h _ (pos_lt hj hk)]
  show _ = (if j = i then v else f j).testBit k
  by_cases e : j = i
  · subst e
    rw [if_pos ⟨by omega, by omega⟩, if_pos rfl]; congr 1; omega
  · rw [if_neg e, if_neg, C j hj k hk]
    rintro ⟨h1, h2⟩
    rcases Nat.lt_or_gt_of_ne e with h3 | h3
    · have : (j + 1) * w ≤ i * w := Nat.mul_le_mul_right _ h3
      rw [Nat.add_mul, Nat.one_mul] at this; omega
    · have : (i + 1) * w ≤ j * w := Nat.mul_le_mul_right _ h3
      rw [Nat.add_mul, Nat.one_mul] at this; omega
theorem needW_run (σ : Store) {w n : Nat} (hw : w ≤ 64) (hn : n < 2 ^ 40) : Runs Try.prog 53 [.int .i64 w, .int .i64 n] σ (.int .i64 ((w * n + 63) / 64 : Nat)) σ := by
  have hwn : w * n ≤ 64 * 2 ^ 40 := Nat.mul_le_mul hw (by omega)
  refine Runs.intro (fn := Try.f53) (by kernel_rfl) (by kernel_rfl) (Ev.of fun k => ?_)
  obtain ⟨u, hu⟩ : ∃ u, u = w * n := ⟨_, rfl⟩
  rw [f53_eq, show (w : Int) * n = ((w * n : Nat) : Int) by simp, ← hu, wrap64 (x := (u : Int)) (by omega) (by omega), wrap64 (x := (u : Int) + 63) (by omega) (by omega), Int.tdiv_eq_ediv_of_nonneg (by omega), wrap64 (by omega) (by omega)]
  congr 3
theorem packNewW_run {σ : Store} {w n : Nat} (h0 : 1 ≤ w) (h1 : w ≤ 32) (hn : n ≤ 4194304) : ∃ σ', Runs Try.prog 33 [.int .i64 w, .int .i64 n] σ (.tuple [.ptr (some (σ.objs.length + 1, 0)), .int .i64 0]) σ' ∧ Kp σ.objs.length σ σ' ∧ σ'.objs.length = σ.objs.length + 2 ∧ ∃ ws, PkW σ' σ.objs.length w n ws ∧ Cont ws w n fun _ => 0 := by
  obtain ⟨k1, r1⟩ := needW_run σ (w := w) (n := n) (by omega) (by omega)
  have hwn : w * n ≤ 32 * 4194304 := Nat.mul_le_mul h1 hn
  obtain ⟨u, hu⟩ : ∃ u, u = (w * n + 63) / 64 := ⟨_, rfl⟩
  rw [← hu] at r1
  have c1 : ¬ (w : Int) < 1 := by omega
  have c2 : ¬ (64 : Int) < w := by omega
  have c3 : ¬ (n : Int) < 0 := by omega
  have c4 : ¬ (4194304 : Int) < n := by omega
  have c5 : (0 : Int) ≤ (u : Nat) := by omega
  have c6 : ((u : Nat) : Int) * ((8 : Nat) : Int) ≤ 281474976710656 := by omega
  refine ⟨(σ.push (mkCells [.int .u64 0] u) 1).push [.int .i64 w, .int .i64 n, .slice (hdS σ.objs.length u)] 3, Runs.intro (fn := Try.f33) (by kernel_rfl) (by kernel_rfl) ⟨k1, fun k hk => ?_⟩, (Kp.push _ _ (Nat.le_refl _)).push' (by simp), by simp, List.replicate u 0, ⟨?_, ?_, by simp [hu], fun j hj => ⟨0, rd_replicate0 _ _, by omega⟩⟩, fun i hi k hk => ?_⟩
  · have r1 := r1 k hk
    simp only at r1
    simp only [f33_eq]
    simp only [Option.bind_some, decide_eq_true_eq, decide_eq_false_iff_not, Bool.not_eq_true', Bool.not_true, Bool.not_false, Bool.false_eq_true, Bool.true_eq_false, Bool.not_eq_eq_eq_not, beq_self_eq_true, beqFT, beqTF, decide_true, decide_false, not_false_eq_true, not_true_eq_false, ne_eq, true_and, and_true, false_and, and_false, and_self, if_true, if_false, ite_true, ite_false, Bool.and_true, Bool.and_false, Bool.true_and, Bool.false_and, Bool.or_true, Bool.true_or, Bool.or_false, Bool.false_or, or_true, true_or, or_false, false_or, or_self, AV.asInt, AV.asBool, AV.asSl, AV.asPtr, AV.asFn, AV.asStr, AV.asMap, AV.asIfc, AV.item, List.length_cons, List.length_nil, List.getElem?_cons_zero, List.getElem?_cons_succ, Nat.zero_add, c1, c2, c3, c4, r1, c5, c6, Int.le_refl, Int.toNat_natCast]
    simp [hdS]
  · rw [← mkCells_num]; exact Store.Row.new.push
  · rw [← hu]
    have := (Store.Row.new : ((σ.push (mkCells [.int .u64 0] u) 1).push [.int .i64 w, .int .i64 n, .slice (hdS σ.objs.length u)] 3).Row _ 3 _)
    simpa using this
  · unfold bitW
    rw [rd_replicate0]; simp
end Go.Ab


/- Packed numbers of any width: Get. -/
namespace Go.Ab
open Go Go.Proofs Go.Ab.Wd Go.Ab.Bs Go.Ab.Sai
set_option linter.unusedVariables false
set_option linter.unusedSimpArgs false
theorem get_lo {x m s w v : Nat} (hx : x < 2 ^ 64) (hm0 : m < 2 ^ 64) (hm : ∀ k, m.testBit k = decide (k < w)) (hs : s < 64) (hv : v < 2 ^ w) (h : ∀ k, k < w → x.testBit (k + s) = v.testBit k) :
    bitOp .and .u64 (shrI .u64 (x : Int) (s : Int)) (m : Int) = (v : Int) := by
  obtain ⟨a, a1, a2, a3⟩ := shr_bits (a := x) (s := s) (by omega) hx
  rw [a1, and_u64 (by omega) (by omega)]
  congr 1
  apply Nat.eq_of_testBit_eq; intro k
  rw [Nat.testBit_and, a3, hm]
  by_cases c : k < w
  · rw [h k c]; simp [c]
  · rw [Nat.testBit_lt_two_pow (Nat.lt_of_lt_of_le hv (Nat.pow_le_pow_right (by omega) (by omega)))]; simp [c]
theorem get_hi {x y m s w v : Nat} (hx : x < 2 ^ 64) (hy : y < 2 ^ 64) (hm0 : m < 2 ^ 64) (hm : ∀ k, m.testBit k = decide (k < w)) (hs : s < 64) (hw : w ≤ 32) (hv : v < 2 ^ w) (h : ∀ k, k < w → k + s < 64 → x.testBit (k + s) = v.testBit k) (h2 : ∀ k, k < w → 64 ≤ k + s → y.testBit (k + s - 64) = v.testBit k) :
    bitOp .and .u64 (bitOp .or .u64 (shrI .u64 (x : Int) (s : Int)) (shlI .u64 (y : Int) ((64 - s : Nat) : Int))) (m : Int) = (v : Int) := by
  obtain ⟨a, a1, a2, a3⟩ := shr_bits (a := x) (s := s) (by omega) hx
  obtain ⟨b, b1, b2, b3⟩ := shl_bits (a := y) (s := 64 - s) (by omega)
  have l2 := Nat.or_lt_two_pow a2 b2
  rw [a1, b1, or_u64 (by omega) (by omega), and_u64 (by omega) (by omega)]
  congr 1
  apply Nat.eq_of_testBit_eq; intro k
  rw [Nat.testBit_and, Nat.testBit_or, a3, hm]
  by_cases c : k < w
  · rw [b3 k (by omega)]
    by_cases d : k + s < 64
    · rw [h k c d]
      have : ¬ 64 - s ≤ k := by omega
      simp [c, this]
    · have e : x.testBit (k + s) = false := Nat.testBit_lt_two_pow (Nat.lt_of_lt_of_le hx (Nat.pow_le_pow_right (by omega) (by omega)))
      rw [e, ← h2 k c (by omega)]
      have : 64 - s ≤ k := by omega
      simp [c, this, show k - (64 - s) = k + s - 64 by omega]
  · rw [Nat.testBit_lt_two_pow (Nat.lt_of_lt_of_le hv (Nat.pow_le_pow_right (by omega) (by omega)))]; simp [c]
theorem getW_run {σ : Store} {L w n : Nat} {ws : List Int} {f : Nat → Nat} (P : PkW σ L w n ws) (C : Cont ws w n f) (h0 : 1 ≤ w) (h1 : w ≤ 32) (hn : n < 2 ^ 30) {i : Nat} (hi : i < n) (hf : f i < 2 ^ w) :
    Runs Try.prog 42 [.ptr (some (L + 1, 0)), .int .i64 i] σ (.int .u64 (f i)) σ := by
  have R := P.hd
  have W := P.row
  have wl := P.len
  have e0 := row_int R (o := 0) rfl
  have e1 := row_int R (o := 1) rfl
  have e2 := row_sl R (o := 2) rfl
  obtain ⟨m, ⟨km, rm⟩, m2, m3⟩ := maskW_run σ h0 (show w ≤ 64 by omega)
  obtain ⟨b, hb⟩ : ∃ b, b = i * w := ⟨_, rfl⟩
  have hbn : b + w ≤ w * n := by
    have : (i + 1) * w ≤ n * w := Nat.mul_le_mul_right _ hi
    rw [Nat.add_mul, Nat.one_mul, Nat.mul_comm n w] at this
    omega
  have hwn : w * n ≤ 32 * 2 ^ 30 := Nat.mul_le_mul h1 (by omega)
  have wb : IntKind.wrap .i64 ((i : Int) * w) = (b : Nat) := by
    rw [show (i : Int) * w = ((i * w : Nat) : Int) by simp, ← hb, wrap64 (by omega) (by omega)]
  obtain ⟨d1, d2⟩ := idiv64 (i := (b : Int)) (by omega) (by omega)
  rw [Int.toNat_natCast] at d1 d2
  have s64 : b % 64 < 64 := Nat.mod_lt _ (by omega)
  have hq : b / 64 < ws.length := by omega
  obtain ⟨x, x1, x2⟩ := P.wd (b / 64) hq
  have rx := row_rd W (i := (b / 64 : Nat)) (len := (w * n + 63) / 64) (cp := some ((w * n + 63) / 64)) (by omega) (by omega)
  have c0 : ¬ (i : Int) < 0 := by omega
  have c1 : ¬ (n : Int) ≤ i := by omega
  have c3 : (0 : Int) ≤ (b / 64 : Nat) := by omega
  have c4 : ((b / 64 : Nat) : Int) < ((w * n + 63) / 64 : Nat) := by omega
  have c5 : (0 : Int) ≤ (b % 64 : Nat) := by omega
  have wsw : IntKind.wrap .i64 (((b % 64 : Nat) : Int) + w) = ((b % 64 + w : Nat) : Int) := by rw [wrap64 (by omega) (by omega)]; omega
  have hbit : ∀ k, k < w → k + b % 64 < 64 → x.testBit (k + b % 64) = (f i).testBit k := fun k hk hlt => by
    rw [← C i hi k hk, ← hb]
    unfold bitW
    rw [show (b + k) / 64 = b / 64 by omega, x1, Int.toNat_natCast, show (b + k) % 64 = k + b % 64 by omega]
  by_cases cs : 64 < b % 64 + w
  · have cs' : (64 : Int) < (b % 64 + w : Nat) := by omega
    have hq2 : b / 64 + 1 < ws.length := by omega
    obtain ⟨y, y1, y2⟩ := P.wd (b / 64 + 1) hq2
    have ry := row_rd W (i := (b / 64 + 1 : Nat)) (len := (w * n + 63) / 64) (cp := some ((w * n + 63) / 64)) (by omega) (by omega)
    have wq : IntKind.wrap .i64 (((b / 64 : Nat) : Int) + 1) = ((b / 64 + 1 : Nat) : Int) := by rw [wrap64 (by omega) (by omega)]; omega
    have w64 : IntKind.wrap .i64 (64 - ((b % 64 : Nat) : Int)) = ((64 - b % 64 : Nat) : Int) := by rw [wrap64 (by omega) (by omega)]; omega
    have c6 : (0 : Int) ≤ (b / 64 + 1 : Nat) := by omega
    have c7 : ((b / 64 + 1 : Nat) : Int) < ((w * n + 63) / 64 : Nat) := by omega
    have c8 : (0 : Int) ≤ (64 - b % 64 : Nat) := by omega
    have res := get_hi x2 y2 m2 m3 s64 h1 hf hbit fun k hk hge => by
      rw [← C i hi k hk, ← hb]
      unfold bitW
      rw [show (b + k) / 64 = b / 64 + 1 by omega, y1, Int.toNat_natCast, show (b + k) % 64 = k + b % 64 - 64 by omega]
    refine Runs.intro (fn := Try.f42) (by kernel_rfl) (by kernel_rfl) ⟨km, fun k hk => ?_⟩
    have rm := rm k hk
    simp only at rm
    simp only [f42_eq]
    simp only [Option.bind_some, decide_eq_true_eq, decide_eq_false_iff_not, Bool.not_eq_true', Bool.not_true, Bool.not_false, Bool.false_eq_true, Bool.true_eq_false, Bool.not_eq_eq_eq_not, beq_self_eq_true, beqFT, beqTF, decide_true, decide_false, not_false_eq_true, not_true_eq_false, ne_eq, true_and, and_true, false_and, and_false, and_self, if_true, if_false, ite_true, ite_false, Bool.and_true, Bool.and_false, Bool.true_and, Bool.false_and, Bool.or_true, Bool.true_or, Bool.or_false, Bool.false_or, or_true, true_or, or_false, false_or, or_self, AV.asInt, AV.asBool, AV.asSl, AV.asPtr, AV.asFn, AV.asStr, AV.asMap, AV.asIfc, AV.item, List.length_cons, List.length_nil, List.getElem?_cons_zero, List.getElem?_cons_succ, Nat.zero_add, Option.isNone_some, c0, e1, c1, e0, e2, wb, d1, d2, c3, c4, rx, x1, c5, wsw, cs', wq, c6, c7, ry, y1, w64, c8, rm, res]
  · have cs' : ¬ (64 : Int) < (b % 64 + w : Nat) := by omega
    have res := get_lo x2 m2 m3 s64 hf fun k hk => hbit k hk (by omega)
    refine Runs.intro (fn := Try.f42) (by kernel_rfl) (by kernel_rfl) ⟨km, fun k hk => ?_⟩
    have rm := rm k hk
    simp only at rm
    simp only [f42_eq]
    simp only [Option.bind_some, decide_eq_true_eq, decide_eq_false_iff_not, Bool.not_eq_true', Bool.not_true, Bool.not_false, Bool.false_eq_true, Bool.true_eq_false, Bool.not_eq_eq_eq_not, beq_self_eq_true, beqFT, beqTF, decide_true, decide_false, not_false_eq_true, not_true_eq_false, ne_eq, true_and, and_true, false_and, and_false, and_self, if_true, if_false, ite_true, ite_false, Bool.and_true, Bool.and_false, Bool.true_and, Bool.false_and, Bool.or_true, Bool.true_or, Bool.or_false, Bool.false_or, or_true, true_or, or_false, false_or, or_self, AV.asInt, AV.asBool, AV.asSl, AV.asPtr, AV.asFn, AV.asStr, AV.asMap, AV.asIfc, AV.item, List.length_cons, List.length_nil, List.getElem?_cons_zero, List.getElem?_cons_succ, Nat.zero_add, Option.isNone_some, c0, e1, c1, e0, e2, wb, d1, d2, c3, c4, rx, x1, c5, wsw, cs', rm, res]
end Go.Ab


/- How wide numbers are. -/
namespace Go.Ab
open Go Go.Proofs Go.Ab.Wd Go.Ab.Bs Go.Ab.Sai
set_option linter.unusedVariables false
set_option linter.unusedSimpArgs false
def IsLen (x c : Nat) : Prop := x < 2 ^ c ∧ (c = 0 ∨ 2 ^ (c - 1) ≤ x)
theorem IsLen.shift {x c s : Nat} (h : IsLen (x / 2 ^ s) c) (hs : 2 ^ s ≤ x) : IsLen x (s + c) := by
  obtain ⟨h1, h2⟩ := h
  have p : 0 < 2 ^ s := Nat.two_pow_pos s
  have g : 1 ≤ x / 2 ^ s := (Nat.le_div_iff_mul_le p).2 (by omega)
  have c0 : c ≠ 0 := by rintro rfl; simp at h1; omega
  refine ⟨?_, .inr ?_⟩
  · rw [Nat.pow_add, Nat.mul_comm]; exact (Nat.div_lt_iff_lt_mul p).1 h1
  · rcases h2 with h2 | h2
    · exact absurd h2 c0
    · rw [show s + c - 1 = s + (c - 1) by omega, Nat.pow_add, Nat.mul_comm]
      exact (Nat.le_div_iff_mul_le p).1 h2
theorem IsLen.uniq {x c d : Nat} (h : IsLen x c) (g : IsLen x d) : c = d := by
  obtain ⟨h1, h2⟩ := h
  obtain ⟨g1, g2⟩ := g
  have m : ∀ {a b : Nat}, a < b → x < 2 ^ a → (b = 0 ∨ 2 ^ (b - 1) ≤ x) → False := fun {a b} hab ha hb => by
    rcases hb with hb | hb
    · omega
    · have : 2 ^ a ≤ 2 ^ (b - 1) := Nat.pow_le_pow_right (by omega) (by omega)
      omega
  by_cases c1 : c < d
  · exact (m c1 h1 g2).elim
  · by_cases c2 : d < c
    · exact (m c2 g1 h2).elim
    · omega
theorem tab_ok : ∀ v : Fin 256, ∃ c : Fin 9, strAt len8tab v.val = some (c.val : Int) ∧ (v.val < 2 ^ c.val ∧ (c.val = 0 ∨ 2 ^ (c.val - 1) ≤ v.val)) := by decide +kernel
theorem tab_get {v : Nat} (hv : v < 256) : ∃ c : Nat, c ≤ 8 ∧ strAt len8tab v = some (c : Int) ∧ IsLen v c := by
  obtain ⟨c, h1, h2⟩ := tab_ok ⟨v, hv⟩
  exact ⟨c.val, by omega, h1, h2⟩
theorem wrapu8 {x : Int} (h0 : 0 ≤ x) (h1 : x < 256) : IntKind.wrap .u8 x = x := by
  unfold IntKind.wrap
  have e2 : (2 : Int) ^ IntKind.u8.bits = 256 := by decide
  simp [e2, IntKind.signed]; omega
theorem len64_run (σ : Store) {x : Nat} (hx : x < 2 ^ 24) : ∃ c : Nat, c ≤ 24 ∧ Runs Try.prog 54 [.int .u64 x] σ (.int .i64 c) σ ∧ IsLen x c := by
  have c1 : ¬ (4294967296 : Int) ≤ x := by omega
  have s16 : shrI .u64 (x : Int) 16 = ((x / 65536 : Nat) : Int) := shr_u64 (s := 16) (by omega)
  have s8 : shrI .u64 (x : Int) 8 = ((x / 256 : Nat) : Int) := shr_u64 (s := 8) (by omega)
  by_cases c2 : 65536 ≤ x
  · obtain ⟨c, hc, ht, hl⟩ := tab_get (v := x / 65536) (by omega)
    have c2' : (65536 : Int) ≤ x := by omega
    have c3 : ¬ (256 : Int) ≤ (x / 65536 : Nat) := by omega
    have w1 : IntKind.wrap .u8 ((x / 65536 : Nat) : Int) = (x / 65536 : Nat) := wrapu8 (by omega) (by omega)
    have c4 : (0 : Int) ≤ (x / 65536 : Nat) := by omega
    have w2 : IntKind.wrap .i64 (0 + 16) = 16 := by decide
    have w3 : IntKind.wrap .i64 (c : Int) = c := wrap64 (by omega) (by omega)
    have w4 : IntKind.wrap .i64 (16 + (c : Int)) = (16 + c : Nat) := by rw [wrap64 (by omega) (by omega)]; omega
    exact ⟨16 + c, by omega, Runs.intro (fn := Try.f54) (by kernel_rfl) (by kernel_rfl) (Ev.of fun k => by
      rw [f54_eq]; simp only [Option.bind_some, decide_eq_true_eq, decide_eq_false_iff_not, Bool.not_eq_true', Bool.not_true, Bool.not_false, Bool.false_eq_true, Bool.true_eq_false, Bool.not_eq_eq_eq_not, beq_self_eq_true, beqFT, beqTF, decide_true, decide_false, not_false_eq_true, not_true_eq_false, ne_eq, true_and, and_true, false_and, and_false, and_self, if_true, if_false, ite_true, ite_false, Bool.and_true, Bool.and_false, Bool.true_and, Bool.false_and, Bool.or_true, Bool.true_or, Bool.or_false, Bool.false_or, or_true, true_or, or_false, false_or, or_self, AV.asInt, AV.asBool, AV.asSl, AV.asPtr, AV.asFn, AV.asStr, AV.asMap, AV.asIfc, AV.item, List.length_cons, List.length_nil, List.getElem?_cons_zero, List.getElem?_cons_succ, Nat.zero_add, c1, c2', s16, c3, w1, c4, Int.toNat_natCast, ht, w2, w3, w4]), IsLen.shift (s := 16) hl (by omega)⟩
  · by_cases c3 : 256 ≤ x
    · obtain ⟨c, hc, ht, hl⟩ := tab_get (v := x / 256) (by omega)
      have c2' : ¬ (65536 : Int) ≤ x := by omega
      have c3' : (256 : Int) ≤ x := by omega
      have w1 : IntKind.wrap .u8 ((x / 256 : Nat) : Int) = (x / 256 : Nat) := wrapu8 (by omega) (by omega)
      have c4 : (0 : Int) ≤ (x / 256 : Nat) := by omega
      have w2 : IntKind.wrap .i64 (0 + 8) = 8 := by decide
      have w3 : IntKind.wrap .i64 (c : Int) = c := wrap64 (by omega) (by omega)
      have w4 : IntKind.wrap .i64 (8 + (c : Int)) = (8 + c : Nat) := by rw [wrap64 (by omega) (by omega)]; omega
      exact ⟨8 + c, by omega, Runs.intro (fn := Try.f54) (by kernel_rfl) (by kernel_rfl) (Ev.of fun k => by
        rw [f54_eq]; simp only [Option.bind_some, decide_eq_true_eq, decide_eq_false_iff_not, Bool.not_eq_true', Bool.not_true, Bool.not_false, Bool.false_eq_true, Bool.true_eq_false, Bool.not_eq_eq_eq_not, beq_self_eq_true, beqFT, beqTF, decide_true, decide_false, not_false_eq_true, not_true_eq_false, ne_eq, true_and, and_true, false_and, and_false, and_self, if_true, if_false, ite_true, ite_false, Bool.and_true, Bool.and_false, Bool.true_and, Bool.false_and, Bool.or_true, Bool.true_or, Bool.or_false, Bool.false_or, or_true, true_or, or_false, false_or, or_self, AV.asInt, AV.asBool, AV.asSl, AV.asPtr, AV.asFn, AV.asStr, AV.asMap, AV.asIfc, AV.item, List.length_cons, List.length_nil, List.getElem?_cons_zero, List.getElem?_cons_succ, Nat.zero_add, c1, c2', s8, c3', w1, c4, Int.toNat_natCast, ht, w2, w3, w4]), IsLen.shift (s := 8) hl (by omega)⟩
    · obtain ⟨c, hc, ht, hl⟩ := tab_get (v := x) (by omega)
      have c2' : ¬ (65536 : Int) ≤ x := by omega
      have c3' : ¬ (256 : Int) ≤ x := by omega
      have w1 : IntKind.wrap .u8 (x : Int) = x := wrapu8 (by omega) (by omega)
      have c4 : (0 : Int) ≤ (x : Int) := by omega
      have w3 : IntKind.wrap .i64 (c : Int) = c := wrap64 (by omega) (by omega)
      have w4 : IntKind.wrap .i64 (0 + (c : Int)) = c := by rw [wrap64 (by omega) (by omega)]; omega
      exact ⟨c, by omega, Runs.intro (fn := Try.f54) (by kernel_rfl) (by kernel_rfl) (Ev.of fun k => by
        rw [f54_eq]; simp only [Option.bind_some, decide_eq_true_eq, decide_eq_false_iff_not, Bool.not_eq_true', Bool.not_true, Bool.not_false, Bool.false_eq_true, Bool.true_eq_false, Bool.not_eq_eq_eq_not, beq_self_eq_true, beqFT, beqTF, decide_true, decide_false, not_false_eq_true, not_true_eq_false, ne_eq, true_and, and_true, false_and, and_false, and_self, if_true, if_false, ite_true, ite_false, Bool.and_true, Bool.and_false, Bool.true_and, Bool.false_and, Bool.or_true, Bool.true_or, Bool.or_false, Bool.false_or, or_true, true_or, or_false, false_or, or_self, AV.asInt, AV.asBool, AV.asSl, AV.asPtr, AV.asFn, AV.asStr, AV.asMap, AV.asIfc, AV.item, List.length_cons, List.length_nil, List.getElem?_cons_zero, List.getElem?_cons_succ, Nat.zero_add, c1, c2', c3', w1, c4, Int.toNat_natCast, ht, w3, w4]), hl⟩
/-- The width of numbers up to one. -/
def IsWid (x w : Nat) : Prop := 1 ≤ w ∧ w ≤ 24 ∧ x < 2 ^ w ∧ (w = 1 ∨ 2 ^ (w - 1) ≤ x)
theorem IsWid.uniq {x c d : Nat} (h : IsWid x c) (g : IsWid x d) : c = d := by
  obtain ⟨h0, _, h1, h2⟩ := h
  obtain ⟨g0, _, g1, g2⟩ := g
  have m : ∀ {a b : Nat}, 1 ≤ a → a < b → x < 2 ^ a → (b = 1 ∨ 2 ^ (b - 1) ≤ x) → False := fun {a b} ha0 hab ha hb => by
    rcases hb with hb | hb
    · omega
    · have : 2 ^ a ≤ 2 ^ (b - 1) := Nat.pow_le_pow_right (by omega) (by omega)
      omega
  by_cases c1 : c < d
  · exact (m h0 c1 h1 g2).elim
  · by_cases c2 : d < c
    · exact (m g0 c2 g1 h2).elim
    · omega
theorem width_run (σ : Store) {x : Nat} (hx : x < 2 ^ 24) : ∃ w : Nat, Runs Try.prog 34 [.int .u64 x] σ (.int .i64 w) σ ∧ IsWid x w := by
  obtain ⟨c, c24, ⟨k, r⟩, h1, h2⟩ := len64_run σ hx
  have e : mx2 (Int.ofNat 1) c = ((max 1 c : Nat) : Int) := by rw [mx2_eq]; simp only [Int.ofNat_eq_natCast]; omega
  refine ⟨max 1 c, Runs.intro (fn := Try.f34) (by kernel_rfl) (by kernel_rfl) ⟨k, fun m hm => ?_⟩, by omega, by omega, ?_, ?_⟩
  · have r := r m hm
    simp only at r
    simp only [f34_eq]
    simp only [Option.bind_some, decide_eq_true_eq, decide_eq_false_iff_not, Bool.not_eq_true', Bool.not_true, Bool.not_false, Bool.false_eq_true, Bool.true_eq_false, Bool.not_eq_eq_eq_not, beq_self_eq_true, beqFT, beqTF, decide_true, decide_false, not_false_eq_true, not_true_eq_false, ne_eq, true_and, and_true, false_and, and_false, and_self, if_true, if_false, ite_true, ite_false, Bool.and_true, Bool.and_false, Bool.true_and, Bool.false_and, Bool.or_true, Bool.true_or, Bool.or_false, Bool.false_or, or_true, true_or, or_false, false_or, or_self, AV.asInt, AV.asBool, AV.asSl, AV.asPtr, AV.asFn, AV.asStr, AV.asMap, AV.asIfc, AV.item, List.length_cons, List.length_nil, List.getElem?_cons_zero, List.getElem?_cons_succ, Nat.zero_add, r, e]
  · by_cases c1 : 1 ≤ c
    · rw [Nat.max_eq_right c1]; exact h1
    · rw [show c = 0 by omega, Nat.pow_zero] at h1
      rw [show x = 0 by omega]; exact Nat.two_pow_pos _
  · by_cases c1 : 2 ≤ c
    · rw [Nat.max_eq_right (by omega)]; rcases h2 with h2 | h2
      · omega
      · exact .inr h2
    · exact .inl (by omega)
end Go.Ab


/- A level of a wavelet matrix. -/
namespace Go.Ab
open Go Go.Proofs Go.Ab.Wd Go.Ab.Bs Go.Ab.Sai
set_option linter.unusedVariables false
set_option linter.unusedSimpArgs false
theorem bit_test {x : Int} {k : Nat} (x0 : 0 ≤ x) (x1 : x < 2 ^ 62) (hk : k ≤ 64) : bitOp .and .i64 (shrI .i64 x (k : Int)) 1 = ((x.toNat / 2 ^ k % 2 : Nat) : Int) := by
  obtain ⟨a, rfl⟩ := Int.eq_ofNat_of_zero_le x0
  have e : IntKind.i64.bits = 64 := by decide
  have h1 : a / 2 ^ k ≤ a := Nat.div_le_self _ _
  have q : shrI .i64 (a : Int) (k : Int) = ((a / 2 ^ k : Nat) : Int) := by
    unfold shrI
    rw [e, Int.toNat_natCast, Nat.min_eq_left hk, Int.fdiv_eq_ediv_of_nonneg _ (Int.le_of_lt (Int.pow_pos (by omega)))]
    simp
  rw [q]
  show IntKind.wrap .i64 (BitVec.ofInt 64 ((a / 2 ^ k : Nat) : Int) &&& BitVec.ofInt 64 1).toNat = _
  have h2 : (BitVec.ofInt 64 ((a / 2 ^ k : Nat) : Int) &&& BitVec.ofInt 64 1).toNat = a / 2 ^ k % 2 := by
    rw [BitVec.ofInt_natCast, BitVec.toNat_and, BitVec.toNat_ofNat, show (BitVec.ofInt 64 1).toNat = 1 by decide, Nat.and_one_is_mod]
    generalize a / 2 ^ k = u
    omega
  rw [h2, wrap64 (by omega) (by omega), Int.toNat_natCast]
theorem bit_on {x : Int} {k : Nat} (x0 : 0 ≤ x) (x1 : x < 2 ^ 62) (hk : k ≤ 64) (h : bitb k x = true) : bitOp .and .i64 (shrI .i64 x (k : Int)) 1 = 1 := by
  rw [bit_test x0 x1 hk]; simp only [bitb, decide_eq_true_eq] at h; omega
theorem bit_off {x : Int} {k : Nat} (x0 : 0 ≤ x) (x1 : x < 2 ^ 62) (hk : k ≤ 64) (h : bitb k x = false) : ¬ bitOp .and .i64 (shrI .i64 x (k : Int)) 1 = 1 := by
  rw [bit_test x0 x1 hk]; simp only [bitb, decide_eq_false_iff_not] at h; omega
def bitsTo (k n : Nat) (r : List Int) (i : Nat) : List Bool := (r.take i).map (bitb k) ++ List.replicate (n - i) false
theorem bitsTo_len {k : Nat} {r : List Int} {i : Nat} (hi : i ≤ r.length) : (bitsTo k r.length r i).length = r.length := by simp [bitsTo]; omega
theorem bitsTo_off {k : Nat} {r : List Int} {i : Nat} (hi : i < r.length) (h : bitb k (rd r i) = false) : bitsTo k r.length r (i + 1) = bitsTo k r.length r i := by
  unfold bitsTo
  rw [take_rd hi, List.map_append, show r.length - i = (r.length - (i + 1)) + 1 by omega, List.replicate_succ, List.append_assoc]
  simp [h]
theorem bitsTo_on {k : Nat} {r : List Int} {i : Nat} (hi : i < r.length) (h : bitb k (rd r i) = true) : bitsTo k r.length r (i + 1) = (bitsTo k r.length r i).set i true := by
  unfold bitsTo
  rw [take_rd hi, List.map_append, show r.length - i = (r.length - (i + 1)) + 1 by omega, List.replicate_succ, List.append_assoc, List.set_append_right _ _ (show (List.map (bitb k) (List.take i r)).length ≤ i by simp; omega)]
  simp [h, Nat.min_eq_left (Nat.le_of_lt hi)]
theorem bitsTo_end {k : Nat} {r : List Int} : bitsTo k r.length r r.length = r.map (bitb k) := by simp [bitsTo]
theorem split_loop {σ : Store} {L : Nat} {r : List Int} {hr : Hdl} {k : Nat} {pm : Ptr} (hR : σ.Ints hr r) (hL : σ.objs.length = L + 2) (hRo : ∀ x, hr.row = some x → x < L) (P : Pk σ L (List.replicate r.length false)) (hp : σ.prot ≤ L) (hn : r.length < 2 ^ 30) (hk : k ≤ 64) (hx : ∀ x ∈ r, 0 ≤ x ∧ x < 2 ^ 62) :
    ∃ lo hi σ', EvI (fun kk s => stepF Try.prog (gm Try.prog kk) drawn kk Try.f32 [1, 1, 1, 1, 0, 1, 0, 0, 1, 0, 0, 1, 1, 0, 1, 0] [61, 60, 59, 12, 11, 9, 8, 6] s)
      ([.int .i64 0, .int .i64 r.length, .slice hr, .slice Hdl.nil, .slice Hdl.nil, .ptr (some (L + 1, 0)), .int .i64 k, .ptr pm], σ) (AX.exit 2, [(12, .slice hi), (11, .slice lo), (9, .ptr (some (L + 1, 0))), (8, .int .i64 k), (6, .ptr pm)], σ') ∧
      Kp L σ σ' ∧ Pk σ' L (r.map (bitb k)) ∧ GrowI σ' (L + 2) lo (low k r) ∧ GrowI σ' (L + 2) hi (high k r) ∧ (∀ x, lo.row = some x → hi.row ≠ some x) := by
  have lr := hR.ilen
  obtain ⟨rr, e, lo, hi, σ', rfl, h1, h2, h3, h4, h5⟩ := EvI.up (f := fun kk s => stepF Try.prog (gm Try.prog kk) drawn kk Try.f32 [1, 1, 1, 1, 0, 1, 0, 0, 1, 0, 0, 1, 1, 0, 1, 0] [61, 60, 59, 12, 11, 9, 8, 6] s) r.length
    (fun i s => ∃ lo hi s1, s = ([.int .i64 i, .int .i64 r.length, .slice hr, .slice hi, .slice lo, .ptr (some (L + 1, 0)), .int .i64 k, .ptr pm], s1) ∧ Kp L σ s1 ∧ Pk s1 L (bitsTo k r.length r i) ∧ GrowI s1 (L + 2) lo (low k (r.take i)) ∧ GrowI s1 (L + 2) hi (high k (r.take i)) ∧ (∀ x, lo.row = some x → hi.row ≠ some x))
    (fun q => ∃ lo hi s1, q = (AX.exit 2, [(12, .slice hi), (11, .slice lo), (9, .ptr (some (L + 1, 0))), (8, .int .i64 k), (6, .ptr pm)], s1) ∧ Kp L σ s1 ∧ Pk s1 L (r.map (bitb k)) ∧ GrowI s1 (L + 2) lo (low k r) ∧ GrowI s1 (L + 2) hi (high k r) ∧ (∀ x, lo.row = some x → hi.row ≠ some x))
    (by
      rintro i s hi_ ⟨lo, hi, s1, rfl, kk, P1, ga, gb, d⟩
      have i0 : (0 : Int) ≤ i := by omega
      have i1 : (i : Int) < r.length := by omega
      have w := wsucc hi_ (by omega)
      have hR1 : s1.Ints hr r := Store.Sl.keep hR fun c o ho => kk.keep c (hRo c (by simp [Hdl.row, ho]))
      have rx := hR1.rd i0 i1
      have hxr := hx _ (rd_mem i0 i1)
      have l1 := kk.len
      have p1 : s1.prot ≤ L := by rw [kk.prot]; exact hp
      have k0 : (0 : Int) ≤ k := by omega
      cases hb : bitb k (rd r i) with
      | true =>
        have c := bit_on hxr.1 hxr.2 hk hb
        obtain ⟨s2, ⟨n2, r2⟩, k2, o2, P2⟩ := set_run P1 p1 (i := i) (by rw [bitsTo_len (Nat.le_of_lt hi_)]; exact hi_) (by rw [bitsTo_len (Nat.le_of_lt hi_)]; exact hn)
        rw [← bitsTo_on hi_ hb] at P2
        have l2 := o2.len
        have ga2 : GrowI s2 (L + 2) lo _ := ga.keep fun c o ho => o2.off c (by have := ga.rowLt c o ho; omega)
        have gb2 : GrowI s2 (L + 2) hi _ := gb.keep fun c o ho => o2.off c (by have := gb.rowLt c o ho; omega)
        obtain ⟨h', s3, e3, k3, gb3, fr, rw3⟩ := growN_appX (k := .i64) (bs := 8) gb2 (by rw [k2.prot]; omega) (by omega) (rd r i) (by omega) (by omega) (by
          have := List.length_filter_le (bitb k) (r.take i); simp [high] at this ⊢; omega)
        have ga3 : GrowI s3 (L + 2) lo _ := ga2.keepX fun x hx => fr x (ga2.has x hx) fun e => d x hx e
        refine ⟨_, ⟨n2, fun m hm => ?_⟩, lo, h', s3, rfl, (kk.trans k2).trans (k3.mono (by omega)), ⟨?_, P2.row.kp k3 (by omega)⟩, ?_, ?_, fun x hx => ?_⟩
        · have r2 := r2 m hm
          simp only at r2
          simp only [f32_L1111010010011010]
          simp only [Option.bind_some, decide_eq_true_eq, decide_eq_false_iff_not, Bool.not_eq_true', Bool.not_true, Bool.not_false, Bool.false_eq_true, Bool.true_eq_false, Bool.not_eq_eq_eq_not, beq_self_eq_true, beqFT, beqTF, decide_true, decide_false, not_false_eq_true, not_true_eq_false, ne_eq, true_and, and_true, false_and, and_false, and_self, if_true, if_false, ite_true, ite_false, Bool.and_true, Bool.and_false, Bool.true_and, Bool.false_and, Bool.or_true, Bool.true_or, Bool.or_false, Bool.false_or, or_true, true_or, or_false, false_or, or_self, AV.asInt, AV.asBool, AV.asSl, AV.asPtr, AV.asFn, AV.asStr, AV.asMap, AV.asIfc, AV.item, List.length_cons, List.length_nil, List.getElem?_cons_zero, List.getElem?_cons_succ, Nat.zero_add, lr, i0, i1, rx, k0, c, r2, read1, e3, w]
        · obtain ⟨ws, W, wb⟩ := P2.ex
          exact ⟨ws, W.kp k3 (by omega), wb⟩
        · rw [take_rd hi_, low, List.filter_append, List.filter_cons_of_neg (by simp [hb]), List.filter_nil, List.append_nil]; exact ga3
        · rw [take_rd hi_, high, List.filter_append, List.filter_cons_of_pos hb]; exact gb3
        · rcases rw3 with h | h
          · rw [h]; exact d x hx
          · intro e; have := h x e; have := ga2.has x hx; omega
      | false =>
        have c := bit_off hxr.1 hxr.2 hk hb
        obtain ⟨h', s3, e3, k3, ga3, fr, rw3⟩ := growN_appX (k := .i64) (bs := 8) ga (by omega) (by omega) (rd r i) (by omega) (by omega) (by
          have := List.length_filter_le (fun x => !bitb k x) (r.take i); simp [low] at this ⊢; omega)
        have gb3 : GrowI s3 (L + 2) hi _ := gb.keepX fun x hx => fr x (gb.has x hx) fun e => d x e hx
        refine ⟨_, Ev.of fun m => ?_, h', hi, s3, rfl, kk.trans (k3.mono (by omega)), ?_, ?_, ?_, fun x hx => ?_⟩
        · simp only [f32_L1111010010011010]
          simp only [Option.bind_some, decide_eq_true_eq, decide_eq_false_iff_not, Bool.not_eq_true', Bool.not_true, Bool.not_false, Bool.false_eq_true, Bool.true_eq_false, Bool.not_eq_eq_eq_not, beq_self_eq_true, beqFT, beqTF, decide_true, decide_false, not_false_eq_true, not_true_eq_false, ne_eq, true_and, and_true, false_and, and_false, and_self, if_true, if_false, ite_true, ite_false, Bool.and_true, Bool.and_false, Bool.true_and, Bool.false_and, Bool.or_true, Bool.true_or, Bool.or_false, Bool.false_or, or_true, true_or, or_false, false_or, or_self, AV.asInt, AV.asBool, AV.asSl, AV.asPtr, AV.asFn, AV.asStr, AV.asMap, AV.asIfc, AV.item, List.length_cons, List.length_nil, List.getElem?_cons_zero, List.getElem?_cons_succ, Nat.zero_add, lr, i0, i1, rx, k0, c, read1, e3, w]
        · rw [bitsTo_off hi_ hb]
          obtain ⟨ws, W, wb⟩ := P1.ex
          exact ⟨⟨ws, W.kp k3 (by omega), wb⟩, P1.row.kp k3 (by omega)⟩
        · rw [take_rd hi_, low, List.filter_append, List.filter_cons_of_pos (by simp [hb])]; exact ga3
        · rw [take_rd hi_, high, List.filter_append, List.filter_cons_of_neg (by simp [hb]), List.filter_nil, List.append_nil]; exact gb3
        · rcases rw3 with h | h
          · exact d x (h ▸ hx)
          · intro e; have := h x hx; have := gb.has x e; omega)
    (by
      rintro s ⟨lo, hi, s1, rfl, kk, P1, ga, gb, d⟩
      rw [List.take_length] at ga gb
      rw [bitsTo_end] at P1
      exact ⟨(AX.exit 2, [(12, .slice hi), (11, .slice lo), (9, .ptr (some (L + 1, 0))), (8, .int .i64 k), (6, .ptr pm)], s1), Ev.of fun m => by simp only [f32_L1111010010011010]; simp only [Option.bind_some, decide_eq_true_eq, decide_eq_false_iff_not, Bool.not_eq_true', Bool.not_true, Bool.not_false, Bool.false_eq_true, Bool.true_eq_false, Bool.not_eq_eq_eq_not, beq_self_eq_true, beqFT, beqTF, decide_true, decide_false, not_false_eq_true, not_true_eq_false, ne_eq, true_and, and_true, false_and, and_false, and_self, if_true, if_false, ite_true, ite_false, Bool.and_true, Bool.and_false, Bool.true_and, Bool.false_and, Bool.or_true, Bool.true_or, Bool.or_false, Bool.false_or, or_true, true_or, or_false, false_or, or_self, AV.asInt, AV.asBool, AV.asSl, AV.asPtr, AV.asFn, AV.asStr, AV.asMap, AV.asIfc, AV.item, List.length_cons, List.length_nil, List.getElem?_cons_zero, List.getElem?_cons_succ, Nat.zero_add, Int.lt_irrefl], lo, hi, s1, rfl, kk, P1, ga, gb, d⟩)
    (s := ([.int .i64 0, .int .i64 r.length, .slice hr, .slice Hdl.nil, .slice Hdl.nil, .ptr (some (L + 1, 0)), .int .i64 k, .ptr pm], σ))
    ⟨Hdl.nil, Hdl.nil, σ, rfl, Kp.refl _ _, by simpa [bitsTo] using P, Grow.nil _ _ _, Grow.nil _ _ _, fun x hx => by simp [Hdl.row, Hdl.nil] at hx⟩
  exact ⟨lo, hi, σ', e, h1, h2, h3, h4, h5⟩
end Go.Ab


/- A wavelet matrix in memory; how it is made. -/
namespace Go.Ab
open Go Go.Proofs Go.Ab.Wd Go.Ab.Bs Go.Ab.Sai
set_option linter.unusedVariables false
set_option linter.unusedSimpArgs false
/-- The bits of a level. -/
def lev (w : Nat) (l : List Int) (j : Nat) : List Bool := (Bs.rowAt w l (w - j)).map (bitb (w - j - 1))
/-- A matrix in memory. -/
structure Mat (σ : Store) (p : Ptr) (l : List Int) (w : Nat) : Prop where
  ex : ∃ b hl ps, p = some (b, 0) ∧ σ.Row b 3 [.int .i64 l.length, .int .i64 w, .slice hl] ∧ σ.Sl hl 1 (ptrsL ps) ∧ ps.length = w ∧ ∀ j, j < w → ∃ q, ps[j]? = some q ∧ Vec σ q (lev w l j)
  wid : 1 ≤ w ∧ w ≤ 24
  small : l.length ≤ 4194304
  rng : ∀ x ∈ l, 0 ≤ x ∧ x < 2 ^ w
theorem Mat.kp {σ σ' : Store} {p : Ptr} {l : List Int} {w : Nat} (m : Mat σ p l w) (k : Kp σ.objs.length σ σ') : Mat σ' p l w := by
  obtain ⟨b, hl, ps, rfl, R, S, lp, V⟩ := m.ex
  exact ⟨⟨b, hl, ps, rfl, R.kp k R.lt, Store.Sl.kp S k, lp, fun j hj => by obtain ⟨q, e, v⟩ := V j hj; exact ⟨q, e, v.kp k⟩⟩, m.wid, m.small, m.rng⟩
def okW (l : List Int) (most : Int) : Bool := decide (0 ≤ most) && (decide (most < 4194304) && (decide (l.length ≤ 4194304) && !(l.any fun c => decide (c < 0) || decide (most < c))))
theorem okW_iff {l : List Int} {most : Int} : okW l most = true ↔ 0 ≤ most ∧ most < 4194304 ∧ l.length ≤ 4194304 ∧ ∀ x ∈ l, 0 ≤ x ∧ x ≤ most := by
  simp only [okW, Bool.and_eq_true, decide_eq_true_eq, Bool.not_eq_true', List.any_eq_false, Bool.or_eq_true, not_or]
  exact ⟨fun ⟨a, b, c, d⟩ => ⟨a, b, c, fun x hx => by have := d x hx; omega⟩, fun ⟨a, b, c, d⟩ => ⟨a, b, c, fun x hx => by have := d x hx; omega⟩⟩
theorem newC1_run {σ : Store} {b : Nat} {al : Int} (h : σ.ldInt .i64 (some (b, 0)) = some al) (x : Int) : Runs Try.prog 51 [.int .i64 x, .ptr (some (b, 0))] σ (.bool (decide (x < 0) || decide (al < x))) σ := by
  refine Runs.intro (fn := Try.f51) (by kernel_rfl) (by kernel_rfl) (Ev.of fun k => ?_)
  rw [f51_eq]
  by_cases c : x < 0
  · simp [c]
  · simp [c, h]
theorem hasRow {h : Hdl} {x : Nat} (hx : h.row = some x) : ∃ o, h.a = some (x, o) := by
  cases ha : h.a with
  | none => simp [Hdl.row, ha] at hx
  | some bo => obtain ⟨c, o⟩ := bo; simp [Hdl.row, ha] at hx; subst hx; exact ⟨o, rfl⟩
theorem ptrsL_append (l m : List Ptr) : ptrsL (l ++ m) = ptrsL l ++ ptrsL m := by simp [ptrsL]
/-- What holds between two levels. -/
structure NewI (σ3 : Store) (b w : Nat) (l : List Int) (m : Nat) (hrow : Hdl) (s1 : Store) : Prop where
  kk : Kp b σ3 s1
  ex : ∃ hl ps, s1.Row b 3 [.int .i64 l.length, .int .i64 w, .slice hl] ∧ Grow s1 (b + 1) hl 1 (ptrsL ps) ∧ ps.length = w - m ∧
    ∀ j, j < w - m → ∃ p lo hi, ps[j]? = some p ∧ VecF s1 p (lev w l j) (fun x => lo ≤ x ∧ x < hi) ∧ b < lo ∧ hi ≤ s1.objs.length ∧ ∀ x, hl.row = some x → ¬ (lo ≤ x ∧ x < hi)
  row : s1.Ints hrow (Bs.rowAt w l m)
  has : s1.Has hrow
theorem new_round {σ3 : Store} {b w : Nat} {l : List Int} {m : Nat} {hrow : Hdl} {s1 : Store} (I : NewI σ3 b w l (m + 1) hrow s1) (hm : m < w) (hw : w ≤ 24) (hp : s1.prot ≤ b) (hl : l.length ≤ 4194304) (hx : ∀ x ∈ l, 0 ≤ x ∧ x < 2 ^ 62) :
    ∃ hrow' s2, Ev (fun k => stepF Try.prog (gm Try.prog k) drawn k Try.f32 [1, 1, 1, 1, 0, 1, 0] [8, 7, 6] ([.int .i64 m, .slice hrow, .ptr (some (b, 0))], s1))
      (.inl ([.int .i64 ((m : Int) - 1), .slice hrow', .ptr (some (b, 0))], s2)) ∧ NewI σ3 b w l m hrow' s2 := by
  obtain ⟨hl_, ps, R, G, lp, V⟩ := I.ex
  have q0 := row_int R (o := 0) rfl
  have bl := R.lt
  obtain ⟨r, hr⟩ : ∃ r, r = Bs.rowAt w l (m + 1) := ⟨_, rfl⟩
  have lr : r.length = l.length := by rw [hr, rowAt_length]
  have hI := I.row
  rw [← hr] at hI
  -- the packed bits
  obtain ⟨s2, ⟨k2, r2⟩, K2, len2, P2⟩ := packNew_run (σ := s1) (n := l.length) hl
  have I2 : s2.Ints hrow r := Store.Sl.kp hI K2
  obtain ⟨lo, hi, s3, e3, K3, P3, glo, ghi, dd⟩ := split_loop (k := m) (pm := some (b, 0)) I2 len2 (fun x hx => I.has x hx) (by rw [lr]; exact P2) (by rw [K2.prot]; omega) (by omega) (by omega) (fun x hx' => hx x (by rw [hr] at hx'; exact (rowAt_mem _ _ _ _).1 hx'))
  have l3 := K3.len
  have p3 : s3.prot ≤ b := by rw [K3.prot, K2.prot]; exact hp
  have K13 : Kp s1.objs.length s1 s3 := K2.trans K3
  obtain ⟨q, s4, ⟨k4, r4⟩, K4, VF⟩ := rankNew_run P3 (by omega) (by simp; omega)
  have l4 := K4.len
  have K14 : Kp s1.objs.length s1 s4 := K13.trans (K4.mono (by omega))
  have R4 := R.kp K14 bl
  have G4 : Grow s4 (b + 1) hl_ 1 (ptrsL ps) := G.kp K14
  have q4 := row_sl R4 (o := 2) rfl
  have p4 : s4.prot ≤ b := by rw [K4.prot]; exact p3
  have lpl : ps.length ≤ 24 := by omega
  obtain ⟨hl', s5, e5, K5, G5, fr5, rw5⟩ := Grow.app1X G4 (by omega) R4.lt (v := .ptr q) rfl (bs := 8) (by omega) (by simp; omega)
  have l5 := K5.len
  have R5 := R4.kp K5 (Nat.lt_succ_self b)
  have p5 : s5.prot ≤ b := by rw [K5.prot]; exact p4
  have t5 := st_fld R5 p5 (o := 2) (by simp) (v := .slice hl') rfl
  obtain ⟨s6, hs6⟩ : ∃ s, s = s5.setO b (.cells ([.int .i64 l.length, .int .i64 w, .slice hl_].set 2 (.slice hl')) true 3) := ⟨_, rfl⟩
  rw [← hs6] at t5
  have l6 : s6.objs.length = s5.objs.length := by rw [hs6]; exact setO_len
  have p6 : s6.prot ≤ b := by rw [hs6]; exact p5
  have R6 : s6.Row b 3 [.int .i64 l.length, .int .i64 w, .slice hl'] := by rw [hs6]; exact Store.Row.setO_eq R5.lt
  have f6 : ∀ x, x ≠ b → s6.objs[x]? = s5.objs[x]? := fun x hx => by rw [hs6]; show (s5.objs.set b _)[x]? = _; rw [List.getElem?_set, if_neg (by omega)]
  -- what of the lists is left as it was
  have hlr : ∀ x, hl_.row = some x → x < s1.objs.length := fun x hx => G.has x hx
  have old5 : ∀ x, s1.objs.length ≤ x → x < s4.objs.length → s5.objs[x]? = s4.objs[x]? := fun x h1 h2 => fr5 x h2 fun e => by have := hlr x e; omega
  have nlo : ∀ x o, lo.a = some (x, o) → s1.objs.length + 2 ≤ x ∧ x < s3.objs.length := fun x o e => glo.rowLt x o e
  have nhi : ∀ x o, hi.a = some (x, o) → s1.objs.length + 2 ≤ x ∧ x < s3.objs.length := fun x o e => ghi.rowLt x o e
  have keep36 : ∀ x, s1.objs.length ≤ x → x < s3.objs.length → s6.objs[x]? = s3.objs[x]? := fun x h1 h2 => by rw [f6 x (by omega), old5 x h1 (by omega), K4.keep x h2]
  have glo6 : GrowI s6 (s1.objs.length + 2) lo (low m r) := glo.keep fun x o e => keep36 x (by have := nlo x o e; omega) (nlo x o e).2
  have ghi6 : GrowI s6 (s1.objs.length + 2) hi (high m r) := ghi.keep fun x o e => keep36 x (by have := nhi x o e; omega) (nhi x o e).2
  have lwl := low_length m r
  have lh := ghi6.ints.ilen
  have llo := glo6.ints.ilen
  obtain ⟨h7, s7, e7, K7, S7, O7, len7, fr7⟩ := app_spec (xs := intsL (high m r)) (by_ := 8) (m := hi.len) glo6.sl glo6.own (by omega) (by omega) (by omega) (by simp; omega) (intsL_one _) (by omega) (by omega)
  have l7 := K7.len
  have rd6 : Store.readSl s6 hi 1 = some (intsL (high m r)) := Store.Sl.read ghi6.sl
  refine ⟨h7, s7, ?_, ⟨?_, ⟨hl', ps ++ [q], ?_, ?_, ?_, ?_⟩, ?_, ?_⟩⟩
  · obtain ⟨n3, e3⟩ := loopF_ev e3
    refine ⟨k2 + n3 + k4, fun k hk => ?_⟩
    have r2 := r2 k (by omega)
    have e3 := e3 k (by omega)
    have r4 := r4 k (by omega)
    simp only at r2 e3 r4
    have hrl := I2.ilen
    have i0 : (0 : Int) ≤ m := by omega
    have w1 : IntKind.wrap .i64 ((m : Int) - 1) = m - 1 := wrap64 (by omega) (by omega)
    simp only [f32_L1111010]
    simp only [Option.bind_some, decide_eq_true_eq, decide_eq_false_iff_not, Bool.not_eq_true', Bool.not_true, Bool.not_false, Bool.false_eq_true, Bool.true_eq_false, Bool.not_eq_eq_eq_not, beq_self_eq_true, beqFT, beqTF, decide_true, decide_false, not_false_eq_true, not_true_eq_false, ne_eq, true_and, and_true, false_and, and_false, and_self, if_true, if_false, ite_true, ite_false, Bool.and_true, Bool.and_false, Bool.true_and, Bool.false_and, Bool.or_true, Bool.true_or, Bool.or_false, Bool.false_or, or_true, true_or, or_false, false_or, or_self, AV.asInt, AV.asBool, AV.asSl, AV.asPtr, AV.asFn, AV.asStr, AV.asMap, AV.asIfc, AV.item, List.length_cons, List.length_nil, List.getElem?_cons_zero, List.getElem?_cons_succ, Nat.zero_add, i0, q0, r2, hrl, e3]
    rw [f32_X1111010010011010_1]
    simp only [Option.bind_some, decide_eq_true_eq, decide_eq_false_iff_not, Bool.not_eq_true', Bool.not_true, Bool.not_false, Bool.false_eq_true, Bool.true_eq_false, Bool.not_eq_eq_eq_not, beq_self_eq_true, beqFT, beqTF, decide_true, decide_false, not_false_eq_true, not_true_eq_false, ne_eq, true_and, and_true, false_and, and_false, and_self, if_true, if_false, ite_true, ite_false, Bool.and_true, Bool.and_false, Bool.true_and, Bool.false_and, Bool.or_true, Bool.true_or, Bool.or_false, Bool.false_or, or_true, true_or, or_false, false_or, or_self, AV.asInt, AV.asBool, AV.asSl, AV.asPtr, AV.asFn, AV.asStr, AV.asMap, AV.asIfc, AV.item, List.length_cons, List.length_nil, List.getElem?_cons_zero, List.getElem?_cons_succ, Nat.zero_add, r4, q4, read1, e5, t5, rd6, e7, w1]
  · have k56 : Kp b s5 s6 := by rw [hs6]; exact (Kp.refl _ _).setO (Nat.le_refl _)
    exact (((I.kk.trans (K14.mono (by omega))).trans (K5.mono (by omega))).trans k56).trans (K7.mono (by omega))
  · exact R6.kp K7 (by omega)
  · rw [ptrsL_append]
    refine (G5.keep fun x o e => f6 x (by have := G5.rowLt x o e; omega)).keep fun x o e => ?_
    have hx : hl'.row = some x := by simp [Hdl.row, e]
    refine fr7 x (fun c o' e' => ?_) (by have := (G5.rowLt x o e).2; omega)
    have := nlo c o' e'
    rcases rw5 with h | h
    · have := hlr x (h ▸ hx); omega
    · have := h x hx; omega
  · rw [List.length_append, lp]; simp; omega
  · intro j hj
    by_cases c : j < w - (m + 1)
    · obtain ⟨p, a, z, h1, h2, h3, h4, h5⟩ := V j c
      refine ⟨p, a, z, by rw [List.getElem?_append_left (by omega)]; exact h1, h2.keep fun x hx => ?_, h3, by omega, fun x hx => ?_⟩
      · rw [fr7 x (fun c o' e' => by have := nlo c o' e'; omega) (by omega), f6 x (by omega), fr5 x (by omega) fun e => h5 x e hx, K14.keep x (by omega)]
      · rcases rw5 with h | h
        · exact h5 x (h ▸ hx)
        · have := h x hx; omega
    · have ej : j = w - (m + 1) := by omega
      refine ⟨q, s3.objs.length, s4.objs.length, by rw [List.getElem?_append_right (by omega), lp, ej]; simp, ?_, by omega, by omega, fun x hx => ?_⟩
      · have e : lev w l j = r.map (bitb m) := by unfold lev; rw [hr, ej, show w - (w - (m + 1)) = m + 1 by omega]; rfl
        rw [e]
        refine VF.keep fun x hx => ?_
        rw [fr7 x (fun c o' e' => by have := nlo c o' e'; omega) (by omega), f6 x (by omega), old5 x (by omega) hx.2]
      · rcases rw5 with h | h
        · have := hlr x (h ▸ hx); omega
        · have := h x hx; omega
  · rw [rowAt_step w l m hm, ← hr]
    have := S7
    rw [← intsL_append] at this
    exact this
  · intro x hx
    obtain ⟨o, ho⟩ := hasRow hx
    obtain ⟨_, cs, hc, _⟩ := O7.own x o ho
    exact (List.getElem?_eq_some_iff.1 hc).1
end Go.Ab


/- Counts. -/
namespace Go.Ab
open Go Go.Proofs Go.Ab.Wd Go.Ab.Bs Go.Ab.Sai
set_option linter.unusedVariables false
set_option linter.unusedSimpArgs false
/-- May a list be counted? -/
def okC (t : List Int) (al : Int) : Bool := decide (0 ≤ al) && decide (al ≤ 4194304) && !(t.any fun c => decide (c < 0) || decide (al ≤ c))
theorem okC_iff {t : List Int} {al : Int} : okC t al = true ↔ 0 ≤ al ∧ al ≤ 4194304 ∧ ∀ x ∈ t, 0 ≤ x ∧ x < al := by
  simp only [okC, Bool.and_eq_true, decide_eq_true_eq, Bool.not_eq_true', List.any_eq_false, Bool.or_eq_true, and_assoc]
  refine and_congr_right fun _ => and_congr_right fun _ => ?_
  exact ⟨fun h x hx => by have := h x hx; omega, fun h x hx => by have := h x hx; omega⟩
/-- How many are below each number. -/
def below (b : List Int) (c : Int) : Int := (cnt (fun x => decide (x < c)) b : Nat)
def belows (b : List Int) (n : Nat) : List Int := (List.range n).map fun c : Nat => below b c
theorem belows_length (b : List Int) (n : Nat) : (belows b n).length = n := by simp [belows]
theorem rd_belows {b : List Int} {n : Nat} {c : Int} (h0 : 0 ≤ c) (h1 : c < n) : rd (belows b n) c = below b c := by
  obtain ⟨c, rfl⟩ := Int.eq_ofNat_of_zero_le h0
  rw [rd_getElem (by rw [belows_length]; omega)]
  simp [belows]
theorem below_succ (b : List Int) (c : Int) : below b (c + 1) = below b c + (cnt (fun x => decide (x = c)) b : Nat) := by
  unfold below
  rw [← Int.natCast_add, ← cnt_or b fun x _ => by simp; omega]
  congr 1
  refine cnt_congr fun x _ => ?_
  by_cases c1 : x < c
  · simp [c1]; omega
  · by_cases c2 : x = c
    · simp [c2]; omega
    · simp [c1, c2]; omega
theorem below_zero {b : List Int} (h : ∀ x ∈ b, 0 ≤ x) : below b 0 = 0 := by
  unfold below Bs.cnt
  rw [List.filter_eq_nil_iff.2 fun x hx => by have := h x hx; simp; omega]; rfl
theorem below_le (b : List Int) (c : Int) : 0 ≤ below b c ∧ below b c ≤ b.length := by
  have := cnt_le (fun x => decide (x < c)) b
  unfold below; omega
theorem counts_c1_run {σ : Store} {b : Nat} {al : Int} (h : σ.ldInt .i64 (some (b, 0)) = some al) (x : Int) : Runs Try.prog 50 [.int .i64 x, .ptr (some (b, 0))] σ (.bool (decide (x < 0) || decide (al ≤ x))) σ := by
  refine Runs.intro (fn := Try.f50) (by kernel_rfl) (by kernel_rfl) (Ev.of fun k => ?_)
  rw [f50_eq]
  by_cases c : x < 0
  · simp [c]
  · simp [c, h]
/-- One of each number, a place on. -/
structure CntI (b : List Int) (n : Nat) (i : Nat) (o : List Int) : Prop where
  len : o.length = n + 1
  zero : rd o 0 = 0
  val : ∀ c : Int, 0 ≤ c → c < n → rd o (c + 1) = (cnt (fun x => decide (x = c)) (b.take i) : Nat)
/-- Sums up to a place. -/
structure SumI (b : List Int) (n : Nat) (i : Nat) (o : List Int) : Prop where
  len : o.length = n + 1
  lo : ∀ c : Int, 0 ≤ c → c ≤ i → rd o c = below b c
  hi : ∀ c : Int, (i : Int) ≤ c → c < n → rd o (c + 1) = (cnt (fun x => decide (x = c)) b : Nat)
theorem counts_run {σ : Store} {h : Hdl} {b : List Int} {al : Int} (hT : σ.Ints h b) (hp : σ.prot ≤ σ.objs.length) (hn : b.length < 2 ^ 61) :
    ∃ ho σ', Runs Try.prog 31 [.slice h, .int .i64 al] σ (.tuple [.slice ho, .int .i64 (if okC b al = true then 0 else 2)]) σ' ∧ Kp σ.objs.length σ σ' ∧ σ'.Ints ho (if okC b al = true then belows b (al.toNat + 1) else []) ∧ σ'.Has ho ∧
      (okC b al = true → ∃ N, σ.objs.length ≤ N ∧ ho = hdS N (al.toNat + 1) ∧ σ'.Row N 1 (intsL (belows b (al.toNat + 1)))) := by
  have ll := hT.ilen
  obtain ⟨σ1, h1⟩ : ∃ x, x = σ.push [.int .i64 al] 1 := ⟨_, rfl⟩
  have k1 : Kp σ.objs.length σ σ1 := by rw [h1]; exact Kp.push _ _ (Nat.le_refl _)
  have len1 : σ1.objs.length = σ.objs.length + 1 := by rw [h1]; simp
  have R1 : σ1.Row σ.objs.length 1 [.int .i64 al] := by rw [h1]; exact Store.Row.new
  have ldr : ∀ {s : Store}, s.Row σ.objs.length 1 [.int .i64 al] → s.ldInt .i64 (some (σ.objs.length, 0)) = some al := fun {s} r => by simp only [Store.ldInt, r.cell]; simp
  have e1 := ldr R1
  have hT1 : σ1.Ints h b := Store.Sl.kp hT k1
  have bad : okC b al = false → (∃ k0, ∀ k, k0 ≤ k → evBody Try.prog (gm Try.prog k) drawn k Try.f31 [.slice h, .int .i64 al] σ = some (.tuple [.slice Hdl.nil, .int .i64 2], σ1)) →
      ∃ ho σ', Runs Try.prog 31 [.slice h, .int .i64 al] σ (.tuple [.slice ho, .int .i64 (if okC b al = true then 0 else 2)]) σ' ∧ Kp σ.objs.length σ σ' ∧ σ'.Ints ho (if okC b al = true then belows b (al.toNat + 1) else []) ∧ σ'.Has ho ∧
        (okC b al = true → ∃ N, σ.objs.length ≤ N ∧ ho = hdS N (al.toNat + 1) ∧ σ'.Row N 1 (intsL (belows b (al.toNat + 1)))) := by
    intro hb hr
    rw [if_neg (by rw [hb]; simp), if_neg (by rw [hb]; simp)]
    exact ⟨Hdl.nil, σ1, Runs.intro (fn := Try.f31) (by kernel_rfl) (by kernel_rfl) hr, k1, ints_nil _, Store.Has.nil _, fun h => by rw [hb] at h; cases h⟩
  by_cases c1 : al < 0
  · exact bad (by simp [okC]; omega) ⟨0, fun k _ => by rw [f31_eq, ← h1]; simp only [Option.bind_some, decide_eq_true_eq, decide_eq_false_iff_not, Bool.not_eq_true', Bool.not_true, Bool.not_false, Bool.false_eq_true, Bool.true_eq_false, Bool.not_eq_eq_eq_not, beq_self_eq_true, beqFT, beqTF, decide_true, decide_false, not_false_eq_true, not_true_eq_false, ne_eq, true_and, and_true, false_and, and_false, and_self, if_true, if_false, ite_true, ite_false, Bool.and_true, Bool.and_false, Bool.true_and, Bool.false_and, Bool.or_true, Bool.true_or, Bool.or_false, Bool.false_or, or_true, true_or, or_false, false_or, or_self, AV.asInt, AV.asBool, AV.asSl, AV.asPtr, AV.asFn, AV.asStr, AV.asMap, AV.asIfc, AV.item, List.length_cons, List.length_nil, List.getElem?_cons_zero, List.getElem?_cons_succ, Nat.zero_add, e1, c1]⟩
  by_cases c2 : 4194304 < al
  · exact bad (by simp [okC]; omega) ⟨0, fun k _ => by rw [f31_eq, ← h1]; simp only [Option.bind_some, decide_eq_true_eq, decide_eq_false_iff_not, Bool.not_eq_true', Bool.not_true, Bool.not_false, Bool.false_eq_true, Bool.true_eq_false, Bool.not_eq_eq_eq_not, beq_self_eq_true, beqFT, beqTF, decide_true, decide_false, not_false_eq_true, not_true_eq_false, ne_eq, true_and, and_true, false_and, and_false, and_self, if_true, if_false, ite_true, ite_false, Bool.and_true, Bool.and_false, Bool.true_and, Bool.false_and, Bool.or_true, Bool.true_or, Bool.or_false, Bool.false_or, or_true, true_or, or_false, false_or, or_self, AV.asInt, AV.asBool, AV.asSl, AV.asPtr, AV.asFn, AV.asStr, AV.asMap, AV.asIfc, AV.item, List.length_cons, List.length_nil, List.getElem?_cons_zero, List.getElem?_cons_succ, Nat.zero_add, e1, c1, c2]⟩
  obtain ⟨k2, r2⟩ := containsFunc_run (g := 50) (a := []) (c := [.ptr (some (σ.objs.length, 0))]) hT1 (by omega) (fun x _ => counts_c1_run e1 x)
  by_cases c4 : (b.any fun c => decide (c < 0) || decide (al ≤ c)) = true
  · rw [c4] at r2
    refine bad (by simp only [okC, c4]; simp) ⟨k2, fun k hk => ?_⟩
    have r2 := r2 k hk
    simp only at r2
    rw [f31_eq, ← h1]; simp only [Option.bind_some, decide_eq_true_eq, decide_eq_false_iff_not, Bool.not_eq_true', Bool.not_true, Bool.not_false, Bool.false_eq_true, Bool.true_eq_false, Bool.not_eq_eq_eq_not, beq_self_eq_true, beqFT, beqTF, decide_true, decide_false, not_false_eq_true, not_true_eq_false, ne_eq, true_and, and_true, false_and, and_false, and_self, if_true, if_false, ite_true, ite_false, Bool.and_true, Bool.and_false, Bool.true_and, Bool.false_and, Bool.or_true, Bool.true_or, Bool.or_false, Bool.false_or, or_true, true_or, or_false, false_or, or_self, AV.asInt, AV.asBool, AV.asSl, AV.asPtr, AV.asFn, AV.asStr, AV.asMap, AV.asIfc, AV.item, List.length_cons, List.length_nil, List.getElem?_cons_zero, List.getElem?_cons_succ, Nat.zero_add, e1, c1, c2, r2]
  have c4' : (b.any fun c => decide (c < 0) || decide (al ≤ c)) = false := by simpa using c4
  have hok : okC b al = true := by simp only [okC, c4']; simp; omega
  obtain ⟨g1, g2, g3⟩ := okC_iff.1 hok
  obtain ⟨n, rfl⟩ := Int.eq_ofNat_of_zero_le g1
  rw [if_pos hok, if_pos hok, show ((n : Int)).toNat = n by omega]
  have hrng : ∀ x ∈ b, 0 ≤ x ∧ x < (n : Int) := g3
  obtain ⟨σ2, h2⟩ : ∃ x, x = σ1.push (intsL (List.replicate (n + 1) 0)) 1 := ⟨_, rfl⟩
  have K2 : Kp (σ.objs.length + 1) σ1 σ2 := by rw [h2]; exact Kp.push _ _ (by omega)
  have R2 : σ2.Row σ1.objs.length 1 (intsL (List.replicate (n + 1) 0)) := by rw [h2]; exact Store.Row.new
  -- counts
  obtain ⟨ra, ea, o3, σ3, rfl, K3, R3, M3⟩ := EvI.up (f := fun k s => stepF Try.prog (gm Try.prog k) drawn k Try.f31 [1, 1, 1, 0, 1, 0] [26, 25, 24, 6, 3] s) b.length
    (fun i s => ∃ o s1, s = ([.int .i64 i, .int .i64 b.length, .slice h, .slice (hdS σ1.objs.length (n + 1)), .ptr (some (σ.objs.length, 0))], s1) ∧ Kp (σ.objs.length + 1) σ1 s1 ∧ s1.Row σ1.objs.length 1 (intsL o) ∧ CntI b n i o)
    (fun r => ∃ o s1, r = (AX.exit 0, [(6, .slice (hdS σ1.objs.length (n + 1))), (3, .ptr (some (σ.objs.length, 0)))], s1) ∧ Kp (σ.objs.length + 1) σ1 s1 ∧ s1.Row σ1.objs.length 1 (intsL o) ∧ CntI b n b.length o)
    (by
      rintro i s hi ⟨o, s1, rfl, kk, rr, m⟩
      have i0 : (0 : Int) ≤ i := by omega
      have i1 : (i : Int) < b.length := by omega
      have w := wsucc hi (by omega)
      have rx := Store.Ints.rd (Store.Sl.kp hT (k1.trans (kk.mono (by omega)))) i0 i1
      obtain ⟨x0, x1⟩ := hrng _ (rd_mem i0 i1)
      have lo := m.len
      have w1 : IntKind.wrap .i64 (rd b i + 1) = rd b i + 1 := wrap64 (by omega) (by omega)
      have y0 : 0 ≤ rd b i + 1 := by omega
      have y1 : rd b i + 1 < ((n + 1 : Nat) : Int) := by omega
      have ro := rr.ld_ints (len := n + 1) (cp := some (n + 1)) y0 (by omega)
      have mv := m.val _ x0 x1
      have cl := cnt_le (fun x => decide (x = rd b i)) (b.take i)
      rw [List.length_take] at cl
      have w2 : IntKind.wrap .i64 (rd o (rd b i + 1) + 1) = rd o (rd b i + 1) + 1 := wrap64 (by omega) (by omega)
      have st := st_ints (x := rd o (rd b i + 1) + 1) (len := n + 1) (cp := some (n + 1)) rr (by rw [kk.prot, k1.prot]; omega) y0 (by omega)
      refine ⟨_, Ev.of fun k => by simp only [f31_L111010]; simp only [Option.bind_some, decide_eq_true_eq, decide_eq_false_iff_not, Bool.not_eq_true', Bool.not_true, Bool.not_false, Bool.false_eq_true, Bool.true_eq_false, Bool.not_eq_eq_eq_not, beq_self_eq_true, beqFT, beqTF, decide_true, decide_false, not_false_eq_true, not_true_eq_false, ne_eq, true_and, and_true, false_and, and_false, and_self, if_true, if_false, ite_true, ite_false, Bool.and_true, Bool.and_false, Bool.true_and, Bool.false_and, Bool.or_true, Bool.true_or, Bool.or_false, Bool.false_or, or_true, true_or, or_false, false_or, or_self, AV.asInt, AV.asBool, AV.asSl, AV.asPtr, AV.asFn, AV.asStr, AV.asMap, AV.asIfc, AV.item, List.length_cons, List.length_nil, List.getElem?_cons_zero, List.getElem?_cons_succ, Nat.zero_add, ll, i0, i1, rx, w1, y0, y1, ro, w2, st, w], o.set (rd b i + 1).toNat (rd o (rd b i + 1) + 1), _, rfl, kk.setO (by omega), Store.Row.setO_eq rr.lt, ⟨by simpa using lo, ?_, fun c c0 c1 => ?_⟩⟩
      · rw [rd_set y0 (by omega) (Int.le_refl 0), if_neg (by omega)]; exact m.zero
      · rw [rd_set y0 (by omega) (by omega), cnt_take_succ _ hi, m.val c c0 c1]
        by_cases e : rd b i = c
        · rw [if_pos (by omega), if_pos (by simp [e]), mv, e]; omega
        · rw [if_neg (by omega), if_neg (by simpa using e)]; omega)
    (by
      rintro s ⟨o, s1, rfl, kk, rr, m⟩
      exact ⟨_, Ev.of fun k => by simp only [f31_L111010]; simp only [Option.bind_some, decide_eq_true_eq, decide_eq_false_iff_not, Bool.not_eq_true', Bool.not_true, Bool.not_false, Bool.false_eq_true, Bool.true_eq_false, Bool.not_eq_eq_eq_not, beq_self_eq_true, beqFT, beqTF, decide_true, decide_false, not_false_eq_true, not_true_eq_false, ne_eq, true_and, and_true, false_and, and_false, and_self, if_true, if_false, ite_true, ite_false, Bool.and_true, Bool.and_false, Bool.true_and, Bool.false_and, Bool.or_true, Bool.true_or, Bool.or_false, Bool.false_or, or_true, true_or, or_false, false_or, or_self, AV.asInt, AV.asBool, AV.asSl, AV.asPtr, AV.asFn, AV.asStr, AV.asMap, AV.asIfc, AV.item, List.length_cons, List.length_nil, List.getElem?_cons_zero, List.getElem?_cons_succ, Nat.zero_add, Int.lt_irrefl], o, s1, rfl, kk, rr, m⟩)
    (s := ([.int .i64 0, .int .i64 b.length, .slice h, .slice (hdS σ1.objs.length (n + 1)), .ptr (some (σ.objs.length, 0))], σ2))
    ⟨_, σ2, rfl, K2, R2, ⟨by simp, by simp [rd, List.replicate_succ], fun c c0 c1 => by
      obtain ⟨c, rfl⟩ := Int.eq_ofNat_of_zero_le c0
      rw [show (c : Int) + 1 = ((c + 1 : Nat) : Int) by omega, rd_getElem (by simp; omega)]
      simp [Bs.cnt]⟩⟩
  have e3 := ldr (R1.kp K3 (by omega))
  -- sums
  obtain ⟨rb, eb, σ4, rfl, K4, R4⟩ := EvI.up (f := fun k s => stepF Try.prog (gm Try.prog k) drawn k Try.f31 [1, 1, 1, 1, 0, 1, 0] [39, 38, 6] s) n
    (fun i s => ∃ o s1, s = ([.int .i64 i, .int .i64 n, .slice (hdS σ1.objs.length (n + 1))], s1) ∧ Kp (σ.objs.length + 1) σ1 s1 ∧ s1.Row σ1.objs.length 1 (intsL o) ∧ SumI b n i o)
    (fun r => ∃ s1, r = (AX.exit 2, [(6, .slice (hdS σ1.objs.length (n + 1)))], s1) ∧ Kp (σ.objs.length + 1) σ1 s1 ∧ s1.Row σ1.objs.length 1 (intsL (belows b (n + 1))))
    (by
      rintro i s hi ⟨o, s1, rfl, kk, rr, m⟩
      have i0 : (0 : Int) ≤ i := by omega
      have i1 : (i : Int) < n := by omega
      have w : IntKind.wrap .i64 ((i : Int) + 1) = i + 1 := wrap64 (by omega) (by omega)
      have w' : ((i : Int) + 1) = ((i + 1 : Nat) : Int) := by omega
      have lo := m.len
      have y0 : 0 ≤ (i : Int) + 1 := by omega
      have y1 : (i : Int) + 1 < ((n + 1 : Nat) : Int) := by omega
      have y2 : (i : Int) < ((n + 1 : Nat) : Int) := by omega
      have ra := rr.ld_ints (len := n + 1) (cp := some (n + 1)) y0 (by omega)
      have rb := rr.ld_ints (len := n + 1) (cp := some (n + 1)) i0 (by omega)
      have v1 := m.hi i (Int.le_refl _) i1
      have v2 := m.lo i i0 (Int.le_refl _)
      have bs := below_succ b i
      have bl := below_le b (i + 1)
      have w2 : IntKind.wrap .i64 (rd o ((i : Int) + 1) + rd o i) = below b (i + 1) := by rw [wrap64 (by omega) (by omega)]; omega
      have st := st_ints (x := below b (i + 1)) (len := n + 1) (cp := some (n + 1)) rr (by rw [kk.prot, k1.prot]; omega) y0 (by omega)
      refine ⟨_, Ev.of fun k => by simp only [f31_L1111010]; simp only [Option.bind_some, decide_eq_true_eq, decide_eq_false_iff_not, Bool.not_eq_true', Bool.not_true, Bool.not_false, Bool.false_eq_true, Bool.true_eq_false, Bool.not_eq_eq_eq_not, beq_self_eq_true, beqFT, beqTF, decide_true, decide_false, not_false_eq_true, not_true_eq_false, ne_eq, true_and, and_true, false_and, and_false, and_self, if_true, if_false, ite_true, ite_false, Bool.and_true, Bool.and_false, Bool.true_and, Bool.false_and, Bool.or_true, Bool.true_or, Bool.or_false, Bool.false_or, or_true, true_or, or_false, false_or, or_self, AV.asInt, AV.asBool, AV.asSl, AV.asPtr, AV.asFn, AV.asStr, AV.asMap, AV.asIfc, AV.item, List.length_cons, List.length_nil, List.getElem?_cons_zero, List.getElem?_cons_succ, Nat.zero_add, i0, i1, w, y0, y1, y2, ra, rb, w2, st]; rw [w'], o.set ((i : Int) + 1).toNat (below b (i + 1)), _, rfl, kk.setO (by omega), Store.Row.setO_eq rr.lt, ⟨by simpa using lo, fun c c0 c1 => ?_, fun c c0 c1 => ?_⟩⟩
      · rw [rd_set y0 (by omega) c0]
        by_cases e : (i : Int) + 1 = c
        · rw [if_pos e, e]
        · rw [if_neg e]; exact m.lo c c0 (by omega)
      · rw [rd_set y0 (by omega) (by omega), if_neg (by omega)]; exact m.hi c (by omega) c1)
    (by
      rintro s ⟨o, s1, rfl, kk, rr, m⟩
      have : o = belows b (n + 1) := Bs.ext_rd (by rw [m.len, belows_length]) fun c c0 c1 => by
        have := m.len
        rw [m.lo c c0 (by omega), rd_belows c0 (by omega)]
      subst this
      exact ⟨(AX.exit 2, [(6, .slice (hdS σ1.objs.length (n + 1)))], s1), Ev.of fun k => by simp only [f31_L1111010]; simp only [Option.bind_some, decide_eq_true_eq, decide_eq_false_iff_not, Bool.not_eq_true', Bool.not_true, Bool.not_false, Bool.false_eq_true, Bool.true_eq_false, Bool.not_eq_eq_eq_not, beq_self_eq_true, beqFT, beqTF, decide_true, decide_false, not_false_eq_true, not_true_eq_false, ne_eq, true_and, and_true, false_and, and_false, and_self, if_true, if_false, ite_true, ite_false, Bool.and_true, Bool.and_false, Bool.true_and, Bool.false_and, Bool.or_true, Bool.true_or, Bool.or_false, Bool.false_or, or_true, true_or, or_false, false_or, or_self, AV.asInt, AV.asBool, AV.asSl, AV.asPtr, AV.asFn, AV.asStr, AV.asMap, AV.asIfc, AV.item, List.length_cons, List.length_nil, List.getElem?_cons_zero, List.getElem?_cons_succ, Nat.zero_add, Int.lt_irrefl], s1, rfl, kk, rr⟩)
    (s := ([.int .i64 0, .int .i64 n, .slice (hdS σ1.objs.length (n + 1))], σ3))
    ⟨o3, σ3, rfl, K3, R3, ⟨M3.len, fun c c0 c1 => by
      have : c = 0 := by omega
      rw [this, M3.zero, below_zero fun x hx => (hrng x hx).1], fun c c0 c1 => by
      have := M3.val c (by omega) c1
      rwa [List.take_length] at this⟩⟩
  obtain ⟨na, ea⟩ := loopF_ev ea
  obtain ⟨nb, eb⟩ := loopF_ev eb
  refine ⟨hdS σ1.objs.length (n + 1), σ4, Runs.intro (fn := Try.f31) (by kernel_rfl) (by kernel_rfl) ⟨k2 + na + nb, fun k hk => ?_⟩, k1.trans (K4.mono (by omega)), R4.sl (by simp [belows_length]), fun x e => by simp [Hdl.row] at e; have := R4.lt; omega, fun _ => ⟨_, by omega, rfl, R4⟩⟩
  have r2 := r2 k (by omega)
  have ea := ea k (by omega)
  have eb := eb k (by omega)
  simp only [c4'] at r2 ea eb
  have w1 : IntKind.wrap .i64 ((n : Int) + 1) = ((n + 1 : Nat) : Int) := by rw [wrap64 (by omega) (by omega)]; omega
  have b1 : (0 : Int) ≤ (n + 1 : Nat) := by omega
  have b2 : ((n + 1 : Nat) : Int) * ((8 : Nat) : Int) ≤ 281474976710656 := by omega
  simp only [f31_eq, ← h1]
  simp only [Option.bind_some, decide_eq_true_eq, decide_eq_false_iff_not, Bool.not_eq_true', Bool.not_true, Bool.not_false, Bool.false_eq_true, Bool.true_eq_false, Bool.not_eq_eq_eq_not, beq_self_eq_true, beqFT, beqTF, decide_true, decide_false, not_false_eq_true, not_true_eq_false, ne_eq, true_and, and_true, false_and, and_false, and_self, if_true, if_false, ite_true, ite_false, Bool.and_true, Bool.and_false, Bool.true_and, Bool.false_and, Bool.or_true, Bool.true_or, Bool.or_false, Bool.false_or, or_true, true_or, or_false, false_or, or_self, AV.asInt, AV.asBool, AV.asSl, AV.asPtr, AV.asFn, AV.asStr, AV.asMap, AV.asIfc, AV.item, List.length_cons, List.length_nil, List.getElem?_cons_zero, List.getElem?_cons_succ, Nat.zero_add, e1, c1, c2, r2, w1, b1, b2, Int.le_refl, Int.toNat_natCast, mkCells_int, ← h2, ll, ea]
  rw [f31_X111010_1]
  simp only [Option.bind_some, decide_eq_true_eq, decide_eq_false_iff_not, Bool.not_eq_true', Bool.not_true, Bool.not_false, Bool.false_eq_true, Bool.true_eq_false, Bool.not_eq_eq_eq_not, beq_self_eq_true, beqFT, beqTF, decide_true, decide_false, not_false_eq_true, not_true_eq_false, ne_eq, true_and, and_true, false_and, and_false, and_self, if_true, if_false, ite_true, ite_false, Bool.and_true, Bool.and_false, Bool.true_and, Bool.false_and, Bool.or_true, Bool.true_or, Bool.or_false, Bool.false_or, or_true, true_or, or_false, false_or, or_self, AV.asInt, AV.asBool, AV.asSl, AV.asPtr, AV.asFn, AV.asStr, AV.asMap, AV.asIfc, AV.item, List.length_cons, List.length_nil, List.getElem?_cons_zero, List.getElem?_cons_succ, Nat.zero_add, e3, eb]
  rw [f31_X1111010_1]
end Go.Ab


/- A wavelet matrix is made. -/
namespace Go.Ab
open Go Go.Proofs Go.Ab.Wd Go.Ab.Bs Go.Ab.Sai
set_option linter.unusedVariables false
set_option linter.unusedSimpArgs false
theorem waveNew_run {σ : Store} {h : Hdl} {l : List Int} {most : Int} (hT : σ.Ints h l) (hp : σ.prot ≤ σ.objs.length) (hok : okW l most = true) :
    ∃ p w σ', Runs Try.prog 32 [.slice h, .int .i64 most] σ (.tuple [.ptr p, .int .i64 0]) σ' ∧ Kp σ.objs.length σ σ' ∧ Mat σ' p l w ∧ IsWid most.toNat w ∧ p.isNone = false ∧ (∀ σ'' : Store, (∀ x, σ.objs.length ≤ x → σ''.objs[x]? = σ'.objs[x]?) → Mat σ'' p l w) := by
  have ll := hT.ilen
  obtain ⟨m0, m1, ln, hx⟩ := okW_iff.1 hok
  obtain ⟨σ1, h1⟩ : ∃ x, x = σ.push [.int .i64 most] 1 := ⟨_, rfl⟩
  have k1 : Kp σ.objs.length σ σ1 := by rw [h1]; exact Kp.push _ _ (Nat.le_refl _)
  have R1 : σ1.Row σ.objs.length 1 [.int .i64 most] := by rw [h1]; exact Store.Row.new
  have e1 : σ1.ldInt .i64 (some (σ.objs.length, 0)) = some most := by simp only [Store.ldInt, R1.cell]; simp
  have len1 := k1.len
  have c1 : ¬ most < 0 := by omega
  have c2 : ¬ (4194304 : Int) ≤ most := by omega
  have c3 : ¬ (4194304 : Int) < h.len := by omega
  obtain ⟨k2, r2⟩ := containsFunc_run (g := 51) (a := []) (c := [.ptr (some (σ.objs.length, 0))]) (Store.Sl.kp hT k1) (by omega) (fun x _ => newC1_run e1 x)
  have c4 : (l.any fun c => decide (c < 0) || decide (most < c)) = false := by
    simp only [List.any_eq_false, Bool.or_eq_true, decide_eq_true_eq, not_or]
    exact fun x hx' => by have := hx x hx'; omega
  rw [c4] at r2
  obtain ⟨w, ⟨k3, r3⟩, W⟩ := width_run σ1 (x := most.toNat) (by omega)
  have em : ((most.toNat : Nat) : Int) = most := by omega
  rw [em] at r3
  have hw := W.2.1
  have hw1 := W.1
  have u1 : IntKind.wrap .u64 most = most := wrapu64 (by omega) (by omega)
  obtain ⟨b, hb⟩ : ∃ b, b = σ1.objs.length := ⟨_, rfl⟩
  obtain ⟨σ2, h2⟩ : ∃ x, x = σ1.push [.int .i64 l.length, .int .i64 w, .slice Hdl.nil] 3 := ⟨_, rfl⟩
  have k2' : Kp b σ1 σ2 := by rw [h2, hb]; exact Kp.push _ _ (Nat.le_refl _)
  have R2 : σ2.Row b 3 [.int .i64 l.length, .int .i64 w, .slice Hdl.nil] := by rw [h2, hb]; exact Store.Row.new
  have hp1 : σ1.prot ≤ b := by rw [k1.prot]; omega
  have hp2 : σ2.prot ≤ b := by rw [k2'.prot]; exact hp1
  have l2 := R2.lt
  obtain ⟨hc, σ3, ⟨k4, r4⟩, K3, G3⟩ := cloneI_run (Store.Sl.kp (Store.Sl.kp hT k1) (hb ▸ k2')) (by omega) (by omega)
  have R3 := R2.kp K3 l2
  have e3 := row_int R3 (o := 1) rfl
  have hp3 : σ3.prot ≤ b := by rw [K3.prot]; exact hp2
  obtain ⟨r, e, σ4, rfl, hcx, I4⟩ := EvI.downX (f := fun k s => stepF Try.prog (gm Try.prog k) drawn k Try.f32 [1, 1, 1, 1, 0, 1, 0] [8, 7, 6] s)
    (fun m s => ∃ hrow s1, s = ([.int .i64 ((m : Int) - 1), .slice hrow, .ptr (some (b, 0))], s1) ∧ m ≤ w ∧ NewI σ3 b w l m hrow s1)
    (fun r => ∃ s1, r = (AX.exit 0, [(6, .ptr (some (b, 0)))], s1) ∧ ∃ hrow, NewI σ3 b w l 0 hrow s1)
    (by
      rintro m s ⟨hrow, s1, rfl, hm, I⟩
      have em : ((m + 1 : Nat) : Int) - 1 = m := by omega
      rw [em]
      obtain ⟨h', s2, ev, I'⟩ := new_round I (by omega) hw (by rw [I.kk.prot]; exact hp3) ln (fun x hx' => by have := hx x hx'; omega)
      exact .inl ⟨_, ev, h', s2, rfl, by omega, I'⟩)
    (by
      rintro s ⟨hrow, s1, rfl, hm, I⟩
      have c : ¬ (0 : Int) ≤ ((0 : Nat) : Int) - 1 := by omega
      exact ⟨(AX.exit 0, [(6, .ptr (some (b, 0)))], s1), Ev.of fun k => by simp only [f32_L1111010]; simp only [Option.bind_some, decide_eq_true_eq, decide_eq_false_iff_not, Bool.not_eq_true', Bool.not_true, Bool.not_false, Bool.false_eq_true, Bool.true_eq_false, Bool.not_eq_eq_eq_not, beq_self_eq_true, beqFT, beqTF, decide_true, decide_false, not_false_eq_true, not_true_eq_false, ne_eq, true_and, and_true, false_and, and_false, and_self, if_true, if_false, ite_true, ite_false, Bool.and_true, Bool.and_false, Bool.true_and, Bool.false_and, Bool.or_true, Bool.true_or, Bool.or_false, Bool.false_or, or_true, true_or, or_false, false_or, or_self, AV.asInt, AV.asBool, AV.asSl, AV.asPtr, AV.asFn, AV.asStr, AV.asMap, AV.asIfc, AV.item, List.length_cons, List.length_nil, List.getElem?_cons_zero, List.getElem?_cons_succ, Nat.zero_add, c], s1, rfl, hrow, I⟩)
    w (s := ([.int .i64 ((w : Int) - 1), .slice hc, .ptr (some (b, 0))], σ3))
    ⟨hc, σ3, rfl, Nat.le_refl _, Kp.refl _ _, ⟨Hdl.nil, [], R3, Grow.nil _ _ _, by simp, fun j hj => by omega⟩, by rw [rowAt_top]; exact G3.ints, G3.has⟩
  obtain ⟨n5, e⟩ := loopF_ev e
  obtain ⟨hl, ps, R4, G4, lp, V⟩ := I4.ex
  have rg : ∀ x ∈ l, 0 ≤ x ∧ x < 2 ^ w := fun x hx' => by
    have := hx x hx'
    have h3 := W.2.2.1
    have : ((2 : Int) ^ w) = ((2 ^ w : Nat) : Int) := by simp
    omega
  refine ⟨some (b, 0), w, σ4, Runs.intro (fn := Try.f32) (by kernel_rfl) (by kernel_rfl) ⟨k2 + k3 + k4 + n5, fun k hk => ?_⟩, ?_, ⟨⟨b, hl, ps, rfl, R4, G4.sl, by omega, fun j hj => ?_⟩, ⟨by omega, by omega⟩, ln, rg⟩, W, rfl, fun σ'' fr => ⟨⟨b, hl, ps, rfl, (fr b (by omega)).trans R4, G4.sl.keep fun x o e => fr x (by have := G4.rowLt x o e; omega), by omega, fun j hj => ?_⟩, ⟨by omega, by omega⟩, ln, rg⟩⟩
  · have r2 := r2 k (by omega)
    have r3 := r3 k (by omega)
    have r4 := r4 k (by omega)
    have e := e k (by omega)
    simp only at r2 r3 r4 e
    have w1 : IntKind.wrap .i64 ((w : Int) - 1) = w - 1 := wrap64 (by omega) (by omega)
    simp only [f32_eq]
    simp only [Option.bind_some, decide_eq_true_eq, decide_eq_false_iff_not, Bool.not_eq_true', Bool.not_true, Bool.not_false, Bool.false_eq_true, Bool.true_eq_false, Bool.not_eq_eq_eq_not, beq_self_eq_true, beqFT, beqTF, decide_true, decide_false, not_false_eq_true, not_true_eq_false, ne_eq, true_and, and_true, false_and, and_false, and_self, if_true, if_false, ite_true, ite_false, Bool.and_true, Bool.and_false, Bool.true_and, Bool.false_and, Bool.or_true, Bool.true_or, Bool.or_false, Bool.false_or, or_true, true_or, or_false, false_or, or_self, AV.asInt, AV.asBool, AV.asSl, AV.asPtr, AV.asFn, AV.asStr, AV.asMap, AV.asIfc, AV.item, List.length_cons, List.length_nil, List.getElem?_cons_zero, List.getElem?_cons_succ, Nat.zero_add, ← h1, e1, c1, c2, ll] at c3 ⊢
    simp only [Option.bind_some, decide_eq_true_eq, decide_eq_false_iff_not, Bool.not_eq_true', Bool.not_true, Bool.not_false, Bool.false_eq_true, Bool.true_eq_false, Bool.not_eq_eq_eq_not, beq_self_eq_true, beqFT, beqTF, decide_true, decide_false, not_false_eq_true, not_true_eq_false, ne_eq, true_and, and_true, false_and, and_false, and_self, if_true, if_false, ite_true, ite_false, Bool.and_true, Bool.and_false, Bool.true_and, Bool.false_and, Bool.or_true, Bool.true_or, Bool.or_false, Bool.false_or, or_true, true_or, or_false, false_or, or_self, AV.asInt, AV.asBool, AV.asSl, AV.asPtr, AV.asFn, AV.asStr, AV.asMap, AV.asIfc, AV.item, List.length_cons, List.length_nil, List.getElem?_cons_zero, List.getElem?_cons_succ, Nat.zero_add, c3]
    rw [ll] at *
    simp only [Option.bind_some, decide_eq_true_eq, decide_eq_false_iff_not, Bool.not_eq_true', Bool.not_true, Bool.not_false, Bool.false_eq_true, Bool.true_eq_false, Bool.not_eq_eq_eq_not, beq_self_eq_true, beqFT, beqTF, decide_true, decide_false, not_false_eq_true, not_true_eq_false, ne_eq, true_and, and_true, false_and, and_false, and_self, if_true, if_false, ite_true, ite_false, Bool.and_true, Bool.and_false, Bool.true_and, Bool.false_and, Bool.or_true, Bool.true_or, Bool.or_false, Bool.false_or, or_true, true_or, or_false, false_or, or_self, AV.asInt, AV.asBool, AV.asSl, AV.asPtr, AV.asFn, AV.asStr, AV.asMap, AV.asIfc, AV.item, List.length_cons, List.length_nil, List.getElem?_cons_zero, List.getElem?_cons_succ, Nat.zero_add, r2, e1, u1, r3, ← h2, r4, ← hb, e3, w1, e]
    rw [f32_X1111010_1]
  · exact k1.all (hb ▸ (k2'.trans (K3.mono (by omega))).trans I4.kk)
  · obtain ⟨p, lo, hi, h1, h2, _⟩ := V j (by omega)
    exact ⟨p, h1, h2.vec⟩
  · obtain ⟨p, lo, hi, h1, h2, h3, _⟩ := V j (by omega)
    exact ⟨p, h1, (h2.keep fun x hx => fr x (by omega)).vec⟩
end Go.Ab


/- Going down the levels by a prefix of bits. Plain Lean, no program. -/
namespace Go.Ab.Bs
open Go.Ab.Wd
set_option linter.unusedVariables false
set_option linter.unusedSimpArgs false
/-- The upper bits of a number are c. -/
def pre (k c : Nat) (x : Int) : Bool := decide (x.toNat / 2 ^ k = c)
def bn (b : Bool) : Nat := if b = true then 1 else 0
theorem div_succ (x k : Nat) : x / 2 ^ (k + 1) = x / 2 ^ k / 2 := by rw [Nat.pow_succ, Nat.div_div_eq_div_mul]
theorem pre_step (k c : Nat) (one : Bool) (x : Int) : pre k (2 * c + bn one) x = (pre (k + 1) c x && (bitb k x == one)) := by
  unfold pre bitb bn
  rw [div_succ]
  generalize x.toNat / 2 ^ k = u
  rw [Bool.eq_iff_iff]
  cases one <;> simp <;> omega
theorem Part.step {w : Nat} {l s : List Int} {a k c : Nat} (hk : k < w) (h : Part (rowAt w l (k + 1)) a (s.filter (pre (k + 1) c))) (one : Bool) :
    Part (rowAt w l k) (goto ((rowAt w l (k + 1)).map (bitb k)) a one) (s.filter (pre k (2 * c + bn one))) ∧
      goto ((rowAt w l (k + 1)).map (bitb k)) (a + (s.filter (pre (k + 1) c)).length) one = goto ((rowAt w l (k + 1)).map (bitb k)) a one + (s.filter (pre k (2 * c + bn one))).length := by
  have h1 := h.down k one
  rw [List.filter_filter] at h1
  have e : (fun a => (bitb k a == one) && pre (k + 1) c a) = pre k (2 * c + bn one) := by funext x; rw [pre_step k c one x, Bool.and_comm]
  rw [e] at h1
  rw [rowAt_step w l k hk]
  exact h1
theorem pre_top {w : Nat} {x : Int} (hx : x.toNat < 2 ^ w) : pre w 0 x = true := by
  unfold pre; rw [Nat.div_eq_of_lt hx]; simp
theorem Part.top {w : Nat} {l : List Int} (hl : ∀ x ∈ l, x.toNat < 2 ^ w) {a b : Nat} (hab : a ≤ b) (hb : b ≤ l.length) : Part (rowAt w l w) a (((l.take b).drop a).filter (pre w 0)) := by
  rw [rowAt_top, List.filter_eq_self.2]
  · exact Part.of_take hab hb
  · exact fun x hx => pre_top (hl x (List.mem_of_mem_take (List.mem_of_mem_drop hx)))
theorem pre_zero {c : Nat} {x : Int} (hx : 0 ≤ x) : pre 0 c x = decide (x = c) := by
  unfold pre; simp only [Nat.pow_zero, Nat.div_one]; congr 1; exact propext (by omega)
end Go.Ab.Bs


/- What a wavelet matrix answers: at, span, rank, quantile, below. -/
namespace Go.Ab
open Go Go.Proofs Go.Ab.Wd Go.Ab.Bs Go.Ab.Sai
set_option linter.unusedVariables false
set_option linter.unusedSimpArgs false
theorem ptrs_rd {σ : Store} {h : Hdl} {ps : List Ptr} (s : σ.Sl h 1 (ptrsL ps)) {j : Nat} {q : Ptr} (hj : ps[j]? = some q) : σ.ldPtr (h.idx (j : Int) 1) = some q := by
  have : σ.cell (h.idx (j : Int) 1) = some (.ptr q) := Store.Sl.at s (by omega) (by simp [ptrsL, hj])
  simp [Store.ldPtr, this]
section
variable {σ : Store} {p : Ptr} {l : List Int} {w : Nat}
theorem Mat.facts (m : Mat σ p l w) : ∃ b hl, p = some (b, 0) ∧ σ.ldInt .i64 (Ptr.add (some (b, 0)) 0) = some (l.length : Int) ∧ σ.ldInt .i64 (Ptr.add (some (b, 0)) 1) = some (w : Int) ∧ σ.ldSl (Ptr.add (some (b, 0)) 2) = some hl ∧ hl.len = w ∧
    ∀ j, j < w → ∃ q, σ.ldPtr (hl.idx (j : Int) 1) = some q ∧ Vec σ q (lev w l j) := by
  obtain ⟨b, hl, ps, rfl, R, S, lp, V⟩ := m.ex
  refine ⟨b, hl, rfl, row_int R (o := 0) rfl, row_int R (o := 1) rfl, row_sl R (o := 2) rfl, ?_, fun j hj => ?_⟩
  · have := S.len; simp at this; omega
  · obtain ⟨q, e, v⟩ := V j hj
    exact ⟨q, ptrs_rd S e, v⟩
theorem Mat.nat (m : Mat σ p l w) : ∀ x ∈ l, x.toNat < 2 ^ w := fun x hx => by
  have := m.rng x hx
  have e : ((2 : Int) ^ w) = ((2 ^ w : Nat) : Int) := by simp
  omega
theorem lev_eq {w j k : Nat} (l : List Int) (h : w = j + (k + 1)) : lev w l j = (Bs.rowAt w l (k + 1)).map (bitb k) := by
  unfold lev; rw [show w - j = k + 1 by omega]; rfl
theorem matLen_run (m : Mat σ p l w) : Runs Try.prog 63 [.ptr p] σ (.int .i64 l.length) σ := by
  obtain ⟨b, hl, rfl, e0, e1, e2, _, _⟩ := m.facts
  exact Runs.intro (fn := Try.f63) (by kernel_rfl) (by kernel_rfl) (Ev.of fun k => by rw [f63_eq]; simp only [Option.bind_some, decide_eq_true_eq, decide_eq_false_iff_not, Bool.not_eq_true', Bool.not_true, Bool.not_false, Bool.false_eq_true, Bool.true_eq_false, Bool.not_eq_eq_eq_not, beq_self_eq_true, beqFT, beqTF, decide_true, decide_false, not_false_eq_true, not_true_eq_false, ne_eq, true_and, and_true, false_and, and_false, and_self, if_true, if_false, ite_true, ite_false, Bool.and_true, Bool.and_false, Bool.true_and, Bool.false_and, Bool.or_true, Bool.true_or, Bool.or_false, Bool.false_or, or_true, true_or, or_false, false_or, or_self, AV.asInt, AV.asBool, AV.asSl, AV.asPtr, AV.asFn, AV.asStr, AV.asMap, AV.asIfc, AV.item, List.length_cons, List.length_nil, List.getElem?_cons_zero, List.getElem?_cons_succ, Nat.zero_add, Option.isNone_some, e0])
theorem bitAt_lev {w j k a : Nat} {l : List Int} {x : Int} (h : w = j + (k + 1)) (P : Part (Bs.rowAt w l (k + 1)) a [x]) : bitAt (lev w l j) a = bitb k x := by
  have := P.get (i := 0) (by simp)
  unfold bitAt
  rw [lev_eq l h, List.getElem?_map, show a = a + 0 by omega, this]
  simp
theorem matAt_run (m : Mat σ p l w) (i : Int) : Runs Try.prog 44 [.ptr p, .int .i64 i] σ (.int .i64 (if 0 ≤ i ∧ i < l.length then rd l i else -1)) σ := by
  by_cases c0 : i < 0
  · rw [if_neg (by omega)]
    exact Runs.intro (fn := Try.f44) (by kernel_rfl) (by kernel_rfl) (Ev.of fun k => by rw [f44_eq]; simp only [Option.bind_some, decide_eq_true_eq, decide_eq_false_iff_not, Bool.not_eq_true', Bool.not_true, Bool.not_false, Bool.false_eq_true, Bool.true_eq_false, Bool.not_eq_eq_eq_not, beq_self_eq_true, beqFT, beqTF, decide_true, decide_false, not_false_eq_true, not_true_eq_false, ne_eq, true_and, and_true, false_and, and_false, and_self, if_true, if_false, ite_true, ite_false, Bool.and_true, Bool.and_false, Bool.true_and, Bool.false_and, Bool.or_true, Bool.true_or, Bool.or_false, Bool.false_or, or_true, true_or, or_false, false_or, or_self, AV.asInt, AV.asBool, AV.asSl, AV.asPtr, AV.asFn, AV.asStr, AV.asMap, AV.asIfc, AV.item, List.length_cons, List.length_nil, List.getElem?_cons_zero, List.getElem?_cons_succ, Nat.zero_add, c0])
  obtain ⟨k1, r1⟩ := matLen_run m
  by_cases c1 : (l.length : Int) ≤ i
  · rw [if_neg (by omega)]
    exact Runs.intro (fn := Try.f44) (by kernel_rfl) (by kernel_rfl) ⟨k1, fun k hk => by
      have r1 := r1 k hk
      simp only at r1
      simp only [f44_eq]; simp only [Option.bind_some, decide_eq_true_eq, decide_eq_false_iff_not, Bool.not_eq_true', Bool.not_true, Bool.not_false, Bool.false_eq_true, Bool.true_eq_false, Bool.not_eq_eq_eq_not, beq_self_eq_true, beqFT, beqTF, decide_true, decide_false, not_false_eq_true, not_true_eq_false, ne_eq, true_and, and_true, false_and, and_false, and_self, if_true, if_false, ite_true, ite_false, Bool.and_true, Bool.and_false, Bool.true_and, Bool.false_and, Bool.or_true, Bool.true_or, Bool.or_false, Bool.false_or, or_true, true_or, or_false, false_or, or_self, AV.asInt, AV.asBool, AV.asSl, AV.asPtr, AV.asFn, AV.asStr, AV.asMap, AV.asIfc, AV.item, List.length_cons, List.length_nil, List.getElem?_cons_zero, List.getElem?_cons_succ, Nat.zero_add, c0, r1, c1]⟩
  obtain ⟨b, hl, rfl, e0, e1, e2, ln, V⟩ := m.facts
  have sm := m.small
  have hw := m.wid
  obtain ⟨x, hx⟩ : ∃ x, x = rd l i := ⟨_, rfl⟩
  have hxl : x ∈ l := by rw [hx]; exact rd_mem (by omega) (by omega)
  have hxw := m.nat x hxl
  have hx0 := (m.rng x hxl).1
  rw [if_pos (by omega), ← hx]
  have p24 : 2 ^ w ≤ 2 ^ 24 := Nat.pow_le_pow_right (by omega) hw.2
  obtain ⟨r, e, rfl⟩ := EvI.up (f := fun k s => stepF Try.prog (gm Try.prog k) drawn k Try.f44 [1, 1, 1, 0, 1, 0] [22, 21, 20, 5, 1] s) w
    (fun j s => ∃ a : Nat, s = ([.int .i64 j, .int .i64 w, .slice hl, .int .i64 (x.toNat / 2 ^ (w - j) : Nat), .int .i64 a], σ) ∧ j ≤ w ∧ Part (Bs.rowAt w l (w - j)) a [x])
    (fun r => r = (AX.exit 0, [(5, .int .i64 x)], σ))
    (by
      rintro j s hj ⟨a, rfl, _, P⟩
      obtain ⟨k, hk⟩ : ∃ k, w = j + (k + 1) := ⟨w - j - 1, by omega⟩
      rw [show w - j = k + 1 by omega] at P
      rw [show w - j = k + 1 by omega, show w - (j + 1) = k by omega]
      obtain ⟨q, lq, vq⟩ := V j hj
      obtain ⟨n1, r1⟩ := vec_at vq a
      have j0 : (0 : Int) ≤ j := by omega
      have j1 : (j : Int) < w := by omega
      have j2 : (j : Int) < hl.len := by omega
      have w1 := wsucc hj (by omega)
      rw [Int.toNat_natCast, bitAt_lev hk P] at r1
      obtain ⟨n2, r2⟩ := down_run vq a (bitb k x)
      rw [Int.toNat_natCast] at r2
      have st := P.down k (bitb k x)
      have e1 : ([x].filter fun y => bitb k y == bitb k x) = [x] := by simp
      rw [e1, ← rowAt_step w l k (by omega), ← lev_eq l hk] at st
      have dv := div_succ x.toNat k
      have d1 : x.toNat / 2 ^ k ≤ x.toNat := Nat.div_le_self _ _
      have hbk : bitb k x = decide (x.toNat / 2 ^ k % 2 = 1) := rfl
      obtain ⟨v, hv⟩ : ∃ v, v = x.toNat / 2 ^ k := ⟨_, rfl⟩
      obtain ⟨u, hu⟩ : ∃ u, u = x.toNat / 2 ^ (k + 1) := ⟨_, rfl⟩
      rw [← hu, ← hv] at dv
      rw [← hv] at d1 hbk
      rw [← hu, ← hv]
      have w2 : IntKind.wrap .i64 (2 * (u : Int)) = ((2 * u : Nat) : Int) := by rw [wrap64 (by omega) (by omega)]; omega
      have w3 : IntKind.wrap .i64 (((2 * u : Nat) : Int) + 1) = ((2 * u + 1 : Nat) : Int) := by rw [wrap64 (by omega) (by omega)]; omega
      refine ⟨([.int .i64 (j + 1 : Nat), .int .i64 w, .slice hl, .int .i64 (v : Nat), .int .i64 (goto (lev w l j) a (bitb k x) : Nat)], σ), ⟨n1 + n2, fun m' hm => ?_⟩, _, rfl, by omega, st.1⟩
      have r1 := r1 m' (by omega)
      have r2 := r2 m' (by omega)
      have a0 : decide ((0 : Int) ≤ (a : Int)) = true := by simp
      rw [a0, Bool.true_and] at r1
      simp only at r1 r2
      simp only [f44_L111010]
      cases hb : bitb k x with
      | true =>
        rw [hb] at r1 r2
        have : v = 2 * u + 1 := by rw [hbk, decide_eq_true_eq] at hb; omega
        simp only [Option.bind_some, decide_eq_true_eq, decide_eq_false_iff_not, Bool.not_eq_true', Bool.not_true, Bool.not_false, Bool.false_eq_true, Bool.true_eq_false, Bool.not_eq_eq_eq_not, beq_self_eq_true, beqFT, beqTF, decide_true, decide_false, not_false_eq_true, not_true_eq_false, ne_eq, true_and, and_true, false_and, and_false, and_self, if_true, if_false, ite_true, ite_false, Bool.and_true, Bool.and_false, Bool.true_and, Bool.false_and, Bool.or_true, Bool.true_or, Bool.or_false, Bool.false_or, or_true, true_or, or_false, false_or, or_self, AV.asInt, AV.asBool, AV.asSl, AV.asPtr, AV.asFn, AV.asStr, AV.asMap, AV.asIfc, AV.item, List.length_cons, List.length_nil, List.getElem?_cons_zero, List.getElem?_cons_succ, Nat.zero_add, j0, j1, j2, lq, r1, r2, w1, w2, w3, this]
      | false =>
        rw [hb] at r1 r2
        have : v = 2 * u := by rw [hbk, decide_eq_false_iff_not] at hb; omega
        simp only [Option.bind_some, decide_eq_true_eq, decide_eq_false_iff_not, Bool.not_eq_true', Bool.not_true, Bool.not_false, Bool.false_eq_true, Bool.true_eq_false, Bool.not_eq_eq_eq_not, beq_self_eq_true, beqFT, beqTF, decide_true, decide_false, not_false_eq_true, not_true_eq_false, ne_eq, true_and, and_true, false_and, and_false, and_self, if_true, if_false, ite_true, ite_false, Bool.and_true, Bool.and_false, Bool.true_and, Bool.false_and, Bool.or_true, Bool.true_or, Bool.or_false, Bool.false_or, or_true, true_or, or_false, false_or, or_self, AV.asInt, AV.asBool, AV.asSl, AV.asPtr, AV.asFn, AV.asStr, AV.asMap, AV.asIfc, AV.item, List.length_cons, List.length_nil, List.getElem?_cons_zero, List.getElem?_cons_succ, Nat.zero_add, j0, j1, j2, lq, r1, r2, w1, w2, this])
    (by
      rintro s ⟨a, rfl, _, P⟩
      rw [Nat.sub_self, Nat.pow_zero, Nat.div_one, show ((x.toNat : Nat) : Int) = x by omega]
      exact ⟨_, Ev.of fun k => by simp only [f44_L111010]; simp only [Option.bind_some, decide_eq_true_eq, decide_eq_false_iff_not, Bool.not_eq_true', Bool.not_true, Bool.not_false, Bool.false_eq_true, Bool.true_eq_false, Bool.not_eq_eq_eq_not, beq_self_eq_true, beqFT, beqTF, decide_true, decide_false, not_false_eq_true, not_true_eq_false, ne_eq, true_and, and_true, false_and, and_false, and_self, if_true, if_false, ite_true, ite_false, Bool.and_true, Bool.and_false, Bool.true_and, Bool.false_and, Bool.or_true, Bool.true_or, Bool.or_false, Bool.false_or, or_true, true_or, or_false, false_or, or_self, AV.asInt, AV.asBool, AV.asSl, AV.asPtr, AV.asFn, AV.asStr, AV.asMap, AV.asIfc, AV.item, List.length_cons, List.length_nil, List.getElem?_cons_zero, List.getElem?_cons_succ, Nat.zero_add, Int.lt_irrefl], rfl⟩)
    (s := ([.int .i64 0, .int .i64 w, .slice hl, .int .i64 0, .int .i64 i], σ))
    ⟨i.toNat, by rw [show ((i.toNat : Nat) : Int) = i by omega, Nat.sub_zero, Nat.div_eq_of_lt hxw]; rfl, by omega, by
      rw [Nat.sub_zero, rowAt_top]
      have h1 := Part.of_take (r := l) (a := i.toNat) (b := i.toNat + 1) (by omega) (by omega)
      have h2 : (l.take (i.toNat + 1)).drop i.toNat = [x] := by
        rw [List.drop_take, show i.toNat + 1 - i.toNat = 1 by omega, drop_rd (by omega : i.toNat < l.length)]
        simp [hx, show max i 0 = i by omega]
      rw [h2] at h1; exact h1⟩
  obtain ⟨n2, e⟩ := loopF_ev e
  refine Runs.intro (fn := Try.f44) (by kernel_rfl) (by kernel_rfl) ⟨k1 + n2, fun k hk => ?_⟩
  have r1 := r1 k (by omega)
  have e := e k (by omega)
  simp only at r1 e
  simp only [f44_eq]
  simp only [Option.bind_some, decide_eq_true_eq, decide_eq_false_iff_not, Bool.not_eq_true', Bool.not_true, Bool.not_false, Bool.false_eq_true, Bool.true_eq_false, Bool.not_eq_eq_eq_not, beq_self_eq_true, beqFT, beqTF, decide_true, decide_false, not_false_eq_true, not_true_eq_false, ne_eq, true_and, and_true, false_and, and_false, and_self, if_true, if_false, ite_true, ite_false, Bool.and_true, Bool.and_false, Bool.true_and, Bool.false_and, Bool.or_true, Bool.true_or, Bool.or_false, Bool.false_or, or_true, true_or, or_false, false_or, or_self, AV.asInt, AV.asBool, AV.asSl, AV.asPtr, AV.asFn, AV.asStr, AV.asMap, AV.asIfc, AV.item, List.length_cons, List.length_nil, List.getElem?_cons_zero, List.getElem?_cons_succ, Nat.zero_add, c0, r1, c1, e2, ln, e]
  rw [f44_X111010_1]
end
end Go.Ab


/- What a wavelet matrix answers: span, rank, quantile, below. -/
namespace Go.Ab
open Go Go.Proofs Go.Ab.Wd Go.Ab.Bs Go.Ab.Sai
set_option linter.unusedVariables false
set_option linter.unusedSimpArgs false
theorem shr_i64 {a s : Nat} (hs : s ≤ 64) : shrI .i64 (a : Int) (s : Int) = ((a / 2 ^ s : Nat) : Int) := by
  have e : IntKind.i64.bits = 64 := by decide
  unfold shrI
  rw [e, Int.toNat_natCast, Nat.min_eq_left hs, Int.fdiv_eq_ediv_of_nonneg _ (Int.le_of_lt (Int.pow_pos (by omega)))]
  simp
/-- Where the numbers like c begin, level by level. -/
def apath (w : Nat) (l : List Int) (c : Int) : Nat → Nat
  | 0 => 0
  | j + 1 => goto (lev w l j) (apath w l c j) (bitb (w - j - 1) c)
theorem div_bit (c : Int) (k : Nat) : c.toNat / 2 ^ k = 2 * (c.toNat / 2 ^ (k + 1)) + bn (bitb k c) := by
  rw [div_succ]
  unfold bitb bn
  generalize c.toNat / 2 ^ k = u
  by_cases h : u % 2 = 1
  · simp [h]; omega
  · simp [h]; omega
section
variable {σ : Store} {p : Ptr} {l : List Int} {w : Nat}
theorem has_run (m : Mat σ p l w) (c : Int) : Runs Try.prog 65 [.ptr p, .int .i64 c] σ (.bool (decide (0 ≤ c ∧ c.toNat < 2 ^ w))) σ := by
  obtain ⟨b, hl, rfl, e0, e1, e2, ln, V⟩ := m.facts
  have hw := m.wid
  refine Runs.intro (fn := Try.f65) (by kernel_rfl) (by kernel_rfl) (Ev.of fun k => ?_)
  simp only [f65_eq]
  by_cases c0 : 0 ≤ c
  · have q : shrI .i64 c (w : Int) = ((c.toNat / 2 ^ w : Nat) : Int) := by
      have := shr_i64 (a := c.toNat) (s := w) (by omega)
      rwa [show ((c.toNat : Nat) : Int) = c by omega] at this
    have w0 : (0 : Int) ≤ w := by omega
    simp only [Option.bind_some, decide_eq_true_eq, decide_eq_false_iff_not, Bool.not_eq_true', Bool.not_true, Bool.not_false, Bool.false_eq_true, Bool.true_eq_false, Bool.not_eq_eq_eq_not, beq_self_eq_true, beqFT, beqTF, decide_true, decide_false, not_false_eq_true, not_true_eq_false, ne_eq, true_and, and_true, false_and, and_false, and_self, if_true, if_false, ite_true, ite_false, Bool.and_true, Bool.and_false, Bool.true_and, Bool.false_and, Bool.or_true, Bool.true_or, Bool.or_false, Bool.false_or, or_true, true_or, or_false, false_or, or_self, AV.asInt, AV.asBool, AV.asSl, AV.asPtr, AV.asFn, AV.asStr, AV.asMap, AV.asIfc, AV.item, List.length_cons, List.length_nil, List.getElem?_cons_zero, List.getElem?_cons_succ, Nat.zero_add, Option.isNone_some, c0, e1, w0, q]
    have e : (((c.toNat / 2 ^ w : Nat) : Int) = 0) = (c.toNat < 2 ^ w) := by
      have hd := Nat.div_eq_zero_iff (a := c.toNat) (b := 2 ^ w)
      have p2 : 2 ^ w ≠ 0 := Nat.pos_iff_ne_zero.1 (Nat.two_pow_pos w)
      apply propext
      constructor
      · intro h
        have h' : c.toNat / 2 ^ w = 0 := Int.ofNat_inj.1 h
        rcases hd.1 h' with h2 | h2
        · exact absurd h2 p2
        · exact h2
      · intro h; rw [Nat.div_eq_of_lt h]; rfl
    simp only [e]
  · simp only [Option.bind_some, decide_eq_true_eq, decide_eq_false_iff_not, Bool.not_eq_true', Bool.not_true, Bool.not_false, Bool.false_eq_true, Bool.true_eq_false, Bool.not_eq_eq_eq_not, beq_self_eq_true, beqFT, beqTF, decide_true, decide_false, not_false_eq_true, not_true_eq_false, ne_eq, true_and, and_true, false_and, and_false, and_self, if_true, if_false, ite_true, ite_false, Bool.and_true, Bool.and_false, Bool.true_and, Bool.false_and, Bool.or_true, Bool.true_or, Bool.or_false, Bool.false_or, or_true, true_or, or_false, false_or, or_self, AV.asInt, AV.asBool, AV.asSl, AV.asPtr, AV.asFn, AV.asStr, AV.asMap, AV.asIfc, AV.item, List.length_cons, List.length_nil, List.getElem?_cons_zero, List.getElem?_cons_succ, Nat.zero_add, Option.isNone_some, c0]
theorem filt_nat {s : List Int} (h : ∀ x ∈ s, 0 ≤ x) {c : Int} (hc : 0 ≤ c) : (s.filter (pre 0 c.toNat)).length = Bs.cnt (fun x => decide (x = c)) s := by
  unfold Bs.cnt
  congr 1
  apply List.filter_congr
  intro x hx
  rw [pre_zero (h x hx)]; congr 1; exact propext (by omega)
theorem span_run (m : Mat σ p l w) {c : Int} (c0 : 0 ≤ c) (cw : c.toNat < 2 ^ w) {i : Nat} (hi : i ≤ l.length) :
    Runs Try.prog 66 [.ptr p, .int .i64 c, .int .i64 i] σ (.tuple [.int .i64 (apath w l c w), .int .i64 (apath w l c w + Bs.cnt (fun x => decide (x = c)) (l.take i) : Nat)]) σ ∧
      Part (Bs.rowAt w l 0) (apath w l c w) ((l.take i).filter (pre 0 c.toNat)) := by
  obtain ⟨b, hl, rfl, e0, e1, e2, ln, V⟩ := m.facts
  have hw := m.wid
  have sm := m.small
  have p24 : 2 ^ w ≤ 2 ^ 24 := Nat.pow_le_pow_right (by omega) hw.2
  obtain ⟨r, e, rfl, PP⟩ := EvI.up (f := fun k s => stepF Try.prog (gm Try.prog k) drawn k Try.f66 [1, 1, 0, 1, 0] [17, 16, 15, 8, 2, 1, 0] s) w
    (fun j s => s = ([.int .i64 j, .int .i64 w, .slice hl, .int .i64 (apath w l c j : Nat), .int .i64 (apath w l c j + ((l.take i).filter (pre (w - j) (c.toNat / 2 ^ (w - j)))).length : Nat), .int .i64 c, .ptr (some (b, 0))], σ) ∧
      Part (Bs.rowAt w l (w - j)) (apath w l c j) ((l.take i).filter (pre (w - j) (c.toNat / 2 ^ (w - j)))))
    (fun r => r = (AX.exit 0, [(8, .int .i64 (apath w l c w : Nat)), (2, .int .i64 (apath w l c w + ((l.take i).filter (pre 0 c.toNat)).length : Nat))], σ) ∧ Part (Bs.rowAt w l 0) (apath w l c w) ((l.take i).filter (pre 0 c.toNat)))
    (by
      rintro j s hj ⟨rfl, P⟩
      obtain ⟨k, hk⟩ : ∃ k, w = j + (k + 1) := ⟨w - j - 1, by omega⟩
      rw [show w - j = k + 1 by omega] at P ⊢
      rw [show w - (j + 1) = k by omega]
      obtain ⟨q, lq, vq⟩ := V j hj
      have j0 : (0 : Int) ≤ j := by omega
      have j1 : (j : Int) < w := by omega
      have j2 : (j : Int) < hl.len := by omega
      have w1 := wsucc hj (by omega)
      have st := P.step (by omega) (bitb k c)
      rw [← lev_eq l hk, ← div_bit c k] at st
      have ea : apath w l c (j + 1) = goto (lev w l j) (apath w l c j) (bitb k c) := by rw [apath, show w - j - 1 = k by omega]
      rw [← ea] at st
      obtain ⟨n1, r1⟩ := down_run vq (apath w l c j : Nat) (bitb k c)
      obtain ⟨n2, r2⟩ := down_run vq (apath w l c j + ((l.take i).filter (pre (k + 1) (c.toNat / 2 ^ (k + 1)))).length : Nat) (bitb k c)
      rw [Int.toNat_natCast] at r1 r2
      rw [← ea] at r1
      rw [st.2] at r2
      have wk : IntKind.wrap .i64 (IntKind.wrap .i64 ((w : Int) - 1) - j) = (k : Nat) := by rw [wrap64 (x := (w : Int) - 1) (by omega) (by omega), wrap64 (by omega) (by omega)]; omega
      have k0 : (0 : Int) ≤ (k : Nat) := by omega
      have bt : decide (bitOp .and .i64 (shrI .i64 c (k : Nat)) 1 = 1) = bitb k c := by
        cases h : bitb k c with
        | true => rw [decide_eq_true (bit_on c0 (by omega) (by omega) h)]
        | false => rw [decide_eq_false (bit_off c0 (by omega) (by omega) h)]
      refine ⟨_, ⟨n1 + n2, fun m' hm => ?_⟩, rfl, st.1⟩
      have r1 := r1 m' (by omega)
      have r2 := r2 m' (by omega)
      simp only at r1 r2
      simp only [f66_L11010]
      simp only [Option.bind_some, decide_eq_true_eq, decide_eq_false_iff_not, Bool.not_eq_true', Bool.not_true, Bool.not_false, Bool.false_eq_true, Bool.true_eq_false, Bool.not_eq_eq_eq_not, beq_self_eq_true, beqFT, beqTF, decide_true, decide_false, not_false_eq_true, not_true_eq_false, ne_eq, true_and, and_true, false_and, and_false, and_self, if_true, if_false, ite_true, ite_false, Bool.and_true, Bool.and_false, Bool.true_and, Bool.false_and, Bool.or_true, Bool.true_or, Bool.or_false, Bool.false_or, or_true, true_or, or_false, false_or, or_self, AV.asInt, AV.asBool, AV.asSl, AV.asPtr, AV.asFn, AV.asStr, AV.asMap, AV.asIfc, AV.item, List.length_cons, List.length_nil, List.getElem?_cons_zero, List.getElem?_cons_succ, Nat.zero_add, j0, j1, j2, lq, e1, wk, k0, bt, r1, r2, w1])
    (by
      rintro s ⟨rfl, P⟩
      rw [Nat.sub_self, Nat.pow_zero, Nat.div_one] at P ⊢
      exact ⟨_, Ev.of fun k => by simp only [f66_L11010]; simp only [Option.bind_some, decide_eq_true_eq, decide_eq_false_iff_not, Bool.not_eq_true', Bool.not_true, Bool.not_false, Bool.false_eq_true, Bool.true_eq_false, Bool.not_eq_eq_eq_not, beq_self_eq_true, beqFT, beqTF, decide_true, decide_false, not_false_eq_true, not_true_eq_false, ne_eq, true_and, and_true, false_and, and_false, and_self, if_true, if_false, ite_true, ite_false, Bool.and_true, Bool.and_false, Bool.true_and, Bool.false_and, Bool.or_true, Bool.true_or, Bool.or_false, Bool.false_or, or_true, true_or, or_false, false_or, or_self, AV.asInt, AV.asBool, AV.asSl, AV.asPtr, AV.asFn, AV.asStr, AV.asMap, AV.asIfc, AV.item, List.length_cons, List.length_nil, List.getElem?_cons_zero, List.getElem?_cons_succ, Nat.zero_add, Int.lt_irrefl], rfl, P⟩)
    (s := ([.int .i64 0, .int .i64 w, .slice hl, .int .i64 0, .int .i64 i, .int .i64 c, .ptr (some (b, 0))], σ))
    (by
      have P := Part.top (w := w) (l := l) m.nat (a := 0) (b := i) (by omega) hi
      have ef : (l.take i).filter (pre w 0) = l.take i := List.filter_eq_self.2 fun x hx => pre_top (m.nat x (List.mem_of_mem_take hx))
      rw [Nat.sub_zero, Nat.div_eq_of_lt cw]
      refine ⟨?_, by simpa [apath] using P⟩
      rw [ef, List.length_take, Nat.min_eq_left hi, apath, Nat.zero_add]; rfl)
  rw [filt_nat (fun x hx => (m.rng x (List.mem_of_mem_take hx)).1) c0] at e
  obtain ⟨n2, e⟩ := loopF_ev e
  refine ⟨Runs.intro (fn := Try.f66) (by kernel_rfl) (by kernel_rfl) ⟨n2, fun k hk => ?_⟩, PP⟩
  have e := e k hk
  simp only at e
  simp only [f66_eq]
  simp only [Option.bind_some, decide_eq_true_eq, decide_eq_false_iff_not, Bool.not_eq_true', Bool.not_true, Bool.not_false, Bool.false_eq_true, Bool.true_eq_false, Bool.not_eq_eq_eq_not, beq_self_eq_true, beqFT, beqTF, decide_true, decide_false, not_false_eq_true, not_true_eq_false, ne_eq, true_and, and_true, false_and, and_false, and_self, if_true, if_false, ite_true, ite_false, Bool.and_true, Bool.and_false, Bool.true_and, Bool.false_and, Bool.or_true, Bool.true_or, Bool.or_false, Bool.false_or, or_true, true_or, or_false, false_or, or_self, AV.asInt, AV.asBool, AV.asSl, AV.asPtr, AV.asFn, AV.asStr, AV.asMap, AV.asIfc, AV.item, List.length_cons, List.length_nil, List.getElem?_cons_zero, List.getElem?_cons_succ, Nat.zero_add, e2, ln, e]
  rw [f66_X11010_1]
theorem matRank_run (m : Mat σ p l w) (c i : Int) : Runs Try.prog 45 [.ptr p, .int .i64 c, .int .i64 i] σ (.int .i64 (Bs.cnt (fun x => decide (x = c)) (l.take i.toNat) : Nat)) σ := by
  obtain ⟨k1, r1⟩ := has_run m c
  have sm := m.small
  by_cases h : 0 ≤ c ∧ c.toNat < 2 ^ w
  · obtain ⟨b, hl, rfl, e0, e1, e2, ln, V⟩ := m.facts
    obtain ⟨⟨k2, r2⟩, _⟩ := span_run m h.1 h.2 (i := min i.toNat l.length) (by omega)
    have P := (span_run m h.1 h.2 (i := l.length) (Nat.le_refl _)).2.le
    rw [rowAt_length] at P
    have et : l.take (min i.toNat l.length) = l.take i.toNat := by
      by_cases c : i.toNat ≤ l.length
      · rw [Nat.min_eq_left c]
      · rw [Nat.min_eq_right (by omega), List.take_length, List.take_of_length_le (by omega)]
    rw [et] at r2
    have em : mx2 (Int.ofNat 0) (mn2 i l.length) = ((min i.toNat l.length : Nat) : Int) := by rw [mn2_eq, mx2_eq]; simp only [Int.ofNat_eq_natCast]; omega
    have cl := cnt_le (fun x => decide (x = c)) (l.take i.toNat)
    rw [List.length_take] at cl
    have w1 : IntKind.wrap .i64 (((apath w l c w + Bs.cnt (fun x => decide (x = c)) (l.take i.toNat) : Nat) : Int) - (apath w l c w : Nat)) = (Bs.cnt (fun x => decide (x = c)) (l.take i.toNat) : Nat) := by rw [wrap64 (by omega) (by omega)]; omega
    rw [decide_eq_true h] at r1
    refine Runs.intro (fn := Try.f45) (by kernel_rfl) (by kernel_rfl) ⟨k1 + k2, fun k hk => ?_⟩
    have r1 := r1 k (by omega)
    have r2 := r2 k (by omega)
    simp only at r1 r2
    simp only [f45_eq]
    simp only [Option.bind_some, decide_eq_true_eq, decide_eq_false_iff_not, Bool.not_eq_true', Bool.not_true, Bool.not_false, Bool.false_eq_true, Bool.true_eq_false, Bool.not_eq_eq_eq_not, beq_self_eq_true, beqFT, beqTF, decide_true, decide_false, not_false_eq_true, not_true_eq_false, ne_eq, true_and, and_true, false_and, and_false, and_self, if_true, if_false, ite_true, ite_false, Bool.and_true, Bool.and_false, Bool.true_and, Bool.false_and, Bool.or_true, Bool.true_or, Bool.or_false, Bool.false_or, or_true, true_or, or_false, false_or, or_self, AV.asInt, AV.asBool, AV.asSl, AV.asPtr, AV.asFn, AV.asStr, AV.asMap, AV.asIfc, AV.item, List.length_cons, List.length_nil, List.getElem?_cons_zero, List.getElem?_cons_succ, Nat.zero_add, r1, e0, em, r2, w1]
  · have e : Bs.cnt (fun x => decide (x = c)) (l.take i.toNat) = 0 := by
      unfold Bs.cnt
      rw [List.filter_eq_nil_iff.2]
      · rfl
      · intro x hx
        have hxl := List.mem_of_mem_take hx
        have h1 := m.nat x hxl
        have h2 := m.rng x hxl
        simp only [decide_eq_true_eq]
        rintro rfl
        exact h ⟨h2.1, h1⟩
    rw [e]
    rw [decide_eq_false h] at r1
    refine Runs.intro (fn := Try.f45) (by kernel_rfl) (by kernel_rfl) ⟨k1, fun k hk => ?_⟩
    have r1 := r1 k (by omega)
    simp only at r1
    simp only [f45_eq]
    simp only [Option.bind_some, decide_eq_true_eq, decide_eq_false_iff_not, Bool.not_eq_true', Bool.not_true, Bool.not_false, Bool.false_eq_true, Bool.true_eq_false, Bool.not_eq_eq_eq_not, beq_self_eq_true, beqFT, beqTF, decide_true, decide_false, not_false_eq_true, not_true_eq_false, ne_eq, true_and, and_true, false_and, and_false, and_self, if_true, if_false, ite_true, ite_false, Bool.and_true, Bool.and_false, Bool.true_and, Bool.false_and, Bool.or_true, Bool.true_or, Bool.or_false, Bool.false_or, or_true, true_or, or_false, false_or, or_self, AV.asInt, AV.asBool, AV.asSl, AV.asPtr, AV.asFn, AV.asStr, AV.asMap, AV.asIfc, AV.item, List.length_cons, List.length_nil, List.getElem?_cons_zero, List.getElem?_cons_succ, Nat.zero_add, r1]
    rfl
end
end Go.Ab


/- Finding a pattern by its numbers, the last one first. Plain Lean, no program. -/
namespace Go.Ab.Bs
open Go.Ab.Wd
set_option linter.unusedVariables false
set_option linter.unusedSimpArgs false
theorem kth_ex (p : Int → Bool) : ∀ (l : List Int) (k : Nat), k < cnt p l → ∃ P : Nat, P < l.length ∧ p (rd l P) = true ∧ cnt p (l.take P) = k
  | [], k, h => by simp [cnt] at h
  | x :: l, k, h => by
    rw [cnt_cons] at h
    have e : ∀ P : Nat, P < l.length → rd (x :: l) ((P + 1 : Nat) : Int) = rd l (P : Int) := fun P hP => by rw [rd_getElem (by simp; omega), rd_getElem hP]; simp
    by_cases hx : p x = true
    · rw [if_pos hx] at h
      cases k with
      | zero => exact ⟨0, by simp, by rw [rd_getElem (by simp)]; simpa using hx, by simp [cnt]⟩
      | succ k =>
        obtain ⟨P, h1, h2, h3⟩ := kth_ex p l k (by omega)
        refine ⟨P + 1, by simp; omega, by rw [e P h1]; exact h2, ?_⟩
        rw [List.take_succ_cons, cnt_cons, if_pos hx, h3]; omega
    · rw [if_neg hx] at h
      obtain ⟨P, h1, h2, h3⟩ := kth_ex p l k (by omega)
      refine ⟨P + 1, by simp; omega, by rw [e P h1]; exact h2, ?_⟩
      rw [List.take_succ_cons, cnt_cons, if_neg hx, h3]; omega
theorem cnt_take_mono (p : Int → Bool) (l : List Int) {i j : Nat} (h : i ≤ j) : cnt p (l.take i) ≤ cnt p (l.take j) := by
  rw [show l.take j = l.take i ++ (l.drop i).take (j - i) by rw [← List.take_add]; congr 1; omega, cnt_append]; omega
/-- Where a range leads with a number ahead. -/
def narrow (b : List Int) (c : Int) (a : Nat) : Nat := cnt (fun x => decide (x < c)) b + cnt (fun x => decide (x = c)) (b.take a)
theorem lf_eq {b : List Int} {i : Nat} : lf b i = (narrow b (rd b i) i : Nat) := by
  unfold lf narrow; rw [Int.toNat_natCast]
theorem narrow_iff {b : List Int} {c : Int} {a z : Nat} (haz : a ≤ z) (hz : z ≤ b.length) (j : Nat) : (narrow b c a ≤ j ∧ j < narrow b c z) ↔ ∃ i : Nat, a ≤ i ∧ i < z ∧ rd b i = c ∧ lf b i = j := by
  constructor
  · rintro ⟨h1, h2⟩
    unfold narrow at h1 h2
    have hk : j - cnt (fun x => decide (x < c)) b < cnt (fun x => decide (x = c)) b := by
      have := cnt_take_le (fun x => decide (x = c)) b z; omega
    obtain ⟨P, p1, p2, p3⟩ := kth_ex _ b _ hk
    have pc : rd b P = c := by simpa using p2
    have s1 := cnt_take_succ (fun x => decide (x = c)) p1
    rw [if_pos p2] at s1
    refine ⟨P, ?_, ?_, pc, by rw [lf_eq, pc]; unfold narrow; omega⟩
    · rcases Nat.lt_or_ge P a with h | h
      · have := cnt_take_mono (fun x => decide (x = c)) b (i := P + 1) (j := a) (by omega); omega
      · exact h
    · rcases Nat.lt_or_ge P z with h | h
      · exact h
      · have := cnt_take_mono (fun x => decide (x = c)) b h; omega
  · rintro ⟨i, h1, h2, h3, h4⟩
    rw [lf_eq, h3] at h4
    have h5 : narrow b c i = j := by omega
    have s1 := cnt_take_succ (fun x => decide (x = c)) (show i < b.length by omega)
    rw [if_pos (by simpa using h3)] at s1
    have m1 := cnt_take_mono (fun x => decide (x = c)) b h1
    have m2 := cnt_take_mono (fun x => decide (x = c)) b (i := i + 1) (j := z) (by omega)
    unfold narrow at *
    omega
end Go.Ab.Bs
namespace Go.Ab.Bs
open Go.Ab.Wd
/-- A pattern stands at a place. -/
def Pf (t : List Int) (q : Int) (p : List Int) : Prop := 0 ≤ q ∧ q + p.length ≤ t.length ∧ ∀ k : Nat, k < p.length → rd t (q + k) = rd p k
theorem Pf.nil {t : List Int} {q : Int} (h0 : 0 ≤ q) (h1 : q ≤ t.length) : Pf t q [] := ⟨h0, by simpa using h1, fun k hk => by simp at hk⟩
theorem rd_cnsS (x : Int) (l : List Int) (k : Nat) (hk : k < l.length) : rd (x :: l) ((k + 1 : Nat) : Int) = rd l (k : Int) := by rw [rd_getElem (by simp; omega), rd_getElem hk]; simp
theorem rd_cnsZ (x : Int) (l : List Int) : rd (x :: l) 0 = x := by
  have := rd_getElem (l := x :: l) (i := 0) (by simp)
  simpa using this
theorem Pf.cons_iff {t p : List Int} {q c : Int} (hq : 0 ≤ q) (_ : q < t.length) : Pf t q (c :: p) ↔ rd t q = c ∧ Pf t (q + 1) p := by
  constructor
  · rintro ⟨_, h2, h3⟩
    simp only [List.length_cons] at h2 h3
    refine ⟨?_, by omega, by omega, fun k hk => ?_⟩
    · have := h3 0 (by omega)
      rw [Int.natCast_zero, Int.add_zero, rd_cnsZ] at this; exact this
    · have := h3 (k + 1) (by omega)
      rw [rd_cnsS c p k hk] at this
      rw [← this]; congr 1; omega
  · rintro ⟨h1, _, h2, h3⟩
    refine ⟨hq, by simp only [List.length_cons]; omega, fun k hk => ?_⟩
    simp only [List.length_cons] at hk
    cases k with
    | zero => rw [Int.natCast_zero, Int.add_zero, rd_cnsZ]; exact h1
    | succ k =>
      rw [rd_cnsS c p k (by omega), ← h3 k (by omega)]; congr 1; omega
/-- The suffixes that begin with a pattern. -/
structure IsRng (t sa p : List Int) (a z : Nat) : Prop where
  le : a ≤ z
  lz : z ≤ t.length
  iff : ∀ j : Nat, j < t.length → ((a ≤ j ∧ j < z) ↔ Pf t (rd sa j) p)
theorem IsRng.all {t sa : List Int} (h : IsSA t sa) : IsRng t sa [] 0 t.length :=
  ⟨by omega, Nat.le_refl _, fun j hj => by
    have hl := h.perm.len
    have := h.perm.rng _ (rd_mem (l := sa) (i := (j : Int)) (by omega) (by omega))
    exact ⟨fun _ => Pf.nil this.1 (by omega), fun _ => ⟨by omega, hj⟩⟩⟩
theorem narrow_mono {b : List Int} {c : Int} {a z : Nat} (h : a ≤ z) : narrow b c a ≤ narrow b c z := by
  unfold narrow; have := cnt_take_mono (fun x => decide (x = c)) b h; omega
theorem narrow_le {b : List Int} {c : Int} {a : Nat} : narrow b c a ≤ b.length := by
  unfold narrow
  have h1 := cnt_take_le (fun x => decide (x = c)) b a
  have h2 := cnt_or (p := fun x => decide (x < c)) (q := fun x => decide (x = c)) b (fun x _ => by simp; omega)
  have h3 := cnt_le (fun x => decide (x < c) || decide (x = c)) b
  omega
theorem IsRng.step {t sa p : List Int} {a z : Nat} {c : Int} (h : IsSA t sa) (he : Ends t) (R : IsRng t sa p a z) (hc : p = [] ∨ c ≠ rd t (t.length - 1)) :
    IsRng t sa (c :: p) (narrow (bwtOf t sa) c a) (narrow (bwtOf t sa) c z) := by
  have hl := h.perm.len
  have bl : (bwtOf t sa).length = t.length := by rw [bwtOf_length]; exact hl
  refine ⟨narrow_mono R.le, bl ▸ narrow_le, fun j hj => ?_⟩
  rw [narrow_iff R.le (by rw [bl]; exact R.lz)]
  have rj := h.perm.rng _ (rd_mem (l := sa) (i := (j : Int)) (by omega) (by omega))
  rw [Pf.cons_iff rj.1 rj.2]
  constructor
  · rintro ⟨i, i1, i2, i3, i4⟩
    have hi : (i : Int) < t.length := by have := R.lz; omega
    have ls := lf_spec h he (i := (i : Int)) (by omega) hi
    rw [i4] at ls
    rw [rd_bwtOf (by omega) (by omega), ← ls] at i3
    refine ⟨i3, ?_⟩
    have pi := (R.iff i (by omega)).1 ⟨i1, i2⟩
    have ri := h.perm.rng _ (rd_mem (l := sa) (i := (i : Int)) (by omega) (by omega))
    by_cases c0 : rd sa i = 0
    · have e : rd sa j = t.length - 1 := by rw [ls]; unfold prev; rw [if_pos c0]
      rcases hc with rfl | hc
      · exact Pf.nil (by omega) (by omega)
      · rw [e] at i3; exact absurd i3.symm hc
    · have e : rd sa j = rd sa i - 1 := by rw [ls]; unfold prev; rw [if_neg c0]
      rw [e, show rd sa i - 1 + 1 = rd sa i by omega]; exact pi
  · rintro ⟨j1, j2⟩
    obtain ⟨q, hq⟩ : ∃ q : Int, q = if rd sa j + 1 = t.length then 0 else rd sa j + 1 := ⟨_, rfl⟩
    have q0 : 0 ≤ q ∧ q < t.length := by rw [hq]; split <;> omega
    have pq : prev t.length q = rd sa j := by rw [hq]; unfold prev; split <;> split <;> omega
    obtain ⟨i, i0, i1, ei⟩ := mem_rd (h.perm.mem_iff.2 q0)
    obtain ⟨i, rfl⟩ := Int.eq_ofNat_of_zero_le i0
    have ls := lf_spec h he (i := (i : Int)) (by omega) (by omega)
    rw [ei, pq] at ls
    have lr := lf_rng (b := bwtOf t sa) (i := (i : Int)) (by omega) (by omega)
    have pfq : Pf t (rd sa i) p := by
      rw [ei, hq]
      split
      · have := j2.2.1
        have : p = [] := List.length_eq_zero_iff.1 (by omega)
        subst this; exact Pf.nil (by omega) (by omega)
      · exact j2
    have hin := (R.iff i (by omega)).2 pfq
    refine ⟨i, hin.1, hin.2, by rw [rd_bwtOf (by omega) (by omega), ei, pq]; exact j1, ?_⟩
    obtain ⟨m, hm⟩ := Int.eq_ofNat_of_zero_le lr.1
    rw [hm] at ls lr ⊢
    have hm2 : m < sa.length := by omega
    rw [rd_getElem hm2, rd_getElem (by omega : j < sa.length)] at ls
    have := (List.getElem_inj h.perm.nd).1 ls
    omega
end Go.Ab.Bs


/- A finder: which places are marked; New's loop. -/
namespace Go.Ab
open Go Go.Proofs Go.Ab.Wd Go.Ab.Bs Go.Ab.Sai
set_option linter.unusedVariables false
set_option linter.unusedSimpArgs false
/-- Rows ahead of n stay, but for one. -/
structure Kq (b n : Nat) (σ σ' : Store) : Prop where
  prot : σ'.prot = σ.prot
  len : σ.objs.length ≤ σ'.objs.length
  keep : ∀ x, x < n → x ≠ b → σ'.objs[x]? = σ.objs[x]?
theorem Kq.refl (b n : Nat) (σ : Store) : Kq b n σ σ := ⟨rfl, Nat.le_refl _, fun _ _ _ => rfl⟩
theorem Kq.of {b n m : Nat} {σ σ' : Store} (k : Kp m σ σ') (h : n ≤ m) : Kq b n σ σ' := ⟨k.prot, k.len, fun x hx _ => k.keep x (by omega)⟩
theorem Kq.set (b n : Nat) (σ : Store) (o : AObj) : Kq b n σ (σ.setO b o) := ⟨rfl, by simp, fun x _ hb => by show (σ.objs.set b o)[x]? = _; rw [List.getElem?_set, if_neg (Ne.symm hb)]⟩
theorem Kq.trans {b n m : Nat} {σ σ1 σ2 : Store} (h : Kq b n σ σ1) (k : Kq b m σ1 σ2) (hm : n ≤ m) : Kq b n σ σ2 := ⟨k.prot.trans h.prot, Nat.le_trans h.len k.len, fun x hx hb => (k.keep x (by omega) hb).trans (h.keep x hx hb)⟩
theorem Vec.keepA {σ σ' : Store} {p : Ptr} {B : List Bool} (v : Vec σ p B) (k : ∀ x : Nat, x < σ.objs.length → σ'.objs[x]? = σ.objs[x]?) : Vec σ' p B := by
  obtain ⟨b, hw, ha, ws, ah, rfl, R, W, A, wb, ab⟩ := v.ex
  have lt : ∀ {h : Hdl} {l : List AV}, σ.Sl h 1 l → σ'.Sl h 1 l := fun {h l} s => by
    refine ⟨s.len, ?_⟩
    rcases s.row with h1 | ⟨b, o, cs, rw, h1, h2, h3⟩
    · exact .inl h1
    · exact .inr ⟨b, o, cs, rw, h1, (k b (List.getElem?_eq_some_iff.1 h2).1).trans h2, h3⟩
  exact ⟨⟨b, hw, ha, ws, ah, rfl, (k b R.lt).trans R, lt W, lt A, wb, ab⟩, v.small⟩
theorem Mat.keepA {σ σ' : Store} {p : Ptr} {l : List Int} {w : Nat} (m : Mat σ p l w) (k : ∀ x : Nat, x < σ.objs.length → σ'.objs[x]? = σ.objs[x]?) : Mat σ' p l w := by
  obtain ⟨b, hl, ps, rfl, R, S, lp, V⟩ := m.ex
  have lt : ∀ {h : Hdl} {l : List AV}, σ.Sl h 1 l → σ'.Sl h 1 l := fun {h l} s => by
    refine ⟨s.len, ?_⟩
    rcases s.row with h1 | ⟨b, o, cs, rw, h1, h2, h3⟩
    · exact .inl h1
    · exact .inr ⟨b, o, cs, rw, h1, (k b (List.getElem?_eq_some_iff.1 h2).1).trans h2, h3⟩
  exact ⟨⟨b, hl, ps, rfl, (k b R.lt).trans R, lt S, lp, fun j hj => by obtain ⟨q, e, v⟩ := V j hj; exact ⟨q, e, v.keepA k⟩⟩, m.wid, m.small, m.rng⟩
/-- A matrix stays where its own rows stay. -/
theorem Mat.from_ {σ' τ : Store} {p : Ptr} {l : List Int} {w n : Nat} (F : ∀ σ'' : Store, (∀ x, n ≤ x → σ''.objs[x]? = σ'.objs[x]?) → Mat σ'' p l w) (k : ∀ x, n ≤ x → x < σ'.objs.length → τ.objs[x]? = σ'.objs[x]?) : Mat τ p l w := by
  have m : Mat { τ with objs := τ.objs.take σ'.objs.length } p l w := F _ fun x hx => by
    show (τ.objs.take _)[x]? = _
    rw [List.getElem?_take]
    split
    · rename_i c; exact k x hx c
    · rw [List.getElem?_eq_none (by omega)]
  refine m.keepA fun x hx => ?_
  show _ = (τ.objs.take _)[x]?
  have : x < σ'.objs.length := by simp at hx; omega
  rw [List.getElem?_take, if_pos this]
/-! ### what is marked -/
def mk (s : Nat) (p : Int) : Bool := decide (p % (s : Int) = 0)
def plc (s : Nat) (l : List Int) : List Int := (l.filter (mk s)).map fun p => p / (s : Int)
theorem plc_cons (s : Nat) (x : Int) (l : List Int) : plc s (x :: l) = (if mk s x = true then [x / (s : Int)] else []) ++ plc s l := by
  unfold plc
  rw [List.filter_cons]
  split <;> simp [*]
theorem plc_append (s : Nat) (a b : List Int) : plc s (a ++ b) = plc s a ++ plc s b := by simp [plc]
theorem plc_nodup {s : Nat} (hs : 1 ≤ s) : ∀ {l : List Int}, l.Nodup → (plc s l).Nodup
  | [], _ => by simp [plc]
  | x :: l, h => by
    rw [List.nodup_cons] at h
    rw [plc_cons]
    split
    · rename_i c
      show (x / (s : Int) :: plc s l).Nodup
      rw [List.nodup_cons]
      refine ⟨fun hm => ?_, plc_nodup hs h.2⟩
      unfold plc at hm
      obtain ⟨y, hy, e⟩ := List.mem_map.1 hm
      obtain ⟨hy1, hy2⟩ := List.mem_filter.1 hy
      have c' : x % (s : Int) = 0 := by simpa [mk] using c
      have hy2' : y % (s : Int) = 0 := by simpa [mk] using hy2
      have e1 := Int.mul_ediv_add_emod x s
      have e2 := Int.mul_ediv_add_emod y s
      rw [e] at e2
      have : y = x := by omega
      exact h.1 (this ▸ hy1)
    · exact plc_nodup hs h.2
theorem plc_rng {s n : Nat} (hs : 1 ≤ s) {l : List Int} (h : ∀ p ∈ l, 0 ≤ p ∧ p < (n : Int)) : ∀ v ∈ plc s l, 0 ≤ v ∧ v < ((n - 1) / s + 1 : Nat) := fun v hv => by
  obtain ⟨y, hy, rfl⟩ := List.mem_map.1 hv
  have := h y (List.mem_filter.1 hy).1
  obtain ⟨y, rfl⟩ := Int.eq_ofNat_of_zero_le this.1
  have h1 : y / s ≤ (n - 1) / s := Nat.div_le_div_right (by omega)
  rw [← Int.natCast_ediv]
  generalize y / s = u at h1 ⊢
  generalize (n - 1) / s = v at h1 ⊢
  omega
theorem plc_len {s n : Nat} (hs : 1 ≤ s) {l : List Int} (h : ∀ p ∈ l, 0 ≤ p ∧ p < (n : Int)) (nd : l.Nodup) : (plc s l).length ≤ (n - 1) / s + 1 := by
  have := nodup_sub_len (plc_nodup hs nd) (m := places ((n - 1) / s + 1)) fun v hv => mem_places.2 (plc_rng hs h v hv)
  rwa [places_length] at this
def marksTo (s : Nat) (l : List Int) (i : Nat) : List Bool := (l.take i).map (mk s) ++ List.replicate (l.length - i) false
theorem marksTo_len {s : Nat} {l : List Int} {i : Nat} (hi : i ≤ l.length) : (marksTo s l i).length = l.length := by simp [marksTo]; omega
theorem marksTo_off {s : Nat} {l : List Int} {i : Nat} (hi : i < l.length) (h : mk s (rd l i) = false) : marksTo s l (i + 1) = marksTo s l i := by
  unfold marksTo
  rw [take_rd hi, List.map_append, List.append_assoc, show l.length - i = (l.length - (i + 1)) + 1 by omega, List.replicate_succ]
  simp [h]
theorem marksTo_on {s : Nat} {l : List Int} {i : Nat} (hi : i < l.length) (h : mk s (rd l i) = true) : marksTo s l (i + 1) = (marksTo s l i).set i true := by
  unfold marksTo
  rw [take_rd hi, List.map_append, List.append_assoc, show l.length - i = (l.length - (i + 1)) + 1 by omega, List.replicate_succ]
  rw [List.set_append_right _ _ (by simp; omega)]
  simp [h, Nat.min_eq_left (Nat.le_of_lt hi)]
theorem marksTo_end {s : Nat} {l : List Int} : marksTo s l l.length = l.map (mk s) := by simp [marksTo]
theorem marksTo_zero {s : Nat} {l : List Int} : marksTo s l 0 = List.replicate l.length false := by simp [marksTo]
theorem Pk.keep {σ σ' : Store} {L : Nat} {B : List Bool} (P : Pk σ L B) (k0 : σ'.objs[L]? = σ.objs[L]?) (k1 : σ'.objs[L + 1]? = σ.objs[L + 1]?) : Pk σ' L B := by
  obtain ⟨ws, R, w⟩ := P.ex
  exact ⟨⟨ws, k0.trans R, w⟩, k1.trans P.row⟩
/-- The loop of New. -/
theorem fnew_loop {σ0 σ : Store} {h : Hdl} {sa : List Int} {n s b wd M cc : Nat} {ws : List Int} (S : σ0.Ints h sa) (K0 : Kp σ0.objs.length σ0 σ) (hM : σ0.objs.length ≤ M) (hb : b < M)
    (perm : IsPerm n sa) (hn : n ≤ 4194304) (hs : 1 ≤ s) (hs2 : s ≤ 4194304) (R7 : σ.ldPtr (Ptr.add (some (b, 0)) 7) = some (some (M + 3, 0)))
    (P : Pk σ M (List.replicate n false)) (W : PkW σ (M + 2) wd cc ws) (C : Cont ws wd cc fun _ => 0) (w0 : 1 ≤ wd) (w1 : wd ≤ 32) (w2 : n < 2 ^ wd) (hp : σ.prot ≤ M) (hcc : cc = (n - 1) / s + 1) :
    ∃ σ' ws', EvI (fun k s' => stepF Try.prog (gm Try.prog k) drawn k Try.f11 [1, 1, 1, 1, 1, 1, 1, 1, 1, 1, 1, 0, 1, 0] [122, 121, 120, 18, 16, 15, 3] s')
      ([.int .i64 0, .int .i64 n, .slice h, .int .i64 0, .ptr (some (M + 1, 0)), .ptr (some (b, 0)), .int .i64 s], σ) (AX.exit 0, [(16, .ptr (some (M + 1, 0))), (15, .ptr (some (b, 0)))], σ') ∧
      Kp M σ σ' ∧ σ'.objs.length = σ.objs.length ∧ Pk σ' M (sa.map (mk s)) ∧ PkW σ' (M + 2) wd cc ws' ∧ Cont ws' wd cc fun j => (rd (plc s sa) j).toNat := by
  have ln := perm.len
  have ll := S.ilen
  obtain ⟨r, e, σ', ws', rfl, k', l', P', W', C'⟩ := EvI.up (f := fun k s' => stepF Try.prog (gm Try.prog k) drawn k Try.f11 [1, 1, 1, 1, 1, 1, 1, 1, 1, 1, 1, 0, 1, 0] [122, 121, 120, 18, 16, 15, 3] s') n
    (fun i st => ∃ s1 ws1, st = ([.int .i64 i, .int .i64 n, .slice h, .int .i64 ((plc s (sa.take i)).length : Nat), .ptr (some (M + 1, 0)), .ptr (some (b, 0)), .int .i64 s], s1) ∧ Kp M σ s1 ∧ s1.objs.length = σ.objs.length ∧
      Pk s1 M (marksTo s sa i) ∧ PkW s1 (M + 2) wd cc ws1 ∧ Cont ws1 wd cc fun j => (rd (plc s (sa.take i)) j).toNat)
    (fun r => ∃ s1 ws1, r = (AX.exit 0, [(16, .ptr (some (M + 1, 0))), (15, .ptr (some (b, 0)))], s1) ∧ Kp M σ s1 ∧ s1.objs.length = σ.objs.length ∧
      Pk s1 M (sa.map (mk s)) ∧ PkW s1 (M + 2) wd cc ws1 ∧ Cont ws1 wd cc fun j => (rd (plc s sa) j).toNat)
    (by
      rintro i st hi ⟨s1, ws1, rfl, k1, l1, P1, W1, C1⟩
      have i0 : (0 : Int) ≤ i := by omega
      have i1 : (i : Int) < n := by omega
      have i2 : (i : Int) < h.len := by omega
      have S1 := Store.Sl.kp S (K0.then k1 hM)
      have rx := Store.Ints.rd S1 i0 (by omega)
      have hx := perm.rng _ (rd_mem (l := sa) (i := (i : Int)) i0 (by omega))
      obtain ⟨x, ex⟩ := Int.eq_ofNat_of_zero_le hx.1
      rw [ex] at rx hx
      have wi := wsucc hi (by omega)
      have z : ¬ (s : Int) = 0 := by omega
      have pt := take_rd (l := sa) (i := i) (by omega)
      rw [ex] at pt
      have p1 : s1.prot ≤ M := by rw [k1.prot]; exact hp
      have tm : Int.tmod (x : Int) (s : Int) = ((x % s : Nat) : Int) := by rw [Int.tmod_eq_emod_of_nonneg (by omega)]; simp
      by_cases c : x % s = 0
      · have cm : mk s (rd sa i) = true := by rw [ex]; unfold mk; rw [decide_eq_true_eq]; omega
        have cm' : mk s (x : Int) = true := by rw [← ex]; exact cm
        have ct : Int.tmod (x : Int) (s : Int) = 0 := by rw [tm, c]; rfl
        obtain ⟨s2, ⟨n2, r2⟩, k2, o2, P2⟩ := set_run P1 p1 (i := i) (by rw [marksTo_len (by omega)]; omega) (by rw [marksTo_len (by omega)]; omega)
        have p2 : s2.prot ≤ M + 2 := by rw [k2.prot]; omega
        have W2 := W1.keep (o2.off (M + 2) (by omega)) (o2.off (M + 2 + 1) (by omega))
        have ep : plc s (sa.take (i + 1)) = plc s (sa.take i) ++ [(x : Int) / (s : Int)] := by
          rw [pt, plc_append, plc_cons, if_pos cm']; simp [plc]
        have pl : (plc s (sa.take (i + 1))).length ≤ cc := hcc ▸ plc_len hs (fun p hp => perm.rng p (List.mem_of_mem_take hp)) (perm.nd.sublist (List.take_sublist _ _))
        rw [ep, List.length_append] at pl
        simp only [List.length_cons, List.length_nil] at pl
        have dv : x / s ≤ x := Nat.div_le_self _ _
        have cl : cc ≤ n := by have : (n - 1) / s ≤ n - 1 := Nat.div_le_self _ _; omega
        obtain ⟨v, hv⟩ : ∃ v, v = x / s := ⟨_, rfl⟩
        rw [← hv] at dv
        obtain ⟨s3, ws3, ⟨n3, r3⟩, k3, o3, W3, B3⟩ := setW_run W2 p2 w0 w1 (by omega) (i := (plc s (sa.take i)).length) (v := v) (by omega) (by omega)
        have P3 := P2.keep (o3.off M (by omega)) (o3.off (M + 1) (by omega))
        have C3 := C1.set B3
        have f7 : s2.ldPtr (Ptr.add (some (b, 0)) 7) = some (some (M + 3, 0)) := by
          rw [← R7]; exact ldPtr_cell (cell_kp (k1.trans k2) (fun c hc => by simp [Ptr.row, Ptr.add] at hc; omega))
        have wv : IntKind.wrap .u64 (IntKind.wrap .i64 (Int.tdiv (x : Int) (s : Int))) = (v : Int) := by
          rw [Int.tdiv_eq_ediv_of_nonneg (by omega), ← Int.natCast_ediv, ← hv, wrap64 (by omega) (by omega), wrapu64 (by omega) (by omega)]
        have wk : IntKind.wrap .i64 (((plc s (sa.take i)).length : Int) + 1) = ((plc s (sa.take (i + 1))).length : Nat) := by
          rw [ep, List.length_append, wrap64 (by omega) (by omega)]; simp
        refine ⟨_, ⟨n2 + n3, fun m hm => ?_⟩, s3, ws3, rfl, k1.trans (k2.trans (k3.mono (by omega))), by rw [o3.len, o2.len, l1], by rw [marksTo_on (by omega) cm]; exact P3, W3, ?_⟩
        · have r2 := r2 m (by omega)
          have r3 := r3 m (by omega)
          simp only at r2 r3
          simp only [f11_L11111111111010]
          simp only [Option.bind_some, decide_eq_true_eq, decide_eq_false_iff_not, Bool.not_eq_true', Bool.not_true, Bool.not_false, Bool.false_eq_true, Bool.true_eq_false, Bool.not_eq_eq_eq_not, beq_self_eq_true, beqFT, beqTF, decide_true, decide_false, not_false_eq_true, not_true_eq_false, ne_eq, true_and, and_true, false_and, and_false, and_self, if_true, if_false, ite_true, ite_false, Bool.and_true, Bool.and_false, Bool.true_and, Bool.false_and, Bool.or_true, Bool.true_or, Bool.or_false, Bool.false_or, or_true, true_or, or_false, false_or, or_self, AV.asInt, AV.asBool, AV.asSl, AV.asPtr, AV.asFn, AV.asStr, AV.asMap, AV.asIfc, AV.item, List.length_cons, List.length_nil, List.getElem?_cons_zero, List.getElem?_cons_succ, Nat.zero_add, i0, i1, i2, rx, z, ct, r2, f7, wv, r3, wi, wk]
        · have ef : (fun j : Nat => (rd (plc s (sa.take (i + 1))) (j : Int)).toNat) = fun j : Nat => if j = (plc s (sa.take i)).length then v else (rd (plc s (sa.take i)) (j : Int)).toNat := by
            funext j
            rw [ep, rd_ofNat, rd_ofNat]
            by_cases e : j = (plc s (sa.take i)).length
            · subst e
              rw [if_pos rfl, List.getD_eq_getElem?_getD, List.getElem?_append_right (Nat.le_refl _), Nat.sub_self]
              simp only [List.getElem?_cons_zero, Option.getD_some]
              rw [← Int.natCast_ediv, Int.toNat_natCast, hv]
            · rw [if_neg e]
              by_cases c3 : j < (plc s (sa.take i)).length
              · rw [List.getD_eq_getElem?_getD, List.getD_eq_getElem?_getD, List.getElem?_append_left c3]
              · rw [List.getD_eq_getElem?_getD, List.getD_eq_getElem?_getD, List.getElem?_eq_none (by simp; omega), List.getElem?_eq_none (by omega)]
          rw [ef]; exact C3
      · have cm : mk s (rd sa i) = false := by rw [ex]; unfold mk; rw [decide_eq_false_iff_not]; omega
        have cm' : mk s (x : Int) = false := by rw [← ex]; exact cm
        have ct : ¬ Int.tmod (x : Int) (s : Int) = 0 := by rw [tm]; omega
        have ep : plc s (sa.take (i + 1)) = plc s (sa.take i) := by
          rw [pt, plc_append, plc_cons, if_neg (by simp [cm'])]; simp [plc]
        refine ⟨([.int .i64 (i + 1 : Nat), .int .i64 n, .slice h, .int .i64 ((plc s (sa.take i)).length : Nat), .ptr (some (M + 1, 0)), .ptr (some (b, 0)), .int .i64 s], s1), Ev.of fun m => by simp only [f11_L11111111111010]; simp only [Option.bind_some, decide_eq_true_eq, decide_eq_false_iff_not, Bool.not_eq_true', Bool.not_true, Bool.not_false, Bool.false_eq_true, Bool.true_eq_false, Bool.not_eq_eq_eq_not, beq_self_eq_true, beqFT, beqTF, decide_true, decide_false, not_false_eq_true, not_true_eq_false, ne_eq, true_and, and_true, false_and, and_false, and_self, if_true, if_false, ite_true, ite_false, Bool.and_true, Bool.and_false, Bool.true_and, Bool.false_and, Bool.or_true, Bool.true_or, Bool.or_false, Bool.false_or, or_true, true_or, or_false, false_or, or_self, AV.asInt, AV.asBool, AV.asSl, AV.asPtr, AV.asFn, AV.asStr, AV.asMap, AV.asIfc, AV.item, List.length_cons, List.length_nil, List.getElem?_cons_zero, List.getElem?_cons_succ, Nat.zero_add, i0, i1, i2, rx, z, ct, wi], s1, ws1, by rw [ep], k1, l1, by rw [marksTo_off (by omega) cm]; exact P1, W1, by rw [ep]; exact C1⟩)
    (by
      rintro st ⟨s1, ws1, rfl, k1, l1, P1, W1, C1⟩
      rw [List.take_of_length_le (by omega)] at C1
      rw [show n = sa.length by omega, marksTo_end] at P1
      exact ⟨_, Ev.of fun m => by simp only [f11_L11111111111010]; simp only [Option.bind_some, decide_eq_true_eq, decide_eq_false_iff_not, Bool.not_eq_true', Bool.not_true, Bool.not_false, Bool.false_eq_true, Bool.true_eq_false, Bool.not_eq_eq_eq_not, beq_self_eq_true, beqFT, beqTF, decide_true, decide_false, not_false_eq_true, not_true_eq_false, ne_eq, true_and, and_true, false_and, and_false, and_self, if_true, if_false, ite_true, ite_false, Bool.and_true, Bool.and_false, Bool.true_and, Bool.false_and, Bool.or_true, Bool.true_or, Bool.or_false, Bool.false_or, or_true, true_or, or_false, false_or, or_self, AV.asInt, AV.asBool, AV.asSl, AV.asPtr, AV.asFn, AV.asStr, AV.asMap, AV.asIfc, AV.item, List.length_cons, List.length_nil, List.getElem?_cons_zero, List.getElem?_cons_succ, Nat.zero_add, Int.lt_irrefl], s1, ws1, rfl, k1, l1, P1, W1, C1⟩)
    (s := ([.int .i64 0, .int .i64 n, .slice h, .int .i64 0, .ptr (some (M + 1, 0)), .ptr (some (b, 0)), .int .i64 s], σ))
    ⟨σ, ws, by simp [plc], Kp.refl _ _, rfl, by rw [marksTo_zero, ln]; exact P, W, by simpa [plc, rd] using C⟩
  exact ⟨σ', ws', e, k', l', P', W', C'⟩
end Go.Ab


/- A finder in memory; what it answers: Len, Narrow, Before, Place. -/
namespace Go.Ab
open Go Go.Proofs Go.Ab.Wd Go.Ab.Bs Go.Ab.Sai
set_option linter.unusedVariables false
set_option linter.unusedSimpArgs false
theorem row_ptr {σ : Store} {b es o : Nat} {l : List AV} {x : Ptr} (r : σ.Row b es l) (h : l[o]? = some (.ptr x)) : σ.ldPtr (Ptr.add (some (b, 0)) o) = some x := by
  have := r.cell (0 + o)
  simp only [Nat.zero_add] at this
  simp only [Store.ldPtr, Ptr.add, Option.map_some, Nat.zero_add, this, h]
structure Fnd (σ : Store) (p : Ptr) (t : List Int) (al s : Nat) : Prop where
  ex : ∃ b hb pm w pv L wd ws, p = some (b, 0) ∧ σ.Row b 8 [.int .i64 t.length, .int .i64 al, .int .i64 s, .int .i64 (rd t (t.length - 1)), .slice hb, .ptr pm, .ptr pv, .ptr (some (L + 1, 0))] ∧
    σ.Ints hb (belows (bwtOf t (saOf t)) (al + 1)) ∧ Mat σ pm (bwtOf t (saOf t)) w ∧ Vec σ pv ((saOf t).map (mk s)) ∧ PkW σ L wd ((t.length - 1) / s + 1) ws ∧ Cont ws wd ((t.length - 1) / s + 1) (fun j => (rd (plc s (saOf t)) j).toNat) ∧ 1 ≤ wd ∧ wd ≤ 32 ∧ t.length < 2 ^ wd
  ends : Bs.Ends t
  rng : ∀ x ∈ t, 0 ≤ x ∧ x < al
  al1 : al < 4194304
  s1 : 1 ≤ s
  s2 : s ≤ 4194304
  small : t.length ≤ 4194304
theorem Fnd.keep {σ σ' : Store} {p : Ptr} {t : List Int} {al s : Nat} (F : Fnd σ p t al s) (k : ∀ x : Nat, x < σ.objs.length → σ'.objs[x]? = σ.objs[x]?) : Fnd σ' p t al s := by
  obtain ⟨b, hb, pm, w, pv, L, wd, ws, rfl, R, B, M, V, P, C⟩ := F.ex
  refine ⟨⟨b, hb, pm, w, pv, L, wd, ws, rfl, (k b R.lt).trans R, ?_, M.keepA k, V.keepA k, P.keep (k _ P.row.lt) (k _ P.hd.lt), C⟩, F.ends, F.rng, F.al1, F.s1, F.s2, F.small⟩
  refine ⟨B.len, ?_⟩
  rcases B.row with h1 | ⟨b, o, cs, rw, h1, h2, h3⟩
  · exact .inl h1
  · exact .inr ⟨b, o, cs, rw, h1, (k b (List.getElem?_eq_some_iff.1 h2).1).trans h2, h3⟩
theorem Fnd.kp {σ σ' : Store} {p : Ptr} {t : List Int} {al s : Nat} (F : Fnd σ p t al s) (k : Kp σ.objs.length σ σ') : Fnd σ' p t al s := F.keep k.keep
section
variable {σ : Store} {p : Ptr} {t : List Int} {al s : Nat}
theorem Fnd.pos (F : Fnd σ p t al s) : 0 < t.length := F.ends.1
theorem Fnd.bl (F : Fnd σ p t al s) : (bwtOf t (saOf t)).length = t.length := by rw [bwtOf_length, saOf_len]
theorem flen_run (F : Fnd σ p t al s) : Runs Try.prog 16 [.ptr p] σ (.int .i64 t.length) σ := by
  obtain ⟨b, hb, pm, w, pv, L, wd, ws, rfl, R, _⟩ := F.ex
  have e0 := row_int R (o := 0) rfl
  refine Runs.intro (fn := Try.f16) (by kernel_rfl) (by kernel_rfl) (Ev.of fun k => ?_)
  simp only [f16_eq]
  simp only [Option.bind_some, decide_eq_true_eq, decide_eq_false_iff_not, Bool.not_eq_true', Bool.not_true, Bool.not_false, Bool.false_eq_true, Bool.true_eq_false, Bool.not_eq_eq_eq_not, beq_self_eq_true, beqFT, beqTF, decide_true, decide_false, not_false_eq_true, not_true_eq_false, ne_eq, true_and, and_true, false_and, and_false, and_self, if_true, if_false, ite_true, ite_false, Bool.and_true, Bool.and_false, Bool.true_and, Bool.false_and, Bool.or_true, Bool.true_or, Bool.or_false, Bool.false_or, or_true, true_or, or_false, false_or, or_self, AV.asInt, AV.asBool, AV.asSl, AV.asPtr, AV.asFn, AV.asStr, AV.asMap, AV.asIfc, AV.item, List.length_cons, List.length_nil, List.getElem?_cons_zero, List.getElem?_cons_succ, Nat.zero_add, Option.isNone_some, e0]
/-- A range with a number ahead. -/
def nar (b : List Int) (n al : Nat) (x y c : Int) : Int × Int :=
  if 0 ≤ c ∧ c < al ∧ 0 ≤ x ∧ x ≤ y ∧ y ≤ n ∧ narrow b c x.toNat ≠ narrow b c y.toNat then ((narrow b c x.toNat : Nat), (narrow b c y.toNat : Nat)) else (0, 0)
theorem narrow_run (F : Fnd σ p t al s) (x y c : Int) : Runs Try.prog 25 [.ptr p, .int .i64 x, .int .i64 y, .int .i64 c] σ (.tuple [.int .i64 (nar (bwtOf t (saOf t)) t.length al x y c).1, .int .i64 (nar (bwtOf t (saOf t)) t.length al x y c).2]) σ := by
  obtain ⟨b, hb, pm, w, pv, L, wd, ws, rfl, R, B, M, _⟩ := F.ex
  have bl := F.bl
  have e0 := row_int R (o := 0) rfl
  have e1 := row_int R (o := 1) rfl
  have e4 := row_sl R (o := 4) rfl
  have e5 := row_ptr R (o := 5) rfl
  have lb := B.ilen
  rw [belows_length] at lb
  have hal := F.al1
  have hsm := F.small
  by_cases h : 0 ≤ c ∧ c < al ∧ 0 ≤ x ∧ x ≤ y ∧ y ≤ t.length
  · obtain ⟨h1, h2, h3, h4, h5⟩ := h
    obtain ⟨n1, r1⟩ := matRank_run (M.keepA (σ' := { σ with prot := σ.objs.length }) fun _ _ => rfl) c x
    obtain ⟨n2, r2⟩ := matRank_run (M.keepA (σ' := { σ with prot := σ.objs.length }) fun _ _ => rfl) c y
    have g := B.rd (i := c) h1 (by rw [belows_length]; omega)
    rw [rd_belows h1 (by omega)] at g
    have c1 : ¬ c < 0 := by omega
    have c2 : ¬ (al : Int) ≤ c := by omega
    have c3 : ¬ x < 0 := by omega
    have c4 : ¬ y < x := by omega
    have c5 : ¬ (t.length : Int) < y := by omega
    have c6 : c < hb.len := by omega
    have nx := narrow_le (b := bwtOf t (saOf t)) (c := c) (a := x.toNat)
    have ny := narrow_le (b := bwtOf t (saOf t)) (c := c) (a := y.toNat)
    rw [bl] at nx ny
    have wx : IntKind.wrap .i64 (below (bwtOf t (saOf t)) c + (Bs.cnt (fun z => decide (z = c)) ((bwtOf t (saOf t)).take x.toNat) : Nat)) = (narrow (bwtOf t (saOf t)) c x.toNat : Nat) := by
      unfold below narrow at *
      rw [wrap64 (by omega) (by omega)]; omega
    have wy : IntKind.wrap .i64 (below (bwtOf t (saOf t)) c + (Bs.cnt (fun z => decide (z = c)) ((bwtOf t (saOf t)).take y.toNat) : Nat)) = (narrow (bwtOf t (saOf t)) c y.toNat : Nat) := by
      unfold below narrow at *
      rw [wrap64 (by omega) (by omega)]; omega
    refine Runs.intro (fn := Try.f25) (by kernel_rfl) (by kernel_rfl) ⟨n1 + n2, fun k hk => ?_⟩
    have r1 := callG_same (r1 k (by omega))
    have r2 := callG_same (r2 k (by omega))
    by_cases q : narrow (bwtOf t (saOf t)) c x.toNat = narrow (bwtOf t (saOf t)) c y.toNat
    · have q' : ((narrow (bwtOf t (saOf t)) c x.toNat : Nat) : Int) = (narrow (bwtOf t (saOf t)) c y.toNat : Nat) := by rw [q]
      have en : nar (bwtOf t (saOf t)) t.length al x y c = (0, 0) := by unfold nar; rw [if_neg (fun hh => hh.2.2.2.2.2 q)]
      rw [en]
      simp only [f25_eq]
      simp only [Option.bind_some, decide_eq_true_eq, decide_eq_false_iff_not, Bool.not_eq_true', Bool.not_true, Bool.not_false, Bool.false_eq_true, Bool.true_eq_false, Bool.not_eq_eq_eq_not, beq_self_eq_true, beqFT, beqTF, decide_true, decide_false, not_false_eq_true, not_true_eq_false, ne_eq, true_and, and_true, false_and, and_false, and_self, if_true, if_false, ite_true, ite_false, Bool.and_true, Bool.and_false, Bool.true_and, Bool.false_and, Bool.or_true, Bool.true_or, Bool.or_false, Bool.false_or, or_true, true_or, or_false, false_or, or_self, AV.asInt, AV.asBool, AV.asSl, AV.asPtr, AV.asFn, AV.asStr, AV.asMap, AV.asIfc, AV.item, List.length_cons, List.length_nil, List.getElem?_cons_zero, List.getElem?_cons_succ, Nat.zero_add, Option.isNone_some, c1, e1, c2, c3, c4, e0, c5, e4, h1, c6, g, e5, r1, r2, wx, wy, q']
    · have q' : ¬ ((narrow (bwtOf t (saOf t)) c x.toNat : Nat) : Int) = (narrow (bwtOf t (saOf t)) c y.toNat : Nat) := by omega
      have en : nar (bwtOf t (saOf t)) t.length al x y c = (((narrow (bwtOf t (saOf t)) c x.toNat : Nat) : Int), ((narrow (bwtOf t (saOf t)) c y.toNat : Nat) : Int)) := by unfold nar; rw [if_pos ⟨h1, h2, h3, h4, h5, q⟩]
      rw [en]
      simp only [f25_eq]
      simp only [Option.bind_some, decide_eq_true_eq, decide_eq_false_iff_not, Bool.not_eq_true', Bool.not_true, Bool.not_false, Bool.false_eq_true, Bool.true_eq_false, Bool.not_eq_eq_eq_not, beq_self_eq_true, beqFT, beqTF, decide_true, decide_false, not_false_eq_true, not_true_eq_false, ne_eq, true_and, and_true, false_and, and_false, and_self, if_true, if_false, ite_true, ite_false, Bool.and_true, Bool.and_false, Bool.true_and, Bool.false_and, Bool.or_true, Bool.true_or, Bool.or_false, Bool.false_or, or_true, true_or, or_false, false_or, or_self, AV.asInt, AV.asBool, AV.asSl, AV.asPtr, AV.asFn, AV.asStr, AV.asMap, AV.asIfc, AV.item, List.length_cons, List.length_nil, List.getElem?_cons_zero, List.getElem?_cons_succ, Nat.zero_add, Option.isNone_some, c1, e1, c2, c3, c4, e0, c5, e4, h1, c6, g, e5, r1, r2, wx, wy, q']
  · have en : nar (bwtOf t (saOf t)) t.length al x y c = (0, 0) := by unfold nar; rw [if_neg (fun hh => h ⟨hh.1, hh.2.1, hh.2.2.1, hh.2.2.2.1, hh.2.2.2.2.1⟩)]
    rw [en]
    refine Runs.intro (fn := Try.f25) (by kernel_rfl) (by kernel_rfl) (Ev.of fun k => ?_)
    simp only [f25_eq]
    by_cases c1 : c < 0
    · simp only [Option.bind_some, decide_eq_true_eq, decide_eq_false_iff_not, Bool.not_eq_true', Bool.not_true, Bool.not_false, Bool.false_eq_true, Bool.true_eq_false, Bool.not_eq_eq_eq_not, beq_self_eq_true, beqFT, beqTF, decide_true, decide_false, not_false_eq_true, not_true_eq_false, ne_eq, true_and, and_true, false_and, and_false, and_self, if_true, if_false, ite_true, ite_false, Bool.and_true, Bool.and_false, Bool.true_and, Bool.false_and, Bool.or_true, Bool.true_or, Bool.or_false, Bool.false_or, or_true, true_or, or_false, false_or, or_self, AV.asInt, AV.asBool, AV.asSl, AV.asPtr, AV.asFn, AV.asStr, AV.asMap, AV.asIfc, AV.item, List.length_cons, List.length_nil, List.getElem?_cons_zero, List.getElem?_cons_succ, Nat.zero_add, c1]
    by_cases c2 : (al : Int) ≤ c
    · simp only [Option.bind_some, decide_eq_true_eq, decide_eq_false_iff_not, Bool.not_eq_true', Bool.not_true, Bool.not_false, Bool.false_eq_true, Bool.true_eq_false, Bool.not_eq_eq_eq_not, beq_self_eq_true, beqFT, beqTF, decide_true, decide_false, not_false_eq_true, not_true_eq_false, ne_eq, true_and, and_true, false_and, and_false, and_self, if_true, if_false, ite_true, ite_false, Bool.and_true, Bool.and_false, Bool.true_and, Bool.false_and, Bool.or_true, Bool.true_or, Bool.or_false, Bool.false_or, or_true, true_or, or_false, false_or, or_self, AV.asInt, AV.asBool, AV.asSl, AV.asPtr, AV.asFn, AV.asStr, AV.asMap, AV.asIfc, AV.item, List.length_cons, List.length_nil, List.getElem?_cons_zero, List.getElem?_cons_succ, Nat.zero_add, Option.isNone_some, c1, e1, c2]
    by_cases c3 : x < 0
    · simp only [Option.bind_some, decide_eq_true_eq, decide_eq_false_iff_not, Bool.not_eq_true', Bool.not_true, Bool.not_false, Bool.false_eq_true, Bool.true_eq_false, Bool.not_eq_eq_eq_not, beq_self_eq_true, beqFT, beqTF, decide_true, decide_false, not_false_eq_true, not_true_eq_false, ne_eq, true_and, and_true, false_and, and_false, and_self, if_true, if_false, ite_true, ite_false, Bool.and_true, Bool.and_false, Bool.true_and, Bool.false_and, Bool.or_true, Bool.true_or, Bool.or_false, Bool.false_or, or_true, true_or, or_false, false_or, or_self, AV.asInt, AV.asBool, AV.asSl, AV.asPtr, AV.asFn, AV.asStr, AV.asMap, AV.asIfc, AV.item, List.length_cons, List.length_nil, List.getElem?_cons_zero, List.getElem?_cons_succ, Nat.zero_add, Option.isNone_some, c1, e1, c2, c3]
    by_cases c4 : y < x
    · simp only [Option.bind_some, decide_eq_true_eq, decide_eq_false_iff_not, Bool.not_eq_true', Bool.not_true, Bool.not_false, Bool.false_eq_true, Bool.true_eq_false, Bool.not_eq_eq_eq_not, beq_self_eq_true, beqFT, beqTF, decide_true, decide_false, not_false_eq_true, not_true_eq_false, ne_eq, true_and, and_true, false_and, and_false, and_self, if_true, if_false, ite_true, ite_false, Bool.and_true, Bool.and_false, Bool.true_and, Bool.false_and, Bool.or_true, Bool.true_or, Bool.or_false, Bool.false_or, or_true, true_or, or_false, false_or, or_self, AV.asInt, AV.asBool, AV.asSl, AV.asPtr, AV.asFn, AV.asStr, AV.asMap, AV.asIfc, AV.item, List.length_cons, List.length_nil, List.getElem?_cons_zero, List.getElem?_cons_succ, Nat.zero_add, Option.isNone_some, c1, e1, c2, c3, c4]
    have c5 : (t.length : Int) < y := by omega
    simp only [Option.bind_some, decide_eq_true_eq, decide_eq_false_iff_not, Bool.not_eq_true', Bool.not_true, Bool.not_false, Bool.false_eq_true, Bool.true_eq_false, Bool.not_eq_eq_eq_not, beq_self_eq_true, beqFT, beqTF, decide_true, decide_false, not_false_eq_true, not_true_eq_false, ne_eq, true_and, and_true, false_and, and_false, and_self, if_true, if_false, ite_true, ite_false, Bool.and_true, Bool.and_false, Bool.true_and, Bool.false_and, Bool.or_true, Bool.true_or, Bool.or_false, Bool.false_or, or_true, true_or, or_false, false_or, or_self, AV.asInt, AV.asBool, AV.asSl, AV.asPtr, AV.asFn, AV.asStr, AV.asMap, AV.asIfc, AV.item, List.length_cons, List.length_nil, List.getElem?_cons_zero, List.getElem?_cons_succ, Nat.zero_add, Option.isNone_some, c1, e1, c2, c3, c4, e0, c5]
theorem before_run (F : Fnd σ p t al s) (i : Int) : Runs Try.prog 24 [.ptr p, .int .i64 i] σ (.int .i64 (if 0 ≤ i ∧ i < t.length then lf (bwtOf t (saOf t)) i else -1)) σ := by
  obtain ⟨n0, r0⟩ := flen_run F
  obtain ⟨b, hb, pm, w, pv, L, wd, ws, rfl, R, B, M, _⟩ := F.ex
  have bl := F.bl
  have e4 := row_sl R (o := 4) rfl
  have e5 := row_ptr R (o := 5) rfl
  have lb := B.ilen
  rw [belows_length] at lb
  have hal := F.al1
  have hsm := F.small
  by_cases h : 0 ≤ i ∧ i < t.length
  · obtain ⟨h1, h2⟩ := h
    rw [if_pos ⟨h1, h2⟩]
    obtain ⟨n1, r1⟩ := matAt_run M i
    rw [if_pos ⟨h1, by omega⟩] at r1
    have hc : rd (bwtOf t (saOf t)) i ∈ t := (bwtOf_perm (t := t) (saOf_spec t).perm).mem_iff.1 (rd_mem h1 (by omega))
    have hr := F.rng _ hc
    obtain ⟨c, hcc⟩ : ∃ c, c = rd (bwtOf t (saOf t)) i := ⟨_, rfl⟩
    rw [← hcc] at r1 hr
    obtain ⟨n2, r2⟩ := matRank_run (M.keepA (σ' := { σ with prot := σ.objs.length }) fun _ _ => rfl) c i
    have g := B.rd (i := c) hr.1 (by rw [belows_length]; omega)
    rw [rd_belows hr.1 (by omega)] at g
    have c6 : c < hb.len := by omega
    have lr := lf_rng (b := bwtOf t (saOf t)) h1 (by omega)
    have wx : IntKind.wrap .i64 (below (bwtOf t (saOf t)) c + (Bs.cnt (fun z => decide (z = c)) ((bwtOf t (saOf t)).take i.toNat) : Nat)) = lf (bwtOf t (saOf t)) i := by
      have : lf (bwtOf t (saOf t)) i = below (bwtOf t (saOf t)) c + (Bs.cnt (fun z => decide (z = c)) ((bwtOf t (saOf t)).take i.toNat) : Nat) := by unfold lf below; rw [hcc]; simp
      rw [← this, wrap64 (by omega) (by omega)]
    have c1 : ¬ i < 0 := by omega
    have c2 : ¬ (t.length : Int) ≤ i := by omega
    refine Runs.intro (fn := Try.f24) (by kernel_rfl) (by kernel_rfl) ⟨n0 + n1 + n2, fun k hk => ?_⟩
    have r0 := r0 k (by omega)
    have r1 := r1 k (by omega)
    have r2 := callG_same (r2 k (by omega))
    simp only at r0 r1
    simp only [f24_eq]
    simp only [Option.bind_some, decide_eq_true_eq, decide_eq_false_iff_not, Bool.not_eq_true', Bool.not_true, Bool.not_false, Bool.false_eq_true, Bool.true_eq_false, Bool.not_eq_eq_eq_not, beq_self_eq_true, beqFT, beqTF, decide_true, decide_false, not_false_eq_true, not_true_eq_false, ne_eq, true_and, and_true, false_and, and_false, and_self, if_true, if_false, ite_true, ite_false, Bool.and_true, Bool.and_false, Bool.true_and, Bool.false_and, Bool.or_true, Bool.true_or, Bool.or_false, Bool.false_or, or_true, true_or, or_false, false_or, or_self, AV.asInt, AV.asBool, AV.asSl, AV.asPtr, AV.asFn, AV.asStr, AV.asMap, AV.asIfc, AV.item, List.length_cons, List.length_nil, List.getElem?_cons_zero, List.getElem?_cons_succ, Nat.zero_add, c1, r0, c2, e5, r1, e4, hr.1, c6, g, r2, wx]
  · rw [if_neg h]
    refine Runs.intro (fn := Try.f24) (by kernel_rfl) (by kernel_rfl) ⟨n0, fun k hk => ?_⟩
    have r0 := r0 k (by omega)
    simp only at r0
    simp only [f24_eq]
    by_cases c1 : i < 0
    · simp only [Option.bind_some, decide_eq_true_eq, decide_eq_false_iff_not, Bool.not_eq_true', Bool.not_true, Bool.not_false, Bool.false_eq_true, Bool.true_eq_false, Bool.not_eq_eq_eq_not, beq_self_eq_true, beqFT, beqTF, decide_true, decide_false, not_false_eq_true, not_true_eq_false, ne_eq, true_and, and_true, false_and, and_false, and_self, if_true, if_false, ite_true, ite_false, Bool.and_true, Bool.and_false, Bool.true_and, Bool.false_and, Bool.or_true, Bool.true_or, Bool.or_false, Bool.false_or, or_true, true_or, or_false, false_or, or_self, AV.asInt, AV.asBool, AV.asSl, AV.asPtr, AV.asFn, AV.asStr, AV.asMap, AV.asIfc, AV.item, List.length_cons, List.length_nil, List.getElem?_cons_zero, List.getElem?_cons_succ, Nat.zero_add, c1]
    have c2 : (t.length : Int) ≤ i := by omega
    simp only [Option.bind_some, decide_eq_true_eq, decide_eq_false_iff_not, Bool.not_eq_true', Bool.not_true, Bool.not_false, Bool.false_eq_true, Bool.true_eq_false, Bool.not_eq_eq_eq_not, beq_self_eq_true, beqFT, beqTF, decide_true, decide_false, not_false_eq_true, not_true_eq_false, ne_eq, true_and, and_true, false_and, and_false, and_self, if_true, if_false, ite_true, ite_false, Bool.and_true, Bool.and_false, Bool.true_and, Bool.false_and, Bool.or_true, Bool.true_or, Bool.or_false, Bool.false_or, or_true, true_or, or_false, false_or, or_self, AV.asInt, AV.asBool, AV.asSl, AV.asPtr, AV.asFn, AV.asStr, AV.asMap, AV.asIfc, AV.item, List.length_cons, List.length_nil, List.getElem?_cons_zero, List.getElem?_cons_succ, Nat.zero_add, c1, r0, c2]
theorem onesTo_mk (s : Nat) (l : List Int) (i : Nat) : onesTo (l.map (mk s)) i = (plc s (l.take i)).length := by
  unfold onesTo plc
  rw [← List.map_take, List.filter_map, List.length_map, List.length_map]; rfl
theorem plc_at {s : Nat} {l : List Int} {j : Nat} (hj : j < l.length) (h : mk s (rd l j) = true) : rd (plc s l) ((plc s (l.take j)).length : Nat) = rd l j / (s : Int) ∧ (plc s (l.take j)).length < (plc s l).length := by
  have e : l = l.take j ++ (rd l j :: l.drop (j + 1)) := by
    rw [rd_getElem hj, List.getElem_cons_drop, List.take_append_drop]
  have e2 : plc s l = plc s (l.take j) ++ ([rd l j / (s : Int)] ++ plc s (l.drop (j + 1))) := by
    conv => lhs; rw [e]
    rw [plc_append, plc_cons, if_pos h]
  constructor
  · rw [rd_ofNat, e2, List.getD_eq_getElem?_getD, List.getElem?_append_right (Nat.le_refl _), Nat.sub_self]; rfl
  · rw [e2]; simp
theorem place_run (F : Fnd σ p t al s) (i : Int) : Runs Try.prog 23 [.ptr p, .int .i64 i] σ (.tuple [.int .i64 (if 0 ≤ i ∧ i < t.length then rd (saOf t) i else -1), .int .i64 (if 0 ≤ i ∧ i < t.length then rd (saOf t) i % (s : Int) else 0)]) σ := by
  obtain ⟨n0, r0⟩ := flen_run F
  have bl := F.bl
  have hsm := F.small
  have hs1 := F.s1
  have hs2 := F.s2
  have SA := saOf_spec t
  have ls := saOf_len t
  by_cases h : 0 ≤ i ∧ i < t.length
  case neg =>
    rw [if_neg h, if_neg h]
    refine Runs.intro (fn := Try.f23) (by kernel_rfl) (by kernel_rfl) ⟨n0, fun k hk => ?_⟩
    have r0 := r0 k (by omega)
    simp only at r0
    simp only [f23_eq]
    by_cases c1 : i < 0
    · simp only [Option.bind_some, decide_eq_true_eq, decide_eq_false_iff_not, Bool.not_eq_true', Bool.not_true, Bool.not_false, Bool.false_eq_true, Bool.true_eq_false, Bool.not_eq_eq_eq_not, beq_self_eq_true, beqFT, beqTF, decide_true, decide_false, not_false_eq_true, not_true_eq_false, ne_eq, true_and, and_true, false_and, and_false, and_self, if_true, if_false, ite_true, ite_false, Bool.and_true, Bool.and_false, Bool.true_and, Bool.false_and, Bool.or_true, Bool.true_or, Bool.or_false, Bool.false_or, or_true, true_or, or_false, false_or, or_self, AV.asInt, AV.asBool, AV.asSl, AV.asPtr, AV.asFn, AV.asStr, AV.asMap, AV.asIfc, AV.item, List.length_cons, List.length_nil, List.getElem?_cons_zero, List.getElem?_cons_succ, Nat.zero_add, c1]
    have c2 : (t.length : Int) ≤ i := by omega
    simp only [Option.bind_some, decide_eq_true_eq, decide_eq_false_iff_not, Bool.not_eq_true', Bool.not_true, Bool.not_false, Bool.false_eq_true, Bool.true_eq_false, Bool.not_eq_eq_eq_not, beq_self_eq_true, beqFT, beqTF, decide_true, decide_false, not_false_eq_true, not_true_eq_false, ne_eq, true_and, and_true, false_and, and_false, and_self, if_true, if_false, ite_true, ite_false, Bool.and_true, Bool.and_false, Bool.true_and, Bool.false_and, Bool.or_true, Bool.true_or, Bool.or_false, Bool.false_or, or_true, true_or, or_false, false_or, or_self, AV.asInt, AV.asBool, AV.asSl, AV.asPtr, AV.asFn, AV.asStr, AV.asMap, AV.asIfc, AV.item, List.length_cons, List.length_nil, List.getElem?_cons_zero, List.getElem?_cons_succ, Nat.zero_add, c1, r0, c2]
  obtain ⟨h1, h2⟩ := h
  rw [if_pos ⟨h1, h2⟩, if_pos ⟨h1, h2⟩]
  obtain ⟨b, hb, pm, w, pv, L, wd, ws, ep, R, B, M, V, P, C, w0, w1, w2⟩ := F.ex
  have e2 := row_int R (o := 2) rfl
  have e6 := row_ptr R (o := 6) rfl
  have e7 := row_ptr R (o := 7) rfl
  have hq := SA.perm.rng _ (rd_mem (l := saOf t) (i := i) h1 (by omega))
  obtain ⟨q, hqq⟩ := Int.eq_ofNat_of_zero_le hq.1
  rw [hqq] at hq ⊢
  have sz : ((q : Int) % (s : Int)) = ((q % s : Nat) : Int) := by simp
  have lt : q % s < s := Nat.mod_lt _ (by omega)
  obtain ⟨r, e, j, rfl, j0, j1, ej⟩ := EvI.while (f := fun k st => stepF Try.prog (gm Try.prog k) drawn k Try.f23 [1, 1, 1, 0, 0] [6, 1, 0] st)
    (fun m st => ∃ (j : Nat) (d : Nat), m = q % s - d ∧ d ≤ q % s ∧ st = ([.int .i64 d, .int .i64 j, .ptr p], σ) ∧ j < t.length ∧ rd (saOf t) j = (q : Int) - d)
    (fun r => ∃ j : Nat, r = (AX.exit 0, [(6, .int .i64 (q % s : Nat)), (1, .int .i64 j), (0, .ptr p)], σ) ∧ 0 ≤ j ∧ j < t.length ∧ rd (saOf t) j = (q : Int) - (q % s : Nat))
    (by
      rintro m st ⟨j, d, rfl, hd, rfl, hj, ej⟩
      obtain ⟨n1, r1⟩ := vec_at V (j : Int)
      have eb : bitAt ((saOf t).map (mk s)) j = decide (q % s = d) := by
        unfold bitAt
        rw [List.getElem?_map, List.getElem?_eq_getElem (by omega)]
        simp only [Option.map_some, Option.getD_some]
        rw [← rd_getElem (by omega : j < (saOf t).length), ej]
        unfold mk
        congr 1
        apply propext
        have hdq : d ≤ q := by have := Nat.mod_le q s; omega
        rw [show (q : Int) - d = ((q - d : Nat) : Int) by omega]
        have e1 := Nat.div_add_mod q s
        constructor
        · intro hz
          have hz' : (q - d) % s = 0 := by omega
          rcases Nat.lt_or_ge d (q % s) with hlt | hge
          · exfalso
            have e3 : (q - d) % s = q % s - d := by
              have : q - d = s * (q / s) + (q % s - d) := by omega
              rw [this, Nat.mul_add_mod, Nat.mod_eq_of_lt (by omega)]
            omega
          · omega
        · intro hz
          have : q - d = s * (q / s) := by omega
          rw [this]; simp
      have d0 : decide ((0 : Int) ≤ (j : Int)) = true := by simp
      rw [Int.toNat_natCast, eb, d0, Bool.true_and] at r1
      by_cases c : q % s = d
      · rw [decide_eq_true c] at r1
        refine .inr ⟨_, ⟨n1, fun k hk => ?_⟩, j, rfl, Nat.zero_le _, hj, by rw [ej, c]⟩
        have r1 := r1 k hk
        simp only at r1
        simp only [f23_L11100, ep]
        simp only [Option.bind_some, decide_eq_true_eq, decide_eq_false_iff_not, Bool.not_eq_true', Bool.not_true, Bool.not_false, Bool.false_eq_true, Bool.true_eq_false, Bool.not_eq_eq_eq_not, beq_self_eq_true, beqFT, beqTF, decide_true, decide_false, not_false_eq_true, not_true_eq_false, ne_eq, true_and, and_true, false_and, and_false, and_self, if_true, if_false, ite_true, ite_false, Bool.and_true, Bool.and_false, Bool.true_and, Bool.false_and, Bool.or_true, Bool.true_or, Bool.or_false, Bool.false_or, or_true, true_or, or_false, false_or, or_self, AV.asInt, AV.asBool, AV.asSl, AV.asPtr, AV.asFn, AV.asStr, AV.asMap, AV.asIfc, AV.item, List.length_cons, List.length_nil, List.getElem?_cons_zero, List.getElem?_cons_succ, Nat.zero_add, e6, r1, c]
      · rw [decide_eq_false c] at r1
        obtain ⟨n2, r2⟩ := before_run F (j : Int)
        rw [if_pos ⟨by omega, by omega⟩] at r2
        have lr := lf_rng (b := bwtOf t (saOf t)) (i := (j : Int)) (by omega) (by omega)
        have lsp := lf_spec SA F.ends (i := (j : Int)) (by omega) (by omega)
        obtain ⟨j', hj'⟩ := Int.eq_ofNat_of_zero_le lr.1
        rw [hj'] at r2 lr lsp
        have mq := Nat.mod_le q s
        have pr : prev t.length (rd (saOf t) j) = (q : Int) - (d + 1 : Nat) := by
          unfold prev
          rw [if_neg (by omega)]; omega
        have w1' : IntKind.wrap .i64 ((d : Int) + 1) = ((d + 1 : Nat) : Int) := by rw [wrap64 (by omega) (by omega)]; omega
        refine .inl ⟨q % s - (d + 1), _, by omega, ⟨n1 + n2, fun k hk => ?_⟩, j', d + 1, rfl, by omega, rfl, by omega, by rw [lsp, pr]⟩
        have r1 := r1 k (by omega)
        have r2 := r2 k (by omega)
        simp only at r1 r2
        simp only [f23_L11100]
        rw [ep] at r2
        simp only [Option.bind_some, decide_eq_true_eq, decide_eq_false_iff_not, Bool.not_eq_true', Bool.not_true, Bool.not_false, Bool.false_eq_true, Bool.true_eq_false, Bool.not_eq_eq_eq_not, beq_self_eq_true, beqFT, beqTF, decide_true, decide_false, not_false_eq_true, not_true_eq_false, ne_eq, true_and, and_true, false_and, and_false, and_self, if_true, if_false, ite_true, ite_false, Bool.and_true, Bool.and_false, Bool.true_and, Bool.false_and, Bool.or_true, Bool.true_or, Bool.or_false, Bool.false_or, or_true, true_or, or_false, false_or, or_self, AV.asInt, AV.asBool, AV.asSl, AV.asPtr, AV.asFn, AV.asStr, AV.asMap, AV.asIfc, AV.item, List.length_cons, List.length_nil, List.getElem?_cons_zero, List.getElem?_cons_succ, Nat.zero_add, ep, e6, r1, r2, w1'])
    (q % s) ([.int .i64 0, .int .i64 i, .ptr p], σ) ⟨i.toNat, 0, by omega, by omega, by rw [show ((i.toNat : Nat) : Int) = i by omega]; rfl, by omega, by rw [show ((i.toNat : Nat) : Int) = i by omega, hqq]; omega⟩
  obtain ⟨n1, e⟩ := loopF_ev e
  -- the last step
  have mq := Nat.mod_le q s
  have e1 := Nat.div_add_mod q s
  have em : mk s (rd (saOf t) j) = true := by
    rw [ej]; unfold mk; rw [decide_eq_true_eq, show (q : Int) - (q % s : Nat) = ((s * (q / s) : Nat) : Int) by omega]
    rw [← Int.natCast_emod]; simp
  obtain ⟨pa, pl⟩ := plc_at (s := s) (by omega : j < (saOf t).length) em
  obtain ⟨n2, r2⟩ := vec_rank (V.keepA (σ' := { σ with prot := σ.objs.length }) fun _ _ => rfl) (j : Int)
  rw [Int.toNat_natCast, onesTo_mk] at r2
  have pn : (plc s (saOf t)).length ≤ (t.length - 1) / s + 1 := plc_len hs1 SA.perm.rng SA.perm.nd
  have cn : (t.length - 1) / s ≤ t.length - 1 := Nat.div_le_self _ _
  have val : (rd (plc s (saOf t)) ((plc s ((saOf t).take j)).length : Nat)).toNat = q / s := by
    rw [pa, ej, show (q : Int) - (q % s : Nat) = ((s * (q / s) : Nat) : Int) by omega, ← Int.natCast_ediv, Int.toNat_natCast, Nat.mul_div_cancel_left _ (by omega)]
  have dq : q / s ≤ q := Nat.div_le_self _ _
  obtain ⟨n3, r3⟩ := getW_run (P.keep (σ' := { σ with prot := σ.objs.length }) rfl rfl) C w0 w1 (by omega) (i := (plc s ((saOf t).take j)).length) (by omega) (by
    show (rd (plc s (saOf t)) _).toNat < _
    rw [val]; omega)
  simp only [val] at r3
  have wr : IntKind.wrap .i64 (IntKind.wrap .i64 (IntKind.wrap .i64 ((q / s : Nat) : Int) * (s : Int)) + (q % s : Nat)) = (q : Int) := by
    have hm : ((q / s : Nat) : Int) * (s : Int) = ((q / s * s : Nat) : Int) := by simp
    have hc : q / s * s = s * (q / s) := Nat.mul_comm _ _
    generalize q / s = u at *
    rw [wrap64 (x := (u : Int)) (by omega) (by omega), hm, wrap64 (x := ((u * s : Nat) : Int)) (by omega) (by omega), wrap64 (by omega) (by omega)]
    omega
  have c1 : ¬ i < 0 := by omega
  have c2 : ¬ (t.length : Int) ≤ i := by omega
  refine Runs.intro (fn := Try.f23) (by kernel_rfl) (by kernel_rfl) ⟨n0 + n1 + n2 + n3, fun k hk => ?_⟩
  have r0 := r0 k (by omega)
  have e := e k (by omega)
  have r2 := callG_same (r2 k (by omega))
  have r3 := callG_same (r3 k (by omega))
  simp only at r0 e
  simp only [f23_eq]
  simp only [Option.bind_some, decide_eq_true_eq, decide_eq_false_iff_not, Bool.not_eq_true', Bool.not_true, Bool.not_false, Bool.false_eq_true, Bool.true_eq_false, Bool.not_eq_eq_eq_not, beq_self_eq_true, beqFT, beqTF, decide_true, decide_false, not_false_eq_true, not_true_eq_false, ne_eq, true_and, and_true, false_and, and_false, and_self, if_true, if_false, ite_true, ite_false, Bool.and_true, Bool.and_false, Bool.true_and, Bool.false_and, Bool.or_true, Bool.true_or, Bool.or_false, Bool.false_or, or_true, true_or, or_false, false_or, or_self, AV.asInt, AV.asBool, AV.asSl, AV.asPtr, AV.asFn, AV.asStr, AV.asMap, AV.asIfc, AV.item, List.length_cons, List.length_nil, List.getElem?_cons_zero, List.getElem?_cons_succ, Nat.zero_add, c1, r0, c2, e]
  simp only [f23_X11100_1]
  simp only [Option.bind_some, decide_eq_true_eq, decide_eq_false_iff_not, Bool.not_eq_true', Bool.not_true, Bool.not_false, Bool.false_eq_true, Bool.true_eq_false, Bool.not_eq_eq_eq_not, beq_self_eq_true, beqFT, beqTF, decide_true, decide_false, not_false_eq_true, not_true_eq_false, ne_eq, true_and, and_true, false_and, and_false, and_self, if_true, if_false, ite_true, ite_false, Bool.and_true, Bool.and_false, Bool.true_and, Bool.false_and, Bool.or_true, Bool.true_or, Bool.or_false, Bool.false_or, or_true, true_or, or_false, false_or, or_self, AV.asInt, AV.asBool, AV.asSl, AV.asPtr, AV.asFn, AV.asStr, AV.asMap, AV.asIfc, AV.item, List.length_cons, List.length_nil, List.getElem?_cons_zero, List.getElem?_cons_succ, Nat.zero_add, ep, e7, e6, r2, r3, e2, wr, sz]
end
end Go.Ab


/- Back: by the program. -/
namespace Go.Ab
open Go Go.Proofs Go.Ab.Wd Go.Ab.Bs Go.Ab.Sai
set_option linter.unusedVariables false
set_option linter.unusedSimpArgs false
end Go.Ab


/- New finders. -/
namespace Go.Ab
open Go Go.Proofs Go.Ab.Wd Go.Ab.Bs Go.Ab.Sai
set_option linter.unusedVariables false
set_option linter.unusedSimpArgs false
theorem ends_idx {t : List Int} (h0 : 0 < t.length) : Bs.Ends t ↔ t.idxOf (rd t (t.length - 1)) = t.length - 1 := by
  have hm : rd t (t.length - 1) ∈ t := rd_mem (by omega) (by omega)
  have hlt := List.idxOf_lt_length_of_mem hm
  constructor
  · rintro ⟨_, he⟩
    rcases Nat.lt_or_ge (t.idxOf (rd t (t.length - 1))) (t.length - 1) with h | h
    · exfalso
      refine he (t.idxOf (rd t (t.length - 1)) : Nat) (by omega) (by omega) ?_
      rw [rd_getElem hlt]; exact List.getElem_idxOf hlt
    · omega
  · intro hi
    refine ⟨h0, fun i i0 i1 he => ?_⟩
    obtain ⟨i, rfl⟩ := Int.eq_ofNat_of_zero_le i0
    have h1 : i < t.findIdx (· == rd t (t.length - 1)) := by
      have : t.idxOf (rd t (t.length - 1)) = t.findIdx (· == rd t (t.length - 1)) := rfl
      omega
    have := List.not_of_lt_findIdx h1
    rw [rd_getElem (by omega)] at he
    simp [he] at this
def okF (t sa : List Int) (al st : Int) : Prop := okT t al = true ∧ 0 < t.length ∧ al < 4194304 ∧ saOf t = sa ∧ Bs.Ends t ∧ 1 ≤ st ∧ st ≤ 4194304
section
variable {σ : Store} {h h' : Hdl} {t sa : List Int}
theorem fnew_run {al s : Nat} (hT : σ.Ints h t) (hH : σ.Has h) (hS : σ.Ints h' sa) (hp : σ.prot ≤ σ.objs.length) (ok : okF t sa al s) :
    ∃ p σ', Runs Try.prog 11 [.slice h, .slice h', .int .i64 al, .int .i64 s] σ (.tuple [.ptr p, .int .i64 0]) σ' ∧ Kp σ.objs.length σ σ' ∧ Fnd σ' p t al s := by
  obtain ⟨c1, c2, c3, c4, c5, c6, c7⟩ := ok
  obtain ⟨a1, a2, a3, a4⟩ := okT_iff.1 c1
  have ll := hT.ilen
  have ls := hS.ilen
  have SA := saOf_spec t
  have lsa := saOf_len t
  obtain ⟨h1, σ1, ⟨k1, r1⟩, K1, I1, _, _⟩ := array_run (al := (al : Int)) hT hH hp (by omega)
  rw [if_pos c1] at r1 I1
  have T1 := Store.Sl.kp hT K1
  have S1 := Store.Sl.kp hS K1
  have hp1 : σ1.prot ≤ σ1.objs.length := by rw [K1.prot]; have := K1.len; omega
  obtain ⟨k2, r2⟩ := equal_run I1 S1 (by omega)
  rw [decide_eq_true c4] at r2
  obtain ⟨i, ⟨k3, r3⟩, q3, _⟩ := index_run (l := t) T1 (by omega) (rd t (t.length - 1))
  have q3 := q3 (rd_mem (by omega) (by omega))
  have w1 : IntKind.wrap .i64 ((t.length : Int) - 1) = (t.length : Int) - 1 := by rw [wrap64 (by omega) (by omega)]
  have g := Store.Ints.rd (l := t) T1 (i := (t.length : Int) - 1) (by omega) (by omega)
  have b0 : (0 : Int) ≤ (t.length : Int) - 1 := by omega
  have b1 : (t.length : Int) - 1 < t.length := by omega
  have el := (ends_idx (t := t) (by omega)).1 c5
  rw [el] at q3
  have e5 : i = (t.length : Int) - 1 := by omega
  have z0 : ¬ (t.length : Int) = 0 := by omega
  have z1 : ¬ (4194304 : Int) ≤ al := by omega
  have z2 : ¬ (s : Int) < 1 := by omega
  have z3 : ¬ (4194304 : Int) < s := by omega
  have z4 : ¬ (s : Int) = 0 := by omega
  have lst : sa.length = t.length := by rw [← c4, lsa]
  -- the turned row
  obtain ⟨h2, σ2, ⟨k4, r4⟩, K2, I2, H2⟩ := make_run T1 S1 hp1 (by omega) (by omega)
  have hpm : permB sa = true ∧ sa.length = t.length := ⟨permB_iff.2 (by rw [← c4, lsa]; exact SA.perm), by rw [← c4, lsa]⟩
  rw [if_pos hpm] at r4 I2
  rw [← c4] at I2
  obtain ⟨B, hB⟩ : ∃ B, B = bwtOf t (saOf t) := ⟨_, rfl⟩
  rw [← hB] at I2
  have lB : B.length = t.length := by rw [hB, bwtOf_length, lsa]
  have mB : ∀ x ∈ B, 0 ≤ x ∧ x < al := fun x hx => a4 x ((bwtOf_perm (t := t) SA.perm).mem_iff.1 (hB ▸ hx))
  have T2 := Store.Sl.kp T1 K2
  have g2 := Store.Ints.rd (l := t) T2 (i := (t.length : Int) - 1) (by omega) (by omega)
  have K02 := K1.all K2
  -- the row of the finder
  obtain ⟨b, hb⟩ : ∃ b, b = σ2.objs.length := ⟨_, rfl⟩
  obtain ⟨σ3, h3⟩ : ∃ s3, s3 = σ2.push [.int .i64 t.length, .int .i64 al, .int .i64 s, .int .i64 (rd t (t.length - 1)), .slice Hdl.nil, .ptr none, .ptr none, .ptr none] 8 := ⟨_, rfl⟩
  have R3 : σ3.Row b 8 [.int .i64 t.length, .int .i64 al, .int .i64 s, .int .i64 (rd t (t.length - 1)), .slice Hdl.nil, .ptr none, .ptr none, .ptr none] := by rw [h3, hb]; exact Store.Row.new
  have K3 : Kp σ2.objs.length σ2 σ3 := by rw [h3]; exact Kp.push _ _ (Nat.le_refl _)
  have len3 : σ3.objs.length = b + 1 := by rw [h3, hb]; simp
  have hpb : σ.prot ≤ b := by have := K02.len; omega
  have p3 : σ3.prot = σ.prot := by rw [K3.prot, K02.prot]
  obtain ⟨h4, σ4, ⟨k5, r5⟩, K4, I4, H4, q4⟩ := counts_run (al := (al : Int)) (Store.Sl.kp I2 K3) (by omega) (by omega)
  have okc : okC B al = true := okC_iff.2 ⟨by omega, by omega, mB⟩
  rw [if_pos okc] at r5 I4
  obtain ⟨N, n1, n2, n3⟩ := q4 okc
  subst n2
  have R4 := R3.kp K4 (by omega)
  have l34 := K4.len
  have t5 := st_fld R4 (o := 4) (by rw [K4.prot]; omega) (by simp) (v := .slice (hdS N ((al : Int).toNat + 1))) rfl
  obtain ⟨σ5, h5⟩ : ∃ s5, s5 = σ4.setO b (.cells ([.int .i64 t.length, .int .i64 al, .int .i64 s, .int .i64 (rd t (t.length - 1)), .slice Hdl.nil, .ptr none, .ptr none, .ptr none].set 4 (.slice (hdS N ((al : Int).toNat + 1)))) true 8) := ⟨_, rfl⟩
  rw [← h5] at t5
  have R5 : σ5.Row b 8 [.int .i64 t.length, .int .i64 al, .int .i64 s, .int .i64 (rd t (t.length - 1)), .slice (hdS N ((al : Int).toNat + 1)), .ptr none, .ptr none, .ptr none] := by rw [h5]; exact Store.Row.setO_eq R4.lt
  have Q45 : Kq b σ4.objs.length σ4 σ5 := by rw [h5]; exact Kq.set _ _ _ _
  have len5 : σ5.objs.length = σ4.objs.length := by rw [h5]; simp
  have I25 : σ5.Ints h2 B := (Store.Sl.kp I2 (K3.all K4)).keep fun x o e => Q45.keep x (by
      have := H2 x (by simp [Hdl.row, e]); omega) (by have := H2 x (by simp [Hdl.row, e]); omega)
  have w2 : IntKind.wrap .i64 ((al : Int) - 1) = (al : Int) - 1 := wrap64 (by omega) (by omega)
  have al0 : 1 ≤ al := by have := a4 _ (rd_mem (l := t) (i := 0) (by omega) (by omega)); omega
  have okw : okW B ((al : Int) - 1) = true := okW_iff.2 ⟨by omega, by omega, by omega, fun x hx => by have := mB x hx; omega⟩
  have p5 : σ5.prot = σ.prot := by rw [Q45.prot, K4.prot, p3]
  obtain ⟨pm, w, σ6, ⟨k6, r6⟩, K6, M6, _, _, F6⟩ := waveNew_run I25 (by omega) okw
  have l6 := K6.len
  have R6 := R5.kp K6 (by omega)
  have p6 : σ6.prot = σ.prot := by rw [K6.prot, p5]
  have t7 := st_fld R6 (o := 5) (by omega) (by simp) (v := .ptr pm) rfl
  obtain ⟨σ7, h7⟩ : ∃ s7, s7 = σ6.setO b (.cells ([.int .i64 t.length, .int .i64 al, .int .i64 s, .int .i64 (rd t (t.length - 1)), .slice (hdS N ((al : Int).toNat + 1)), .ptr none, .ptr none, .ptr none].set 5 (.ptr pm)) true 8) := ⟨_, rfl⟩
  rw [← h7] at t7
  have R7 : σ7.Row b 8 [.int .i64 t.length, .int .i64 al, .int .i64 s, .int .i64 (rd t (t.length - 1)), .slice (hdS N ((al : Int).toNat + 1)), .ptr pm, .ptr none, .ptr none] := by rw [h7]; exact Store.Row.setO_eq R6.lt
  have Q67 : Kq b σ6.objs.length σ6 σ7 := by rw [h7]; exact Kq.set _ _ _ _
  have len7 : σ7.objs.length = σ6.objs.length := by rw [h7]; simp
  obtain ⟨m, hm⟩ : ∃ m, m = σ7.objs.length := ⟨_, rfl⟩
  have bm : b < m := by omega
  -- what is marked
  obtain ⟨σ8, ⟨k8, r8⟩, K8, len8, P8⟩ := packNew_run (σ := σ7) (n := t.length) (by omega)
  obtain ⟨wd, ⟨k9, r9⟩, W1, W2, W3, W4⟩ := width_run σ8 (x := t.length) (by omega)
  have wu : IntKind.wrap .u64 (t.length : Int) = (t.length : Int) := by rw [wrapu64 (by omega) (by omega)]
  obtain ⟨cc, hcc⟩ : ∃ cc, cc = (t.length - 1) / s + 1 := ⟨_, rfl⟩
  have cl : cc ≤ t.length := by have : (t.length - 1) / s ≤ t.length - 1 := Nat.div_le_self _ _; omega
  have wc : IntKind.wrap .i64 (IntKind.wrap .i64 (Int.tdiv ((t.length : Int) - 1) s) + 1) = (cc : Nat) := by
    rw [Int.tdiv_eq_ediv_of_nonneg (by omega), show (t.length : Int) - 1 = ((t.length - 1 : Nat) : Int) by omega, ← Int.natCast_ediv, hcc]
    rw [hcc] at cl
    generalize (t.length - 1) / s = u at *
    rw [wrap64 (x := (u : Int)) (by omega) (by omega), wrap64 (by omega) (by omega)]; omega
  obtain ⟨σ9, ⟨k10, r10⟩, K9, len9, ws, P9, C9⟩ := packNewW_run (σ := σ8) (w := wd) (n := cc) W1 (by omega) (by omega)
  have R9 := (R7.kp K8 (by omega)).kp K9 (by omega)
  have p9 : σ9.prot = σ.prot := by rw [K9.prot, K8.prot, Q67.prot, p6]
  have t10 := st_fld R9 (o := 7) (by omega) (by simp) (v := .ptr (some (σ8.objs.length + 1, 0))) rfl
  obtain ⟨σ10, h10⟩ : ∃ s10, s10 = σ9.setO b (.cells ([.int .i64 t.length, .int .i64 al, .int .i64 s, .int .i64 (rd t (t.length - 1)), .slice (hdS N ((al : Int).toNat + 1)), .ptr pm, .ptr none, .ptr none].set 7 (.ptr (some (σ8.objs.length + 1, 0)))) true 8) := ⟨_, rfl⟩
  rw [← h10] at t10
  have R10 : σ10.Row b 8 [.int .i64 t.length, .int .i64 al, .int .i64 s, .int .i64 (rd t (t.length - 1)), .slice (hdS N ((al : Int).toNat + 1)), .ptr pm, .ptr none, .ptr (some (σ8.objs.length + 1, 0))] := by rw [h10]; exact Store.Row.setO_eq R9.lt
  have Q910 : Kq b σ9.objs.length σ9 σ10 := by rw [h10]; exact Kq.set _ _ _ _
  have len10 : σ10.objs.length = σ9.objs.length := by rw [h10]; simp
  have s8 : σ8.objs.length = m + 2 := by omega
  rw [s8] at R10 P9
  have P10 : Pk σ10 m (List.replicate t.length false) := by
    rw [hm]
    refine (P8.keep (σ' := σ9) (K9.keep _ (by omega)) (K9.keep _ (by omega))).keep (Q910.keep _ (by omega) (by omega)) (Q910.keep _ (by omega) (by omega))
  have W10 : PkW σ10 (m + 2) wd cc ws := P9.keep (Q910.keep _ (by omega) (by omega)) (Q910.keep _ (by omega) (by omega))
  -- all rows ahead of the finder's stay, and what is made
  have K010 : Kp σ.objs.length σ σ10 := by
    have q : Kq b σ2.objs.length σ2 σ10 := (((((((Kq.of K3 (Nat.le_refl _)).trans (Kq.of K4 (Nat.le_refl _)) (by omega)).trans Q45 (by omega)).trans (Kq.of K6 (Nat.le_refl _)) (by omega)).trans Q67 (by omega)).trans (Kq.of K8 (Nat.le_refl _)) (by omega)).trans (Kq.of K9 (Nat.le_refl _)) (by omega)).trans Q910 (by omega)
    have k02 := K02.len
    exact ⟨q.prot.trans K02.prot, Nat.le_trans k02 q.len, fun x hx => (q.keep x (by omega) (by omega)).trans (K02.keep x hx)⟩
  have f7 := row_ptr R10 (o := 7) rfl
  have psa : IsPerm t.length sa := c4 ▸ SA.perm
  obtain ⟨σ11, ws', e11, K11, len11, P11, W11, C11⟩ := fnew_loop (b := b) hS K010 (by have := K02.len; omega) bm psa (by omega) (by omega) (by omega) f7 P10 W10 C9 W1 (by omega) W3 (by rw [Q910.prot, p9]; omega) hcc
  have p11 : σ11.prot = σ.prot := by rw [K11.prot, Q910.prot, p9]
  obtain ⟨pv, σ12, ⟨k12, r12⟩, K12, V12⟩ := rankNew_run P11 (by omega) (by simp; omega)
  have l12 := K12.len
  have R11 := R10.kp K11 (by omega)
  have R12 := R11.kp K12 (by omega)
  have p12 : σ12.prot = σ.prot := by rw [K12.prot, p11]
  have t13 := st_fld R12 (o := 6) (by omega) (by simp) (v := .ptr pv) rfl
  obtain ⟨σ13, h13⟩ : ∃ s13, s13 = σ12.setO b (.cells ([.int .i64 t.length, .int .i64 al, .int .i64 s, .int .i64 (rd t (t.length - 1)), .slice (hdS N ((al : Int).toNat + 1)), .ptr pm, .ptr none, .ptr (some (m + 2 + 1, 0))].set 6 (.ptr pv)) true 8) := ⟨_, rfl⟩
  rw [← h13] at t13
  have R13 : σ13.Row b 8 [.int .i64 t.length, .int .i64 al, .int .i64 s, .int .i64 (rd t (t.length - 1)), .slice (hdS N ((al : Int).toNat + 1)), .ptr pm, .ptr pv, .ptr (some (m + 2 + 1, 0))] := by rw [h13]; exact Store.Row.setO_eq R12.lt
  have Q1213 : Kq b σ12.objs.length σ12 σ13 := by rw [h13]; exact Kq.set _ _ _ _
  have len13 : σ13.objs.length = σ12.objs.length := by rw [h13]; simp
  -- what stays of each part
  have q713 : Kq b m σ7 σ13 := ((((Kq.of K8 (by omega)).trans (Kq.of K9 (Nat.le_refl _)) (by omega)).trans Q910 (by omega)).trans (Kq.of K11 (Nat.le_refl _)) (by omega)).trans ((Kq.of K12 (Nat.le_refl _)).trans Q1213 (by omega)) (by omega)
  have q613 : Kq b m σ6 σ13 := by
    have := Q67.trans q713 (by omega)
    rwa [show σ6.objs.length = m by omega] at this
  have q413 : Kq b σ4.objs.length σ4 σ13 := (Q45.trans (Kq.of K6 (Nat.le_refl _)) (by omega)).trans q613 (by omega)
  have N13 : σ13.Row N 1 (intsL (belows B ((al : Int).toNat + 1))) := by
    have : N < σ4.objs.length := n3.lt
    exact (q413.keep N this (by omega)).trans n3
  have W13 : PkW σ13 (m + 2) wd cc ws' := by
    have k : ∀ x, x < m + 4 → x ≠ b → σ13.objs[x]? = σ11.objs[x]? := fun x hx hxb => (Q1213.keep x (by omega) hxb).trans (K12.keep x (by omega))
    exact W11.keep (k _ (by omega) (by omega)) (k _ (by omega) (by omega))
  have V13 : Vec σ13 pv (sa.map (mk s)) := (V12.keep (σ' := σ13) fun x hx => Q1213.keep x (by omega) (by omega)).vec
  have M13 : Mat σ13 pm B w := Mat.from_ F6 fun x h1 h2 => q613.keep x (by omega) (by omega)
  have K013 : Kp σ.objs.length σ σ13 := by
    have l02 := K02.len
    refine ⟨by rw [Q1213.prot, p12], by have := K010.len; omega, fun x hx => ?_⟩
    rw [Q1213.keep x (by omega) (by omega), K12.keep x (by omega), K11.keep x (by omega), K010.keep x hx]
  rw [hcc] at W13 C11
  rw [← c4] at V13 C11
  have FF : Fnd σ13 (some (b, 0)) t al s := ⟨⟨b, hdS N ((al : Int).toNat + 1), pm, w, pv, m + 2, wd, ws', rfl, R13, by rw [← hB]; exact N13.sl (by simp [belows_length]), hB ▸ M13, V13, W13, C11, W1, by omega, W3⟩, c5, a4, by omega, by omega, by omega, by omega⟩
  refine ⟨some (b, 0), σ13, Runs.intro (fn := Try.f11) (by kernel_rfl) (by kernel_rfl) ?_, K013, FF⟩
  obtain ⟨k11, e11⟩ := loopF_ev e11
  refine ⟨k1 + k2 + k3 + k4 + k5 + k6 + k8 + k9 + k10 + k11 + k12, fun k hk => ?_⟩
  have r1 := r1 k (by omega)
  have r2 := r2 k (by omega)
  have r3 := r3 k (by omega)
  have r4 := r4 k (by omega)
  have r5 := r5 k (by omega)
  have r6 := r6 k (by omega)
  have r8 := r8 k (by omega)
  have r9 := r9 k (by omega)
  have r10 := r10 k (by omega)
  have e11 := e11 k (by omega)
  have r12 := r12 k (by omega)
  simp only at r1 r2 r3 r4 r5 r6 r8 r9 r10 e11 r12
  rw [← hm] at r8
  rw [s8] at r10 t10
  simp only [f11_eq]
  simp only [Option.bind_some, decide_eq_true_eq, decide_eq_false_iff_not, Bool.not_eq_true', Bool.not_true, Bool.not_false, Bool.false_eq_true, Bool.true_eq_false, Bool.not_eq_eq_eq_not, beq_self_eq_true, beqFT, beqTF, decide_true, decide_false, not_false_eq_true, not_true_eq_false, ne_eq, true_and, and_true, false_and, and_false, and_self, if_true, if_false, ite_true, ite_false, Bool.and_true, Bool.and_false, Bool.true_and, Bool.false_and, Bool.or_true, Bool.true_or, Bool.or_false, Bool.false_or, or_true, true_or, or_false, false_or, or_self, AV.asInt, AV.asBool, AV.asSl, AV.asPtr, AV.asFn, AV.asStr, AV.asMap, AV.asIfc, AV.item, List.length_cons, List.length_nil, List.getElem?_cons_zero, List.getElem?_cons_succ, Nat.zero_add, r1, z0, z1, r2, w1, b0, b1, g, r3, e5, z2, z3, r4, g2, ll, ← hb, ← h3, r5, t5, w2, r6, t7, r8, wu, r9, z4, wc, r10, t10, ls, hpm.2, e11]
  simp only [f11_X11111111111010_1]
  simp only [Option.bind_some, decide_eq_true_eq, decide_eq_false_iff_not, Bool.not_eq_true', Bool.not_true, Bool.not_false, Bool.false_eq_true, Bool.true_eq_false, Bool.not_eq_eq_eq_not, beq_self_eq_true, beqFT, beqTF, decide_true, decide_false, not_false_eq_true, not_true_eq_false, ne_eq, true_and, and_true, false_and, and_false, and_self, if_true, if_false, ite_true, ite_false, Bool.and_true, Bool.and_false, Bool.true_and, Bool.false_and, Bool.or_true, Bool.true_or, Bool.or_false, Bool.false_or, or_true, true_or, or_false, false_or, or_self, AV.asInt, AV.asBool, AV.asSl, AV.asPtr, AV.asFn, AV.asStr, AV.asMap, AV.asIfc, AV.item, List.length_cons, List.length_nil, List.getElem?_cons_zero, List.getElem?_cons_succ, Nat.zero_add, r12, t13]
end
end Go.Ab


/- A round of a loop over a function that stops the loop. -/
namespace Go.Ab
open Go
set_option linter.unusedVariables false
section
variable {P : Program} [Told P]
theorem RunsY.stop {l : Nat} {φ : Fr} {ps : List Tmp} {x y : Code} {nt : Nat} {args : List AV} {σ : Store} (hl : σ.objs[l]? = some (.loop φ ps x y nt .ready)) (hp : σ.prot ≤ l) (ha : ps.length = args.length) (hall : (ps.all fun t => Nat.blt t nt) = true)
    {φ1 : Fr} (hx : ∀ k, evCode P (gm P k) drawn k nt false x ⟨liveC y ⟨0, 0, []⟩, 0, []⟩ (roundFr ps args φ) σ (fun e φ1 σ1 => some ((e, φ1, σ1) : LX)) = some (.normal, φ1, σ))
    {e : AX} (he : e ≠ .normal) {σ2 : Store} (hy : Ev (fun k => evCode P (gm P k) drawn k nt false y ⟨0, 0, []⟩ (φ1.sel (liveC y ⟨0, 0, []⟩) nt) (σ.setO l (.loop φ ps x y nt .busy)) (fun e _ σ2 => some (e, σ2))) (e, σ2)) (h2 : σ2.objs[l]? = some (.loop φ ps x y nt .busy)) :
    RunsY P l args σ (.bool false) (σ2.setO l (.loop φ ps x y nt (.fin e))) := by
  obtain ⟨k0, hy⟩ := hy
  refine ⟨k0 + 1, fun k hk => ?_⟩
  obtain ⟨k, rfl⟩ : ∃ i, k = i + 1 := ⟨k - 1, by omega⟩
  simp only [gm, gam, evRound, hl]
  rw [if_pos ⟨hp, ha, hall⟩]
  have hx' := hx k
  have hy' := hy k (by omega)
  simp only [gm] at hx' hy'
  rw [hx']
  simp only [Option.bind_some, hl]
  rw [hy']
  simp only [Option.bind_some, h2]
  cases e with
  | normal => exact absurd rfl he
  | exit i => rfl
  | ret => rfl
/-- A loop over a function that was stopped. -/
theorem range_stop {g : FuncId} {a b : List AV} {φ : Fr} {ps : List Tmp} {x y : Code} {nt : Nat} {σ σ' : Store} {v : AV} {φ' : Fr} {ps' : List Tmp} {x' y' : Code} {nt' : Nat} {e : AX}
    (h : Runs P g (a ++ [.yld σ.objs.length] ++ b) { σ with objs := σ.objs ++ [.loop φ ps x y nt .ready] } v σ') (hl : σ'.objs[σ.objs.length]? = some (.loop φ' ps' x' y' nt' (.fin e))) :
    Ev (fun k => rangeV (gm P k) g a b (.loop φ ps x y nt .ready) σ) (e, σ'.setO σ.objs.length .dead) := by
  obtain ⟨k0, h⟩ := h
  refine ⟨k0, fun k hk => ?_⟩
  simp only [rangeV, h k hk, Option.bind_some, hl]
end
end Go.Ab

