/- A part of the proof of the law WaveSorts: lemmas alone; what each says stands at it. No conditions. -/
import Derived.Test.YtmbbcabhgcagaaaAbWaveSorts1
import Derived.OpenShut
import Derived.WideShapes
import Derived.Test.YtmbbcabhgcagaaaAbWaveSorts4
/- An array of whole numbers that came in by value. -/
namespace Go.Ab
open Go
theorem vr_ints {μ : Mu} {k : IntKind} (zs : List Int) : VR μ (.agg (zs.map (AV.int k))) (.agg (zs.map (Value.int k)).toArray) := by
  refine .agg (by simp) fun i x y hx hy => ?_
  simp only [List.getElem?_map, List.getElem?_toArray] at hx hy
  cases h : zs[i]? with
  | none => rw [h] at hx; cases hx
  | some z => rw [h] at hx hy; injection hx with hx; injection hy with hy; subst hx hy; exact .int ..
section
variable {H : Type} {enc : TypeId × Value → H} {P : Program} {w : World} {base : Nat} {spare : Nat → Bool} {held : Bool}
theorem ints_of {k : IntKind} : ∀ {l : List Value}, (∀ i (h : i < l.length), ∃ z : Int, l[i] = .int k z ∧ (Lit.int k z).wf = true) → ∃ zs : List Int, l = zs.map (Value.int k) ∧ ∀ z ∈ zs, (Lit.int k z).wf = true
  | [], _ => ⟨[], rfl, by simp⟩
  | v :: l, h => by
    obtain ⟨z, hz, hw⟩ := h 0 (by simp)
    obtain ⟨zs, hzs, hws⟩ := ints_of (l := l) fun i hi => h (i + 1) (by simp; omega)
    refine ⟨z :: zs, ?_, ?_⟩
    · rw [List.map_cons, ← hzs]
      simp at hz
      rw [hz]
    · intro y hy
      rcases List.mem_cons.1 hy with rfl | hy
      · exact hw
      · exact hws y hy
theorem open_arr {n : Nat} {t e : TypeId} {k : IntKind} {r : Reach} {b0 : Nat} {v : Value} {d : DataW H} {p : List MemPlace} (ht : P.underlying t = some (.array n e)) (he : P.underlying e = some (.int k)) (hC : P.cellsOf e = 1 ∧ P.cellsOf t = n)
    (hv : Value.okWide P w r b0 t v) (h : DataW.Trod enc P w base spare held t v d p) :
    ∃ zs : List Int, zs.length = n ∧ v = .agg (zs.map (Value.int k)).toArray ∧ ∀ z ∈ zs, (Lit.int k z).wf = true := by
  simp only [Value.okWide, ht] at hv
  obtain ⟨cs, rfl, hsz, _⟩ := hv
  obtain ⟨fuel, hf⟩ := h
  obtain ⟨xs, m, rfl, _, hl, hn, hg⟩ := DataW.trod_array ht hf
  simp only [Value.cells] at hl hg
  have hlen : cs.toList.length = n := by simpa [hC.2] using hsz
  obtain ⟨zs, hzs, hws⟩ := ints_of (k := k) (l := cs.toList) fun i hi => by
    have := hg i (by omega)
    rw [hC.1, Nat.mul_one, List.getElem?_eq_getElem (by omega)] at this
    obtain ⟨z, hz, _, hw⟩ := DataW.trod_int he this
    refine ⟨z, ?_, hw⟩
    rw [List.drop_eq_getElem_cons hi] at hz
    simp at hz
    simpa using hz
  refine ⟨zs, by rw [← hlen, hzs]; simp, ?_, hws⟩
  rw [← hzs]
theorem list1 {l : List Int} (h : l.length = 1) : ∃ a, l = [a] := by match l, h with | [a], _ => exact ⟨a, rfl⟩
theorem list2 {l : List Int} (h : l.length = 2) : ∃ a b, l = [a, b] := by match l, h with | [a, b], _ => exact ⟨a, b, rfl⟩
theorem list3 {l : List Int} (h : l.length = 3) : ∃ a b c, l = [a, b, c] := by match l, h with | [a, b, c], _ => exact ⟨a, b, c, rfl⟩
theorem list4 {l : List Int} (h : l.length = 4) : ∃ a b c d, l = [a, b, c, d] := by match l, h with | [a, b, c, d], _ => exact ⟨a, b, c, d, rfl⟩
end
end Go.Ab
