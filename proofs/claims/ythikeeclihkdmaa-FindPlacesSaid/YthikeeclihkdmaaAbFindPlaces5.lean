/- A part of the proof of the law FindPlaces: lemmas alone; what each says stands at it. No conditions. -/
import Derived.Test.YthikeeclihkdmaaAbFindPlaces1
import Derived.Shelf.SortM.Plain
import Derived.Shelf.SortM.SortNone
import Derived.Test.YthikeeclihkdmaaAbFindPlaces2
import Derived.Ground.SlgmProg
import Derived.OpenShut
import Derived.WideShapes
import Derived.Test.YthikeeclihkdmaaAbFindPlaces4
/- What is told of sorting holds: the library's contract. -/
namespace Go.Ab
open Go Go.Proofs Go.Sort
set_option linter.unusedVariables false
theorem sort_sound {P : Program} {s : Nat} {fn : Func} (hf : P.funcs[s]? = some fn) (hn : (fn.name == "runtime.NumGoroutine") = false) (hb : fn.body.isNone = false)
    (h1 : ∀ (blk off cap : Nat) (zs : List Int) (w : World), Holds (Value.int .i64) w blk off zs.toArray → blk < w.heap.size → zs.length < 4611686018427387904 →
      Calls P s #[.slice (some ⟨blk, off, none⟩) zs.length cap] w fun e w' => e = .returned (.tuple #[]) ∧ ∃ n os, w' = grow (putRow (Value.int .i64) (Sort.ahead w n) blk off (zs.mergeSort fun x y => decide (x ≤ y)).toArray) os)
    (h0 : ∀ (p : Option Addr) (cap : Nat) (w : World), Calls P s #[.slice p 0 cap] w fun e w' => e = .returned (.tuple #[]) ∧ w' = w) : SpS P (sortSp s) ∧ SpK (sortSp s) := by
  constructor
  · intro g f e args σ v σ' h
    obtain ⟨rfl, rfl⟩ := sortSp_inv e
    refine ⟨fun cargs w => callFunc_enter hf hn hb cargs w, fun μ w cargs hR hv => ?_⟩
    obtain ⟨hd, rfl, rfl, hc⟩ := sortT_inv h
    obtain ⟨c, hc1⟩ : ∃ c, cargs = #[c] := by
      have := hv.1
      simp at this
      obtain ⟨l⟩ := cargs
      match l, this with
      | [c], _ => exact ⟨c, rfl⟩
    subst hc1
    have hv1 : VR μ (.slice hd) c := hv.2 0 _ _ rfl rfl
    rcases hc with ⟨e0, rfl⟩ | ⟨b, o, cs, zs, ha, ho, hz, hp, hl, h62, hpos, rfl⟩
    · have : ∃ p cap, c = .slice p 0 cap := by
        cases hv1 with
        | slN h => exact ⟨_, _, rfl⟩
        | sl h hc hl hN => simp at e0; subst e0; exact ⟨_, _, rfl⟩
        | sl0 h => exact ⟨_, _, rfl⟩
      obtain ⟨p, cap, rfl⟩ := this
      refine (h0 p cap w).mono ?_
      rintro e w' ⟨rfl, rfl⟩
      exact ⟨μ, _, rfl, .tuple (by simp) (by simp), Ste.refl hR⟩
    · have : ∃ L cap, μ b = some L ∧ c = .slice (some ⟨L.blk, L.off + o, none⟩) hd.len cap := by
        cases hv1 with
        | slN h => cases ha
        | sl hm hc hl hN => simp at ha; obtain ⟨rfl, rfl⟩ := ha; exact ⟨_, _, hm, rfl⟩
        | sl0 h => simp at hpos
      obtain ⟨L, cap, hL, rfl⟩ := this
      have hzl : zs.length = hd.len := by
        have := congrArg List.length hz
        simp at this; omega
      obtain ⟨ce, ty, hblk, hsz⟩ := hR.rw b cs 1 L ho hL
      obtain ⟨_, hlN, hj⟩ := hR.cells b cs true 1 L ho hL
      have cellz : ∀ j, j < zs.length → w.cell? ⟨L.blk, L.off + o + j, none⟩ = some (.int .i64 (zs.getD j 0)) := fun j hj' => by
        have e1 : cs[o + j]? = some (.int .i64 (zs.getD j 0)) := by
          have := congrArg (fun l : List AV => l[j]?) hz
          simp only [List.getElem?_take, List.getElem?_drop, intsL, List.getElem?_map] at this
          rw [if_pos (by omega)] at this
          rw [this, List.getElem?_eq_getElem hj']; simp [hj']
        obtain ⟨x, hx, hvx⟩ := hj _ _ e1
        cases hvx
        rw [Nat.add_assoc]; exact hx
      have hH : Holds (Value.int .i64) w L.blk (L.off + o) zs.toArray := fun j hj' => by
        have hj' : j < zs.length := by simpa using hj'
        refine ⟨?_, by simp [World.frozen?, hblk]⟩
        rw [cellz j hj']; simp [hj']
      have hbl : L.blk < w.heap.size := hR.lt b L hL
      have := h1 L.blk (L.off + o) cap zs w hH hbl (by omega)
      rw [hzl] at this
      refine this.mono ?_
      rintro e w' ⟨rfl, n, os, rfl⟩
      rw [mergeSort_sortL]
      obtain ⟨d, hd'⟩ : ∃ d, d = sortL zs := ⟨_, rfl⟩
      rw [← hd']
      have hdl : d.length = hd.len := by rw [hd', sortL_length, hzl]
      obtain ⟨w1, hw1⟩ : ∃ w1, w1 = putRow (Value.int .i64) (Sort.ahead w n) L.blk (L.off + o) d.toArray := ⟨_, rfl⟩
      rw [← hw1]
      have s1 : w1.heap.size = w.heap.size := by rw [hw1]; simp [putRow, mapBlock, Sort.ahead]
      have far : ∀ c, c ≠ L.blk → w1.heap[c]? = w.heap[c]? := fun c hc => by
        rw [hw1]; simp [putRow, mapBlock, Sort.ahead, Array.getElem?_modify, Ne.symm hc]
      have near : w1.heap[L.blk]? = some (.cells (putCells (Value.int .i64) (L.off + o) d.toArray ce) ty (0, 0)) := by
        rw [hw1]; simp [putRow, mapBlock, Sort.ahead, Array.getElem?_modify, hblk, onCells]
      have hW : Ste μ σ w μ (σ.setO b (.cells (cs.take o ++ (intsL d ++ cs.drop (o + hd.len))) true 1)) w1 := by
        refine Ste.write hR ho hp hL s1 (by rw [hw1]; rfl) (by rw [hw1]; rfl) (by rw [hw1]; rfl) far ⟨_, _, near, by simp [putCells, hsz]⟩ ?_ ?_
        · simp only [List.length_append, List.length_take, intsL_length, List.length_drop]; omega
        · intro j v hjv
          have tk : (cs.take o).length = o := by simp; omega
          by_cases c1 : j < o
          · rw [List.getElem?_append_left (by omega), List.getElem?_take, if_pos c1] at hjv
            obtain ⟨x, hx, hvx⟩ := hj j v hjv
            refine ⟨x, ?_, hvx⟩
            simp only [World.cell?, hblk] at hx
            simp only [World.cell?, near]
            simp only [Option.isSome_none, Bool.false_eq_true, if_false] at hx ⊢
            rw [← hx]
            simp only [putCells, Array.getElem?_mapIdx]
            cases hce : ce[L.off + j]? with
            | none => rfl
            | some y => simp; omega
          · rw [List.getElem?_append_right (by omega), tk] at hjv
            by_cases c2 : j - o < hd.len
            · rw [List.getElem?_append_left (by simp; omega)] at hjv
              simp only [intsL, List.getElem?_map, Option.map_eq_some_iff] at hjv
              obtain ⟨z, hz1, rfl⟩ := hjv
              refine ⟨.int .i64 z, ?_, .int ..⟩
              simp only [World.cell?, near]
              simp only [Option.isSome_none, Bool.false_eq_true, if_false]
              simp only [putCells, Array.getElem?_mapIdx]
              have hlt : L.off + j < ce.size := by omega
              rw [Array.getElem?_eq_getElem hlt]
              simp only [Option.map_some, Option.some.injEq]
              rw [if_pos ⟨by omega, by simp; omega⟩]
              congr 1
              have e5 : L.off + j - (L.off + o) = j - o := by omega
              rw [e5]
              obtain ⟨hq, hq2⟩ := List.getElem?_eq_some_iff.1 hz1
              rw [getElem!_pos _ (j - o) (by simpa using hq)]
              simpa using hq2
            · rw [List.getElem?_append_right (by simp; omega), List.getElem?_drop] at hjv
              have e5 : o + hd.len + (j - o - (intsL d).length) = j := by simp; omega
              rw [e5] at hjv
              obtain ⟨x, hx, hvx⟩ := hj j v hjv
              refine ⟨x, ?_, hvx⟩
              simp only [World.cell?, hblk] at hx
              simp only [World.cell?, near]
              simp only [Option.isSome_none, Bool.false_eq_true, if_false] at hx ⊢
              rw [← hx]
              simp only [putCells, Array.getElem?_mapIdx]
              cases hce : ce[L.off + j]? with
              | none => rfl
              | some y => simp; omega
      have hG := Ste.same (w' := grow w1 os) hW.rel rfl rfl rfl (by simp [grow]) (fun c hc => by simp only [grow]; rw [Array.getElem?_append_left hc])
      exact ⟨μ, _, rfl, .tuple (by simp) (by simp), hW.trans hG⟩
  · intro g f e args σ v σ' h
    obtain ⟨rfl, rfl⟩ := sortSp_inv e
    obtain ⟨hd, rfl, rfl, hc⟩ := sortT_inv h
    rcases hc with ⟨e0, rfl⟩ | ⟨b, o, cs, zs, ha, ho, hz, hp, hl, h62, hpos, rfl⟩
    · exact Pre.refl _
    · exact Pre.set σ hp _
def FirstOkX (P : Program) (sp : FuncId → Option (List AV → Store → Option (AV × Store))) (g : FuncId) : Prop := ∃ fn k, P.funcs[g]? = some fn ∧ (fn.name == "runtime.NumGoroutine") = false ∧ fn.body.isNone = false ∧ okTrue (gam P drawn sp k (.fn g) [] ⟨[], 0⟩) = true
theorem tellX_sound {P : Program} (hm : P.follows .mixedOrders = true) {sp : FuncId → Option (List AV → Store → Option (AV × Store))} (h0 : SpS P sp ∧ SpK sp) {fs : List Nat} (h : ∀ g ∈ fs, FirstOkX P sp g) : SpS P (orTell sp fs) ∧ SpK (orTell sp fs) := by
  have shape : ∀ g f, tell fs g = some f → g ∈ fs ∧ ∀ args σ v σ', f args σ = some (v, σ') → args = [] ∧ v = .bool true ∧ σ' = σ := by
    intro g f e
    unfold tell at e
    split at e
    · rename_i ha
      injection e with e; subst e
      obtain ⟨x, hx, hb⟩ := List.any_eq_true.1 ha
      have : x = g := Nat.eq_of_beq_eq_true hb
      subst this
      refine ⟨hx, fun args σ v σ' h => ?_⟩
      cases args with
      | nil => simp at h; exact ⟨rfl, h.1.symm, h.2.symm⟩
      | cons => simp at h
    · cases e
  have parts : ∀ g f, orTell sp fs g = some f → sp g = some f ∨ tell fs g = some f := fun g f e => by
    unfold orTell at e
    split at e
    · rename_i f' e'
      injection e with e; subst e; exact .inl e'
    · exact .inr e
  constructor
  · intro g f e args σ v σ' hf
    rcases parts g f e with e | e
    · exact h0.1 g f e args σ v σ' hf
    obtain ⟨hg, hs⟩ := shape g f e
    obtain ⟨rfl, rfl, rfl⟩ := hs args σ v σ' hf
    obtain ⟨fn, k, k1, k2, k3, k4⟩ := h g hg
    refine ⟨fun cargs w => callFunc_enter k1 k2 k3 cargs w, fun μ w cargs hR hv => ?_⟩
    have hc : cargs.toList = [] := hv.inv_nil
    obtain ⟨σ1, hr⟩ : ∃ σ1, gam P drawn sp k (.fn g) [] ⟨[], 0⟩ = some (.bool true, σ1) := by
      cases hx : gam P drawn sp k (.fn g) [] ⟨[], 0⟩ with
      | none => rw [hx] at k4; cases k4
      | some r =>
        obtain ⟨v, s⟩ := r
        rw [hx] at k4
        cases v with
        | bool b => cases b with
          | true => exact ⟨s, rfl⟩
          | false => cases k4
        | _ => cases k4
    have hs := read_sound (P := P) hm h0.1 h0.2 k _ _ _ _ _ hr (fun _ => none) w cargs (Rel.empty w) (by rw [hc]; exact VL.nil _)
    refine hs.2.mono fun e w' ⟨μ', c, e1, e2, e3⟩ => ?_
    subst e1
    cases e2
    refine ⟨μ, _, rfl, .bool _, Ste.same hR e3.os e3.tape e3.output e3.size fun c hc => e3.pres c hc ?_⟩
    rintro ⟨b, o, L, h1, _⟩
    simp at h1
  · intro g f e args σ v σ' hf
    rcases parts g f e with e | e
    · exact h0.2 g f e args σ v σ' hf
    obtain ⟨_, hs⟩ := shape g f e
    obtain ⟨_, _, rfl⟩ := hs args σ v σ' hf
    exact Pre.refl _
end Go.Ab


/- What is told of sorting and of first holds. -/
namespace Go.Ab
open Go Go.Proofs Go.Shelf
def Try.sortA_ren : Go.Shelf.Ren := ⟨fun | 5 => 40 | 8 => 62 | 7 => 61 | 19 => 81 | 20 => 54 | 10 => 72 | 11 => 73 | 12 => 74 | 13 => 75 | 14 => 76 | 15 => 77 | 16 => 78 | 17 => 79 | 18 => 80 | 30 => 86 | 31 => 87 | 32 => 88 | 33 => 89 | 34 => 90 | 35 => 91 | 40 => 92 | n => n, fun | 23 => 22 | 25 => 3 | 3 => 3 | 32 => 38 | 22 => 22 | 0 => 0 | 44 => 113 | 46 => 70 | 4 => 4 | 36 => 107 | 35 => 106 | 41 => 110 | 5 => 5 | 9 => 9 | 53 => 116 | 57 => 120 | 63 => 122 | 64 => 39 | n => n, fun | n => n⟩
theorem Try.sortA : Go.Proofs.SlLaysM.n5 Try.prog Try.sortA_ren := {
  mixed := by kernel_rfl,
  f5 := ⟨Try.f40.name, by decide, Try.func40.trans (congrArg some (by kernel_rfl))⟩,
  f7 := ⟨Try.f61.name, by decide, Try.func61.trans (congrArg some (by kernel_rfl))⟩,
  f8 := Try.func62.trans (congrArg some (by kernel_rfl)),
  f10 := ⟨Try.f72.name, by decide, Try.func72.trans (congrArg some (by kernel_rfl))⟩,
  f11 := ⟨Try.f73.name, by decide, Try.func73.trans (congrArg some (by kernel_rfl))⟩,
  f12 := ⟨Try.f74.name, by decide, Try.func74.trans (congrArg some (by kernel_rfl))⟩,
  f13 := ⟨Try.f75.name, by decide, Try.func75.trans (congrArg some (by kernel_rfl))⟩,
  f14 := ⟨Try.f76.name, by decide, Try.func76.trans (congrArg some (by kernel_rfl))⟩,
  f15 := ⟨Try.f77.name, by decide, Try.func77.trans (congrArg some (by kernel_rfl))⟩,
  f16 := ⟨Try.f78.name, by decide, Try.func78.trans (congrArg some (by kernel_rfl))⟩,
  f17 := ⟨Try.f79.name, by decide, Try.func79.trans (congrArg some (by kernel_rfl))⟩,
  f18 := ⟨Try.f80.name, by decide, Try.func80.trans (congrArg some (by kernel_rfl))⟩,
  f19 := Try.func81.trans (congrArg some (by kernel_rfl)),
  f20 := Try.func54.trans (congrArg some (by kernel_rfl)),
  f30 := ⟨Try.f86.name, by decide, Try.func86.trans (congrArg some (by kernel_rfl))⟩,
  f31 := Try.func87.trans (congrArg some (by kernel_rfl)),
  f32 := Try.func88.trans (congrArg some (by kernel_rfl)),
  f33 := ⟨Try.f89.name, by decide, Try.func89.trans (congrArg some (by kernel_rfl))⟩,
  f34 := ⟨Try.f90.name, by decide, Try.func90.trans (congrArg some (by kernel_rfl))⟩,
  f35 := ⟨Try.f91.name, by decide, Try.func91.trans (congrArg some (by kernel_rfl))⟩,
  f40 := ⟨Try.f92.name, by decide, Try.func92.trans (congrArg some (by kernel_rfl))⟩,
  t0 := Try.underlying0,
  a0 := Try.isAgg0,
  z0 := Try.sizeOf0,
  v0 := Try.zeroValue0,
  t3 := Try.underlying3,
  a3 := Try.isAgg3,
  z3 := Try.sizeOf3,
  v3 := Try.zeroValue3,
  t4 := Try.underlying4,
  a4 := Try.isAgg4,
  z4 := Try.sizeOf4,
  v4 := Try.zeroValue4,
  t5 := Try.underlying5,
  a5 := Try.isAgg5,
  z5 := Try.sizeOf5,
  v5 := Try.zeroValue5,
  t9 := Try.underlying9,
  a9 := Try.isAgg9,
  z9 := Try.sizeOf9,
  v9 := Try.zeroValue9,
  t22 := Try.underlying22,
  a22 := Try.isAgg22,
  z22 := Try.sizeOf22,
  v22 := Try.zeroValue22,
  t23 := Try.underlying22,
  a23 := Try.isAgg22,
  z23 := Try.sizeOf22,
  v23 := Try.zeroValue22,
  t25 := Try.underlying3,
  a25 := Try.isAgg3,
  z25 := Try.sizeOf3,
  v25 := Try.zeroValue3,
  t32 := Try.underlying38,
  a32 := Try.isAgg38,
  z32 := Try.sizeOf38,
  v32 := Try.zeroValue38,
  t35 := Try.underlying106,
  a35 := Try.isAgg106,
  z35 := Try.sizeOf106,
  v35 := Try.zeroValue106,
  t36 := Try.underlying107,
  a36 := Try.isAgg107,
  z36 := Try.sizeOf107,
  v36 := Try.zeroValue107,
  t41 := Try.underlying110,
  a41 := Try.isAgg110,
  z41 := Try.sizeOf110,
  v41 := Try.zeroValue110,
  t44 := Try.underlying113,
  a44 := Try.isAgg113,
  z44 := Try.sizeOf113,
  v44 := Try.zeroValue113,
  t46 := Try.underlying70,
  a46 := Try.isAgg70,
  z46 := Try.sizeOf70,
  v46 := Try.zeroValue70,
  t53 := Try.underlying116,
  a53 := Try.isAgg116,
  z53 := Try.sizeOf116,
  v53 := Try.zeroValue116,
  t57 := Try.underlying120,
  a57 := Try.isAgg120,
  z57 := Try.sizeOf120,
  v57 := Try.zeroValue120,
  t63 := Try.underlying122,
  a63 := Try.isAgg122,
  z63 := Try.sizeOf122,
  v63 := Try.zeroValue122,
  t64 := Try.underlying39,
  a64 := Try.isAgg39,
  z64 := Try.sizeOf39,
  v64 := Try.zeroValue39
}
theorem sortOk : SpS Try.prog (sortSp 40) ∧ SpK (sortSp 40) :=
  sort_sound (fn := Try.f40) (by kernel_rfl) (by kernel_rfl) (by kernel_rfl)
    (fun blk off cap zs w hH hb hl => AnyM.slices_Sort_int Try.sortA blk off cap zs w hH hb hl)
    (fun p cap w => AnyM.slices_Sort_int_none Try.sortA p cap w)
theorem toldOk (hm : Try.prog.follows .mixedOrders = true) : SpS Try.prog (Told.sp Try.prog) ∧ SpK (Told.sp Try.prog) :=
  tellX_sound hm sortOk fun g hg => by
    rw [List.mem_singleton] at hg; subst hg
    exact ⟨Try.f10, 60, by kernel_rfl, by kernel_rfl, by kernel_rfl, by kernel_rfl⟩
end Go.Ab


/- An array of whole numbers that came in by value. -/
namespace Go.Ab
open Go
section
variable {H : Type} {enc : TypeId × Value → H} {P : Program} {w : World} {base : Nat} {spare : Nat → Bool} {held : Bool}
end
end Go.Ab

