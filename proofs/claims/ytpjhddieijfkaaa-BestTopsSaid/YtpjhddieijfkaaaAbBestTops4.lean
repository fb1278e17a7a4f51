/- A part of the proof of the law BestTops: lemmas alone; what each says stands at it. No conditions. -/
import Derived.Test.YtpjhddieijfkaaaAbBestTops3
import Derived.Test.YtpjhddieijfkaaaAbBestTops1
import Derived.Shelf.SortM.Plain
import Derived.Shelf.SortM.SortNone
import Derived.Test.YtpjhddieijfkaaaAbBestTops2
import Derived.Ground.SlgmProg
import Derived.OpenShut
import Derived.WideShapes
/- The law BestTops. -/
namespace Go.Ab
open Go Go.Proofs Go.Ab.Wd Go.Ab.Bs Go.Ab.Sai
set_option linter.unusedVariables false
set_option linter.unusedSimpArgs false
theorem law_BestTops {σ : Store} {h : Hdl} {l : List Int} {a0 a1 kq : Int} (hT : σ.Ints h l) (hH : σ.Has h) (hn : l.length < 2 ^ 44) (hw : ∀ n ∈ l, IntKind.min .i64 ≤ n ∧ n ≤ IntKind.max .i64)
    (ha0 : IntKind.min .i64 ≤ a0 ∧ a0 ≤ IntKind.max .i64) (ha1 : IntKind.min .i64 ≤ a1 ∧ a1 ≤ IntKind.max .i64) (hk : IntKind.min .i64 ≤ kq ∧ kq ≤ IntKind.max .i64) (hp : σ.prot ≤ σ.objs.length) :
    ∃ σ', Runs Try.prog 3 [.slice h, .agg [.int .i64 a0, .int .i64 a1], .int .i64 kq] σ (.bool true) σ' := by
  have ll := hT.ilen
  obtain ⟨σ1, h1⟩ : ∃ s, s = σ.push [.int .i64 a0, .int .i64 a1] 2 := ⟨_, rfl⟩
  have K1 : Kp σ.objs.length σ σ1 := by rw [h1]; exact Kp.push _ _ (Nat.le_refl _)
  have R1 : σ1.Row σ.objs.length 2 [.int .i64 a0, .int .i64 a1] := by rw [h1]; exact Store.Row.new
  have hp1 : σ1.prot ≤ σ1.objs.length := by rw [K1.prot]; have := K1.len; omega
  have hT1 : σ1.Ints h l := Store.Sl.kp hT K1
  obtain ⟨k0, r0⟩ := first18_told σ1
  by_cases c0 : (300 : Int) < h.len
  · refine ⟨σ1, Runs.intro (fn := Try.f3) (by kernel_rfl) (by kernel_rfl) ⟨k0, fun k hk => ?_⟩⟩
    have r0 := r0 k hk
    simp only at r0
    simp only [f3_eq]
    simp only [Option.bind_some, decide_eq_true_eq, decide_eq_false_iff_not, Bool.not_eq_true', Bool.not_true, Bool.not_false, Bool.false_eq_true, Bool.true_eq_false, Bool.not_eq_eq_eq_not, beq_self_eq_true, beqFT, beqTF, decide_true, decide_false, not_false_eq_true, not_true_eq_false, ne_eq, true_and, and_true, false_and, and_false, and_self, if_true, if_false, ite_true, ite_false, Bool.and_true, Bool.and_false, Bool.true_and, Bool.false_and, Bool.or_true, Bool.true_or, Bool.or_false, Bool.false_or, or_true, true_or, or_false, false_or, or_self, AV.asInt, AV.asBool, AV.asSl, AV.asPtr, AV.asFn, AV.asStr, AV.asMap, AV.asIfc, AV.item, List.length_cons, List.length_nil, List.getElem?_cons_zero, List.getElem?_cons_succ, Nat.zero_add, ← h1, r0, c0]
  obtain ⟨k1, r1⟩ := right_run (al := 301) hT1 (by omega)
  cases hok : okT l 301 with
  | false =>
    rw [hok] at r1
    refine ⟨σ1, Runs.intro (fn := Try.f3) (by kernel_rfl) (by kernel_rfl) ⟨k0 + k1, fun k hk => ?_⟩⟩
    have r0 := r0 k (by omega)
    have r1 := r1 k (by omega)
    simp only at r0 r1
    simp only [f3_eq]
    simp only [Option.bind_some, decide_eq_true_eq, decide_eq_false_iff_not, Bool.not_eq_true', Bool.not_true, Bool.not_false, Bool.false_eq_true, Bool.true_eq_false, Bool.not_eq_eq_eq_not, beq_self_eq_true, beqFT, beqTF, decide_true, decide_false, not_false_eq_true, not_true_eq_false, ne_eq, true_and, and_true, false_and, and_false, and_self, if_true, if_false, ite_true, ite_false, Bool.and_true, Bool.and_false, Bool.true_and, Bool.false_and, Bool.or_true, Bool.true_or, Bool.or_false, Bool.false_or, or_true, true_or, or_false, false_or, or_self, AV.asInt, AV.asBool, AV.asSl, AV.asPtr, AV.asFn, AV.asStr, AV.asMap, AV.asIfc, AV.item, List.length_cons, List.length_nil, List.getElem?_cons_zero, List.getElem?_cons_succ, Nat.zero_add, ← h1, r0, c0, r1]
  | true =>
  rw [hok] at r1
  obtain ⟨p, w, σ2, ⟨k2, r2⟩, K2, M, W, pn, _⟩ := waveNew_run (most := 300) hT1 hp1 (okT_okW hok rfl (by omega) (by omega))
  have hp2 : σ2.prot ≤ σ2.objs.length := by rw [K2.prot]; have := K2.len; omega
  have p24 : 2 ^ w ≤ 2 ^ 24 := Nat.pow_le_pow_right (by omega) M.wid.2
  have R2 := R1.kp K2 R1.lt
  have e0 := row_int R2 (o := 0) rfl
  have e1 := row_int R2 (o := 1) rfl
  obtain ⟨s, hs⟩ : ∃ s, s = seg l a0 a1 := ⟨_, rfl⟩
  obtain ⟨hq, σ3, ⟨k3, r3⟩, K3, G3⟩ := part13_run (show σ2.Ints h l from Store.Sl.kp hT1 K2) hp2 (by omega) a0 a1
  rw [← hs] at G3
  have sl : s.length ≤ l.length := by rw [hs]; unfold seg; simp; omega
  have hp3 : σ3.prot ≤ σ3.objs.length := by rw [K3.prot]; have := K3.len; omega
  have sr : ∀ x ∈ s, 0 ≤ x ∧ x < (2 ^ w : Nat) := fun x hx => by
    have := M.rng x (seg_mem (hs ▸ hx))
    have e : ((2 : Int) ^ w) = ((2 ^ w : Nat) : Int) := by simp
    omega
  obtain ⟨hR, σ4, ⟨k4, r4⟩, K4, G4⟩ := ranked_run (N := 2 ^ w) G3.ints hp3 (by omega) (by omega) sr
  have hp4 : σ4.prot ≤ σ4.objs.length := by rw [K4.prot]; have := K4.len; omega
  obtain ⟨R, hR_⟩ : ∃ R, R = rk (dis s 0 (2 ^ w)) := ⟨_, rfl⟩
  rw [← hR_] at G4
  have lR := pairs_len G4.sl
  have lD : R.length ≤ 2 ^ 24 := by
    have := dis_length s 0 (2 ^ w)
    rw [hR_, (rk_perm _).length_eq]; omega
  have M4 := (M.kp K3).kp K4
  have R4 := (R2.kp K3 R2.lt).kp K4 (R2.kp K3 R2.lt).lt
  have e04 := row_int R4 (o := 0) rfl
  have e14 := row_int R4 (o := 1) rfl
  obtain ⟨hA, σ5, ⟨k5, r5⟩, K5, G5⟩ := top_run (M4.quiet σ4.objs.length) (Nat.le_refl _) a0 a1 kq
  rw [← hs, ← hR_] at G5
  obtain ⟨σ6, h6⟩ : ∃ s, s = { σ5 with prot := σ4.prot } := ⟨_, rfl⟩
  have K6 : Kp σ4.objs.length σ4 σ6 := by rw [h6]; exact kp_q K5
  have G6 : Grow σ6 σ4.objs.length hA 2 (pairsL (R.take kq.toNat)) := by rw [h6]; exact G5.keepX fun _ _ => rfl
  have GR6 := G4.kp K6
  obtain ⟨hC, ec, GC, _⟩ := pairs_cut GR6 (m := min kq.toNat R.length) (by omega)
  have cm : mx2 (Int.ofNat 0) (mn2 kq hR.len) = ((min kq.toNat R.length : Nat) : Int) := by
    rw [mx2_eq, mn2_eq]; show max (0 : Int) _ = _; omega
  rw [← List.take_eq_take_min] at GC
  obtain ⟨k6, r6⟩ := same13_run G6.sl GC.sl (by rw [List.length_take]; omega)
  refine ⟨σ6, Runs.intro (fn := Try.f3) (by kernel_rfl) (by kernel_rfl) ⟨k0 + k1 + k2 + k3 + k4 + k5 + k6, fun k hk => ?_⟩⟩
  have r0 := r0 k (by omega)
  have r1 := r1 k (by omega)
  have r2 := r2 k (by omega)
  have r3 := r3 k (by omega)
  have r4 := r4 k (by omega)
  have r5 := r5 k (by omega)
  have r6 := r6 k (by omega)
  simp only at r0 r1 r2 r3 r4 r5 r6
  have r5' := callG_q r5
  rw [← h6] at r5'
  simp only [f3_eq]
  simp only [Option.bind_some, decide_eq_true_eq, decide_eq_false_iff_not, Bool.not_eq_true', Bool.not_true, Bool.not_false, Bool.false_eq_true, Bool.true_eq_false, Bool.not_eq_eq_eq_not, beq_self_eq_true, beqFT, beqTF, decide_true, decide_false, not_false_eq_true, not_true_eq_false, ne_eq, true_and, and_true, false_and, and_false, and_self, if_true, if_false, ite_true, ite_false, Bool.and_true, Bool.and_false, Bool.true_and, Bool.false_and, Bool.or_true, Bool.true_or, Bool.or_false, Bool.false_or, or_true, true_or, or_false, false_or, or_self, AV.asInt, AV.asBool, AV.asSl, AV.asPtr, AV.asFn, AV.asStr, AV.asMap, AV.asIfc, AV.item, List.length_cons, List.length_nil, List.getElem?_cons_zero, List.getElem?_cons_succ, Nat.zero_add, ← h1, r0, c0, r1, r2, e0, e1, r3, r4, e04, e14, r5', cm, ec, r6]
end Go.Ab


/- What is told of sorting holds: the library's contract. -/
namespace Go.Ab
open Go Go.Proofs Go.Sort
set_option linter.unusedVariables false
theorem sort_sound {P : Program} {s : Nat} {fn : Func} (hf : P.funcs[s]? = some fn) (hn : (fn.name == "runtime.NumGoroutine") = false) (hb : fn.body.isNone = false)
    (h1 : ∀ (blk off cap : Nat) (zs : List Int) (w : World), Holds (Value.int .i64) w blk off zs.toArray → blk < w.heap.size → zs.length < 4611686018427387904 →
      Calls P s #[.slice (some ⟨blk, off, none⟩) zs.length cap] w fun e w' => e = .returned (.tuple #[]) ∧ ∃ n os, w' = grow (putRow (Value.int .i64) (Sort.ahead w n) blk off (zs.mergeSort fun x y => decide (x ≤ y)).toArray) os)
    (h0 : ∀ (p : Option Addr) (cap : Nat) (w : World), Calls P s #[.slice p 0 cap] w fun e w' => e = .returned (.tuple #[]) ∧ w' = w) : SpS P (sortSp s) ∧ SpK (sortSp s) := by
  constructor
  · intro g f e args σ v σ' h
    obtain ⟨rfl, rfl⟩ := sortSp_inv e
    refine ⟨fun cargs w => callFunc_enter hf hn hb cargs w, fun μ w cargs hR hv => ?_⟩
    obtain ⟨hd, rfl, rfl, hc⟩ := sortT_inv h
    obtain ⟨c, hc1⟩ : ∃ c, cargs = #[c] := by
      have := hv.1
      simp at this
      obtain ⟨l⟩ := cargs
      match l, this with
      | [c], _ => exact ⟨c, rfl⟩
    subst hc1
    have hv1 : VR μ (.slice hd) c := hv.2 0 _ _ rfl rfl
    rcases hc with ⟨e0, rfl⟩ | ⟨b, o, cs, zs, ha, ho, hz, hp, hl, h62, hpos, rfl⟩
    · have : ∃ p cap, c = .slice p 0 cap := by
        cases hv1 with
        | slN h => exact ⟨_, _, rfl⟩
        | sl h hc hl hN => simp at e0; subst e0; exact ⟨_, _, rfl⟩
        | sl0 h => exact ⟨_, _, rfl⟩
      obtain ⟨p, cap, rfl⟩ := this
      refine (h0 p cap w).mono ?_
      rintro e w' ⟨rfl, rfl⟩
      exact ⟨μ, _, rfl, .tuple (by simp) (by simp), Ste.refl hR⟩
    · have : ∃ L cap, μ b = some L ∧ c = .slice (some ⟨L.blk, L.off + o, none⟩) hd.len cap := by
        cases hv1 with
        | slN h => cases ha
        | sl hm hc hl hN => simp at ha; obtain ⟨rfl, rfl⟩ := ha; exact ⟨_, _, hm, rfl⟩
        | sl0 h => simp at hpos
      obtain ⟨L, cap, hL, rfl⟩ := this
      have hzl : zs.length = hd.len := by
        have := congrArg List.length hz
        simp at this; omega
      obtain ⟨ce, ty, hblk, hsz⟩ := hR.rw b cs 1 L ho hL
      obtain ⟨_, hlN, hj⟩ := hR.cells b cs true 1 L ho hL
      have cellz : ∀ j, j < zs.length → w.cell? ⟨L.blk, L.off + o + j, none⟩ = some (.int .i64 (zs.getD j 0)) := fun j hj' => by
        have e1 : cs[o + j]? = some (.int .i64 (zs.getD j 0)) := by
          have := congrArg (fun l : List AV => l[j]?) hz
          simp only [List.getElem?_take, List.getElem?_drop, intsL, List.getElem?_map] at this
          rw [if_pos (by omega)] at this
          rw [this, List.getElem?_eq_getElem hj']; simp [hj']
        obtain ⟨x, hx, hvx⟩ := hj _ _ e1
        cases hvx
        rw [Nat.add_assoc]; exact hx
      have hH : Holds (Value.int .i64) w L.blk (L.off + o) zs.toArray := fun j hj' => by
        have hj' : j < zs.length := by simpa using hj'
        refine ⟨?_, by simp [World.frozen?, hblk]⟩
        rw [cellz j hj']; simp [hj']
      have hbl : L.blk < w.heap.size := hR.lt b L hL
      have := h1 L.blk (L.off + o) cap zs w hH hbl (by omega)
      rw [hzl] at this
      refine this.mono ?_
      rintro e w' ⟨rfl, n, os, rfl⟩
      rw [mergeSort_sortL]
      obtain ⟨d, hd'⟩ : ∃ d, d = sortL zs := ⟨_, rfl⟩
      rw [← hd']
      have hdl : d.length = hd.len := by rw [hd', sortL_length, hzl]
      obtain ⟨w1, hw1⟩ : ∃ w1, w1 = putRow (Value.int .i64) (Sort.ahead w n) L.blk (L.off + o) d.toArray := ⟨_, rfl⟩
      rw [← hw1]
      have s1 : w1.heap.size = w.heap.size := by rw [hw1]; simp [putRow, mapBlock, Sort.ahead]
      have far : ∀ c, c ≠ L.blk → w1.heap[c]? = w.heap[c]? := fun c hc => by
        rw [hw1]; simp [putRow, mapBlock, Sort.ahead, Array.getElem?_modify, Ne.symm hc]
      have near : w1.heap[L.blk]? = some (.cells (putCells (Value.int .i64) (L.off + o) d.toArray ce) ty (0, 0)) := by
        rw [hw1]; simp [putRow, mapBlock, Sort.ahead, Array.getElem?_modify, hblk, onCells]
      have hW : Ste μ σ w μ (σ.setO b (.cells (cs.take o ++ (intsL d ++ cs.drop (o + hd.len))) true 1)) w1 := by
        refine Ste.write hR ho hp hL s1 (by rw [hw1]; rfl) (by rw [hw1]; rfl) (by rw [hw1]; rfl) far ⟨_, _, near, by simp [putCells, hsz]⟩ ?_ ?_
        · simp only [List.length_append, List.length_take, intsL_length, List.length_drop]; omega
        · intro j v hjv
          have tk : (cs.take o).length = o := by simp; omega
          by_cases c1 : j < o
          · rw [List.getElem?_append_left (by omega), List.getElem?_take, if_pos c1] at hjv
            obtain ⟨x, hx, hvx⟩ := hj j v hjv
            refine ⟨x, ?_, hvx⟩
            simp only [World.cell?, hblk] at hx
            simp only [World.cell?, near]
            simp only [Option.isSome_none, Bool.false_eq_true, if_false] at hx ⊢
            rw [← hx]
            simp only [putCells, Array.getElem?_mapIdx]
            cases hce : ce[L.off + j]? with
            | none => rfl
            | some y => simp; omega
          · rw [List.getElem?_append_right (by omega), tk] at hjv
            by_cases c2 : j - o < hd.len
            · rw [List.getElem?_append_left (by simp; omega)] at hjv
              simp only [intsL, List.getElem?_map, Option.map_eq_some_iff] at hjv
              obtain ⟨z, hz1, rfl⟩ := hjv
              refine ⟨.int .i64 z, ?_, .int ..⟩
              simp only [World.cell?, near]
              simp only [Option.isSome_none, Bool.false_eq_true, if_false]
              simp only [putCells, Array.getElem?_mapIdx]
              have hlt : L.off + j < ce.size := by omega
              rw [Array.getElem?_eq_getElem hlt]
              simp only [Option.map_some, Option.some.injEq]
              rw [if_pos ⟨by omega, by simp; omega⟩]
              congr 1
              have e5 : L.off + j - (L.off + o) = j - o := by omega
              rw [e5]
              obtain ⟨hq, hq2⟩ := List.getElem?_eq_some_iff.1 hz1
              rw [getElem!_pos _ (j - o) (by simpa using hq)]
              simpa using hq2
            · rw [List.getElem?_append_right (by simp; omega), List.getElem?_drop] at hjv
              have e5 : o + hd.len + (j - o - (intsL d).length) = j := by simp; omega
              rw [e5] at hjv
              obtain ⟨x, hx, hvx⟩ := hj j v hjv
              refine ⟨x, ?_, hvx⟩
              simp only [World.cell?, hblk] at hx
              simp only [World.cell?, near]
              simp only [Option.isSome_none, Bool.false_eq_true, if_false] at hx ⊢
              rw [← hx]
              simp only [putCells, Array.getElem?_mapIdx]
              cases hce : ce[L.off + j]? with
              | none => rfl
              | some y => simp; omega
      have hG := Ste.same (w' := grow w1 os) hW.rel rfl rfl rfl (by simp [grow]) (fun c hc => by simp only [grow]; rw [Array.getElem?_append_left hc])
      exact ⟨μ, _, rfl, .tuple (by simp) (by simp), hW.trans hG⟩
  · intro g f e args σ v σ' h
    obtain ⟨rfl, rfl⟩ := sortSp_inv e
    obtain ⟨hd, rfl, rfl, hc⟩ := sortT_inv h
    rcases hc with ⟨e0, rfl⟩ | ⟨b, o, cs, zs, ha, ho, hz, hp, hl, h62, hpos, rfl⟩
    · exact Pre.refl _
    · exact Pre.set σ hp _
def FirstOkX (P : Program) (sp : FuncId → Option (List AV → Store → Option (AV × Store))) (g : FuncId) : Prop := ∃ fn k, P.funcs[g]? = some fn ∧ (fn.name == "runtime.NumGoroutine") = false ∧ fn.body.isNone = false ∧ okTrue (gam P drawn sp k (.fn g) [] ⟨[], 0⟩) = true
theorem tellX_sound {P : Program} (hm : P.follows .mixedOrders = true) {sp : FuncId → Option (List AV → Store → Option (AV × Store))} (h0 : SpS P sp ∧ SpK sp) {fs : List Nat} (h : ∀ g ∈ fs, FirstOkX P sp g) : SpS P (orTell sp fs) ∧ SpK (orTell sp fs) := by
  have shape : ∀ g f, tell fs g = some f → g ∈ fs ∧ ∀ args σ v σ', f args σ = some (v, σ') → args = [] ∧ v = .bool true ∧ σ' = σ := by
    intro g f e
    unfold tell at e
    split at e
    · rename_i ha
      injection e with e; subst e
      obtain ⟨x, hx, hb⟩ := List.any_eq_true.1 ha
      have : x = g := Nat.eq_of_beq_eq_true hb
      subst this
      refine ⟨hx, fun args σ v σ' h => ?_⟩
      cases args with
      | nil => simp at h; exact ⟨rfl, h.1.symm, h.2.symm⟩
      | cons => simp at h
    · cases e
  have parts : ∀ g f, orTell sp fs g = some f → sp g = some f ∨ tell fs g = some f := fun g f e => by
    unfold orTell at e
    split at e
    · rename_i f' e'
      injection e with e; subst e; exact .inl e'
    · exact .inr e
  constructor
  · intro g f e args σ v σ' hf
    rcases parts g f e with e | e
    · exact h0.1 g f e args σ v σ' hf
    obtain ⟨hg, hs⟩ := shape g f e
    obtain ⟨rfl, rfl, rfl⟩ := hs args σ v σ' hf
    obtain ⟨fn, k, k1, k2, k3, k4⟩ := h g hg
    refine ⟨fun cargs w => callFunc_enter k1 k2 k3 cargs w, fun μ w cargs hR hv => ?_⟩
    have hc : cargs.toList = [] := hv.inv_nil
    obtain ⟨σ1, hr⟩ : ∃ σ1, gam P drawn sp k (.fn g) [] ⟨[], 0⟩ = some (.bool true, σ1) := by
      cases hx : gam P drawn sp k (.fn g) [] ⟨[], 0⟩ with
      | none => rw [hx] at k4; cases k4
      | some r =>
        obtain ⟨v, s⟩ := r
        rw [hx] at k4
        cases v with
        | bool b => cases b with
          | true => exact ⟨s, rfl⟩
          | false => cases k4
        | _ => cases k4
    have hs := read_sound (P := P) hm h0.1 h0.2 k _ _ _ _ _ hr (fun _ => none) w cargs (Rel.empty w) (by rw [hc]; exact VL.nil _)
    refine hs.2.mono fun e w' ⟨μ', c, e1, e2, e3⟩ => ?_
    subst e1
    cases e2
    refine ⟨μ, _, rfl, .bool _, Ste.same hR e3.os e3.tape e3.output e3.size fun c hc => e3.pres c hc ?_⟩
    rintro ⟨b, o, L, h1, _⟩
    simp at h1
  · intro g f e args σ v σ' hf
    rcases parts g f e with e | e
    · exact h0.2 g f e args σ v σ' hf
    obtain ⟨_, hs⟩ := shape g f e
    obtain ⟨_, _, rfl⟩ := hs args σ v σ' hf
    exact Pre.refl _
end Go.Ab


/- What is told of sorting and of both firsts holds. -/
namespace Go.Ab
open Go Go.Proofs Go.Shelf
def Try.sortA_ren : Go.Shelf.Ren := ⟨fun | 5 => 60 | 8 => 66 | 7 => 67 | 19 => 68 | 20 => 47 | 10 => 69 | 11 => 70 | 12 => 71 | 13 => 72 | 14 => 73 | 15 => 74 | 16 => 75 | 17 => 76 | 18 => 77 | 30 => 78 | 31 => 79 | 32 => 80 | 33 => 81 | 34 => 82 | 35 => 83 | 40 => 84 | n => n, fun | 23 => 22 | 25 => 3 | 3 => 3 | 32 => 36 | 22 => 22 | 0 => 0 | 44 => 126 | 46 => 60 | 4 => 4 | 36 => 129 | 35 => 128 | 41 => 115 | 5 => 5 | 9 => 9 | 53 => 133 | 57 => 137 | 63 => 139 | 64 => 84 | n => n, fun | n => n⟩
theorem Try.sortA : Go.Proofs.SlLaysM.n5 Try.prog Try.sortA_ren := {
  mixed := by kernel_rfl,
  f5 := ⟨Try.f60.name, by decide, Try.func60.trans (congrArg some (by kernel_rfl))⟩,
  f7 := ⟨Try.f67.name, by decide, Try.func67.trans (congrArg some (by kernel_rfl))⟩,
  f8 := Try.func66.trans (congrArg some (by kernel_rfl)),
  f10 := ⟨Try.f69.name, by decide, Try.func69.trans (congrArg some (by kernel_rfl))⟩,
  f11 := ⟨Try.f70.name, by decide, Try.func70.trans (congrArg some (by kernel_rfl))⟩,
  f12 := ⟨Try.f71.name, by decide, Try.func71.trans (congrArg some (by kernel_rfl))⟩,
  f13 := ⟨Try.f72.name, by decide, Try.func72.trans (congrArg some (by kernel_rfl))⟩,
  f14 := ⟨Try.f73.name, by decide, Try.func73.trans (congrArg some (by kernel_rfl))⟩,
  f15 := ⟨Try.f74.name, by decide, Try.func74.trans (congrArg some (by kernel_rfl))⟩,
  f16 := ⟨Try.f75.name, by decide, Try.func75.trans (congrArg some (by kernel_rfl))⟩,
  f17 := ⟨Try.f76.name, by decide, Try.func76.trans (congrArg some (by kernel_rfl))⟩,
  f18 := ⟨Try.f77.name, by decide, Try.func77.trans (congrArg some (by kernel_rfl))⟩,
  f19 := Try.func68.trans (congrArg some (by kernel_rfl)),
  f20 := Try.func47.trans (congrArg some (by kernel_rfl)),
  f30 := ⟨Try.f78.name, by decide, Try.func78.trans (congrArg some (by kernel_rfl))⟩,
  f31 := Try.func79.trans (congrArg some (by kernel_rfl)),
  f32 := Try.func80.trans (congrArg some (by kernel_rfl)),
  f33 := ⟨Try.f81.name, by decide, Try.func81.trans (congrArg some (by kernel_rfl))⟩,
  f34 := ⟨Try.f82.name, by decide, Try.func82.trans (congrArg some (by kernel_rfl))⟩,
  f35 := ⟨Try.f83.name, by decide, Try.func83.trans (congrArg some (by kernel_rfl))⟩,
  f40 := ⟨Try.f84.name, by decide, Try.func84.trans (congrArg some (by kernel_rfl))⟩,
  t0 := Try.underlying0,
  a0 := Try.isAgg0,
  z0 := Try.sizeOf0,
  v0 := Try.zeroValue0,
  t3 := Try.underlying3,
  a3 := Try.isAgg3,
  z3 := Try.sizeOf3,
  v3 := Try.zeroValue3,
  t4 := Try.underlying4,
  a4 := Try.isAgg4,
  z4 := Try.sizeOf4,
  v4 := Try.zeroValue4,
  t5 := Try.underlying5,
  a5 := Try.isAgg5,
  z5 := Try.sizeOf5,
  v5 := Try.zeroValue5,
  t9 := Try.underlying9,
  a9 := Try.isAgg9,
  z9 := Try.sizeOf9,
  v9 := Try.zeroValue9,
  t22 := Try.underlying22,
  a22 := Try.isAgg22,
  z22 := Try.sizeOf22,
  v22 := Try.zeroValue22,
  t23 := Try.underlying22,
  a23 := Try.isAgg22,
  z23 := Try.sizeOf22,
  v23 := Try.zeroValue22,
  t25 := Try.underlying3,
  a25 := Try.isAgg3,
  z25 := Try.sizeOf3,
  v25 := Try.zeroValue3,
  t32 := Try.underlying36,
  a32 := Try.isAgg36,
  z32 := Try.sizeOf36,
  v32 := Try.zeroValue36,
  t35 := Try.underlying128,
  a35 := Try.isAgg128,
  z35 := Try.sizeOf128,
  v35 := Try.zeroValue128,
  t36 := Try.underlying129,
  a36 := Try.isAgg129,
  z36 := Try.sizeOf129,
  v36 := Try.zeroValue129,
  t41 := Try.underlying115,
  a41 := Try.isAgg115,
  z41 := Try.sizeOf115,
  v41 := Try.zeroValue115,
  t44 := Try.underlying126,
  a44 := Try.isAgg126,
  z44 := Try.sizeOf126,
  v44 := Try.zeroValue126,
  t46 := Try.underlying60,
  a46 := Try.isAgg60,
  z46 := Try.sizeOf60,
  v46 := Try.zeroValue60,
  t53 := Try.underlying133,
  a53 := Try.isAgg133,
  z53 := Try.sizeOf133,
  v53 := Try.zeroValue133,
  t57 := Try.underlying137,
  a57 := Try.isAgg137,
  z57 := Try.sizeOf137,
  v57 := Try.zeroValue137,
  t63 := Try.underlying139,
  a63 := Try.isAgg139,
  z63 := Try.sizeOf139,
  v63 := Try.zeroValue139,
  t64 := Try.underlying84,
  a64 := Try.isAgg84,
  z64 := Try.sizeOf84,
  v64 := Try.zeroValue84
}
theorem sortOk : SpS Try.prog (sortSp 60) ∧ SpK (sortSp 60) :=
  sort_sound (fn := Try.f60) (by kernel_rfl) (by kernel_rfl) (by kernel_rfl)
    (fun blk off cap zs w hH hb hl => AnyM.slices_Sort_int Try.sortA blk off cap zs w hH hb hl)
    (fun p cap w => AnyM.slices_Sort_int_none Try.sortA p cap w)
theorem toldOk (hm : Try.prog.follows .mixedOrders = true) : SpS Try.prog (Told.sp Try.prog) ∧ SpK (Told.sp Try.prog) :=
  tellX_sound hm sortOk fun g hg => by
    simp only [List.mem_cons, List.not_mem_nil, or_false] at hg
    rcases hg with rfl | rfl
    · exact ⟨Try.f9, 60, by kernel_rfl, by kernel_rfl, by kernel_rfl, by kernel_rfl⟩
    · exact ⟨Try.f20, 60, by kernel_rfl, by kernel_rfl, by kernel_rfl, by kernel_rfl⟩
end Go.Ab


/- An array of whole numbers that came in by value. -/
namespace Go.Ab
open Go
theorem vr_ints {μ : Mu} {k : IntKind} (zs : List Int) : VR μ (.agg (zs.map (AV.int k))) (.agg (zs.map (Value.int k)).toArray) := by
  refine .agg (by simp) fun i x y hx hy => ?_
  simp only [List.getElem?_map, List.getElem?_toArray] at hx hy
  cases h : zs[i]? with
  | none => rw [h] at hx; cases hx
  | some z => rw [h] at hx hy; injection hx with hx; injection hy with hy; subst hx hy; exact .int ..
section
variable {H : Type} {enc : TypeId × Value → H} {P : Program} {w : World} {base : Nat} {spare : Nat → Bool} {held : Bool}
theorem ints_of {k : IntKind} : ∀ {l : List Value}, (∀ i (h : i < l.length), ∃ z : Int, l[i] = .int k z ∧ (Lit.int k z).wf = true) → ∃ zs : List Int, l = zs.map (Value.int k) ∧ ∀ z ∈ zs, (Lit.int k z).wf = true
  | [], _ => ⟨[], rfl, by simp⟩
  | v :: l, h => by
    obtain ⟨z, hz, hw⟩ := h 0 (by simp)
    obtain ⟨zs, hzs, hws⟩ := ints_of (l := l) fun i hi => h (i + 1) (by simp; omega)
    refine ⟨z :: zs, ?_, ?_⟩
    · rw [List.map_cons, ← hzs]
      simp at hz
      rw [hz]
    · intro y hy
      rcases List.mem_cons.1 hy with rfl | hy
      · exact hw
      · exact hws y hy
theorem open_arr {n : Nat} {t e : TypeId} {k : IntKind} {r : Reach} {b0 : Nat} {v : Value} {d : DataW H} {p : List MemPlace} (ht : P.underlying t = some (.array n e)) (he : P.underlying e = some (.int k)) (hC : P.cellsOf e = 1 ∧ P.cellsOf t = n)
    (hv : Value.okWide P w r b0 t v) (h : DataW.Trod enc P w base spare held t v d p) :
    ∃ zs : List Int, zs.length = n ∧ v = .agg (zs.map (Value.int k)).toArray ∧ ∀ z ∈ zs, (Lit.int k z).wf = true := by
  simp only [Value.okWide, ht] at hv
  obtain ⟨cs, rfl, hsz, _⟩ := hv
  obtain ⟨fuel, hf⟩ := h
  obtain ⟨xs, m, rfl, _, hl, hn, hg⟩ := DataW.trod_array ht hf
  simp only [Value.cells] at hl hg
  have hlen : cs.toList.length = n := by simpa [hC.2] using hsz
  obtain ⟨zs, hzs, hws⟩ := ints_of (k := k) (l := cs.toList) fun i hi => by
    have := hg i (by omega)
    rw [hC.1, Nat.mul_one, List.getElem?_eq_getElem (by omega)] at this
    obtain ⟨z, hz, _, hw⟩ := DataW.trod_int he this
    refine ⟨z, ?_, hw⟩
    rw [List.drop_eq_getElem_cons hi] at hz
    simp at hz
    simpa using hz
  refine ⟨zs, by rw [← hlen, hzs]; simp, ?_, hws⟩
  rw [← hzs]
theorem list2 {l : List Int} (h : l.length = 2) : ∃ a b, l = [a, b] := by match l, h with | [a, b], _ => exact ⟨a, b, rfl⟩
end
end Go.Ab

