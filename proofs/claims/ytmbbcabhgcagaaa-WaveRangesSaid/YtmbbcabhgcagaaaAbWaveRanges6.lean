/- A part of the proof of the law WaveRanges: lemmas alone; what each says stands at it. No conditions. -/
import Derived.Test.YtmbbcabhgcagaaaAbWaveRanges2
import Derived.Test.YtmbbcabhgcagaaaAbWaveRanges5
import Derived.Test.YtmbbcabhgcagaaaAbWaveRanges1
import Derived.OpenShut
import Derived.WideShapes
set_option maxRecDepth 100000
set_option linter.unusedVariables false
namespace Go.Ab
open Go Go.Proofs
theorem f37b_eq : ∀ (Γ : Gam) (k : Nat) (σ : Store) (p0 : Ptr) (i1 i2 : Int),
  evBody Try.prog Γ drawn k Try.f37 [AV.ptr p0, AV.int IntKind.i64 i1, AV.int IntKind.i64 i2] σ =
    Option.bind (Store.ldPtr (Store.push (Store.push σ [AV.ptr p0] 1) [AV.int IntKind.i64 i1] 1) (some (List.length (Store.objs σ), 0))) fun x3 ↦
      Option.bind (Store.ldInt (Store.push (Store.push σ [AV.ptr p0] 1) [AV.int IntKind.i64 i1] 1) IntKind.i64 (some (List.length (Store.objs (Store.push σ [AV.ptr p0] 1)), 0))) fun x4 ↦
        Option.bind (Γ (Fun.fn 59) [AV.ptr x3, AV.int IntKind.i64 x4] (Store.push (Store.push σ [AV.ptr p0] 1) [AV.int IntKind.i64 i1] 1)) fun x5 ↦
          Option.bind (AV.asBool (Prod.fst x5)) fun x6 ↦
            if (!x6) = true then some (AV.int IntKind.i64 (-1), Prod.snd x5)
            else
              if decide (i2 < 0) = true then some (AV.int IntKind.i64 (-1), Prod.snd x5)
              else
                Option.bind (Store.ldPtr (Prod.snd x5) (some (List.length (Store.objs σ), 0))) fun x7 ↦
                  Option.bind (Store.ldInt (Prod.snd x5) IntKind.i64 (some (List.length (Store.objs (Store.push σ [AV.ptr p0] 1)), 0))) fun x8 ↦
                    Option.bind (Store.ldPtr (Prod.snd x5) (some (List.length (Store.objs σ), 0))) fun x9 ↦
                      Option.bind x9 fun x10 ↦
                        Option.bind (Store.ldInt (Prod.snd x5) IntKind.i64 (Ptr.add (some x10) 0)) fun x11 ↦
                          Option.bind (Γ (Fun.fn 35) [AV.ptr x7, AV.int IntKind.i64 x8, AV.int IntKind.i64 x11] (Prod.snd x5)) fun x12 ↦
                            Option.bind (AV.asInt IntKind.i64 (Prod.fst x12)) fun x13 ↦
                              if decide (x13 ≤ i2) = true then some (AV.int IntKind.i64 (-1), Prod.snd x12)
                              else
                                Option.bind (Store.ldPtr (Prod.snd x12) (some (List.length (Store.objs σ), 0))) fun x14 ↦
                                  Option.bind (Store.ldInt (Prod.snd x12) IntKind.i64 (some (List.length (Store.objs (Store.push σ [AV.ptr p0] 1)), 0))) fun x15 ↦
                                    Option.bind (Γ (Fun.fn 60) [AV.ptr x14, AV.int IntKind.i64 x15, AV.int IntKind.i64 0] (Prod.snd x12)) fun x16 ↦
                                      Option.bind (AV.item 0 2 (Prod.fst x16)) fun x17 ↦
                                        Option.bind (AV.asInt IntKind.i64 x17) fun x18 ↦
                                          Option.bind (AV.item 1 2 (Prod.fst x16)) fun x19 ↦
                                            Option.bind (AV.asInt IntKind.i64 x19) fun x20 ↦
                                              Option.bind (Store.stL (Store.push (Prod.snd x16) [AV.int IntKind.i64 0] 1) (some (List.length (Store.objs (Prod.snd x16)), 0)) [AV.int IntKind.i64 (IntKind.wrap IntKind.i64 (x18 + i2))] 0) fun x21 ↦
                                                Option.bind (Store.ldPtr x21 (some (List.length (Store.objs σ), 0))) fun x22 ↦
                                                  Option.bind x22 fun x23 ↦
                                                    Option.bind (Store.ldSl x21 (Ptr.add (some x23) 2)) fun x24 ↦
                                                      Option.bind (Γ (Fun.fn 61) [AV.slice x24] x21) fun x25 ↦
                                                        Option.bind (AV.asFn (Prod.fst x25)) fun x26 ↦
                                                          Option.bind
                                                            (rangeV Γ (Prod.fst x26) (Prod.fst (Prod.snd x26)) (Prod.snd (Prod.snd x26))
                                                              (AObj.loop [(9, AV.ptr (some (List.length (Store.objs (Prod.snd x16)), 0))), (4, AV.ptr (some (List.length (Store.objs (Store.push σ [AV.ptr p0] 1)), 0))), (3, AV.ptr (some (List.length (Store.objs σ), 0)))] (Array.toList #[45, 46]) (codeAt (fnCode Try.f37) [1, 1, 1, 1, 0, 1, 0, 0]) (codeAt (fnCode Try.f37) [1, 1, 1, 1, 0, 1, 0, 1])
                                                                (Func.ntmps Try.f37) LSt.ready)
                                                              (Prod.snd x25))
                                                            fun x27 ↦ contF Try.prog Γ drawn k Try.f37 [1, 1, 1, 1, 0, 1, 0] (Prod.fst x27, [(9, AV.ptr (some (List.length (Store.objs (Prod.snd x16)), 0))), (6, AV.int IntKind.i64 0)], Prod.snd x27) := by intros; kernel_rfl

theorem f37b_RX1111010 : ∀ (Γ : Gam) (k : Nat) (σ : Store) (p28 p29 p30 : Ptr) (i31 : Int) (p32 : Ptr),
  roundX Try.prog Γ drawn k Try.f37 [1, 1, 1, 1, 0, 1, 0] [(46, AV.ptr p32), (45, AV.int IntKind.i64 i31), (9, AV.ptr p28), (4, AV.ptr p29), (3, AV.ptr p30)] σ = some (AX.normal, [(11, AV.ptr p32), (10, AV.int IntKind.i64 i31), (46, AV.ptr p32), (45, AV.int IntKind.i64 i31), (9, AV.ptr p28), (4, AV.ptr p29), (3, AV.ptr p30)], σ) := by intros; kernel_rfl

theorem f37b_RY1111010 : ∀ (Γ : Gam) (k : Nat) (σ : Store) (p33 : Ptr) (i34 : Int) (p35 p36 p37 : Ptr),
  roundY Try.prog Γ drawn k Try.f37 [1, 1, 1, 1, 0, 1, 0] [(11, AV.ptr p33), (10, AV.int IntKind.i64 i34), (9, AV.ptr p35), (4, AV.ptr p36), (3, AV.ptr p37)] σ =
    Option.bind (Store.ldInt σ IntKind.i64 p36) fun x38 ↦
      Option.bind (Store.ldPtr σ p37) fun x39 ↦
        Option.bind x39 fun x40 ↦
          Option.bind (Store.ldInt σ IntKind.i64 (Ptr.add (some x40) 1)) fun x41 ↦
            if 0 ≤ IntKind.wrap IntKind.i64 (IntKind.wrap IntKind.i64 (x41 - 1) - i34) then
              if decide (bitOp BinOp.and IntKind.i64 (shrI IntKind.i64 x38 (IntKind.wrap IntKind.i64 (IntKind.wrap IntKind.i64 (x41 - 1) - i34))) 1 = 1) = true then
                Option.bind (Store.ldInt σ IntKind.i64 p35) fun x42 ↦
                  Option.bind (callG Γ true (Fun.fn 32) [AV.ptr p33] σ) fun x43 ↦
                    Option.bind (AV.asInt IntKind.i64 (Prod.fst x43)) fun x44 ↦
                      Option.bind (callG Γ true (Fun.fn 63) [AV.ptr p33, AV.int IntKind.i64 x44] (Prod.snd x43)) fun x45 ↦
                        Option.bind (AV.asInt IntKind.i64 (Prod.fst x45)) fun x46 ↦ Option.bind (Γ (Fun.fn 62) [AV.ptr p33, AV.int IntKind.i64 (IntKind.wrap IntKind.i64 (x42 - x46))] (Prod.snd x45)) fun x47 ↦ Option.bind (AV.asInt IntKind.i64 (Prod.fst x47)) fun x48 ↦ Option.bind (Store.stL (Prod.snd x47) p35 [AV.int IntKind.i64 x48] 0) fun x49 ↦ some (AX.normal, x49)
              else Option.bind (Store.ldInt σ IntKind.i64 p35) fun x50 ↦ Option.bind (Γ (Fun.fn 64) [AV.ptr p33, AV.int IntKind.i64 x50] σ) fun x51 ↦ Option.bind (AV.asInt IntKind.i64 (Prod.fst x51)) fun x52 ↦ Option.bind (Store.stL (Prod.snd x51) p35 [AV.int IntKind.i64 x52] 0) fun x53 ↦ some (AX.normal, x53)
            else none := by intros; kernel_rfl

theorem f37b_RC1111010 : ∀ (Γ : Gam) (k : Nat) (σ : Store) (p54 : Ptr) (i55 : Int), contF Try.prog Γ drawn k Try.f37 [1, 1, 1, 1, 0, 1, 0] (AX.normal, [(9, AV.ptr p54), (6, AV.int IntKind.i64 i55)], σ) = Option.bind (Store.ldInt σ IntKind.i64 p54) fun x56 ↦ some (AV.int IntKind.i64 x56, σ) := by intros; kernel_rfl

end Go.Ab

/- Where a number stands: Select of a matrix. -/
namespace Go.Ab
open Go Go.Proofs Go.Ab.Wd Go.Ab.Bs Go.Ab.Sai
set_option linter.unusedVariables false
set_option linter.unusedSimpArgs false
/-- The way of a place down the levels. -/
def ppath (w : Nat) (l : List Int) (c : Int) (P : Nat) : Nat → Nat
  | 0 => P
  | j + 1 => goto (lev w l j) (ppath w l c P j) (bitb (w - j - 1) c)
theorem ppath_eq {w : Nat} {l : List Int} {c : Int} {P : Nat} (hl : ∀ x ∈ l, x.toNat < 2 ^ w) (cw : c.toNat < 2 ^ w) (hP : P ≤ l.length) : ∀ j, j ≤ w →
    Part (Bs.rowAt w l (w - j)) (apath w l c j) ((l.take P).filter (pre (w - j) (c.toNat / 2 ^ (w - j)))) ∧ ppath w l c P j = apath w l c j + ((l.take P).filter (pre (w - j) (c.toNat / 2 ^ (w - j)))).length
  | 0, _ => by
    have PT := Part.top (w := w) (l := l) hl (a := 0) (b := P) (by omega) hP
    have ef : (l.take P).filter (pre w 0) = l.take P := List.filter_eq_self.2 fun x hx => pre_top (hl x (List.mem_of_mem_take hx))
    rw [Nat.sub_zero, Nat.div_eq_of_lt cw]
    refine ⟨by simpa [apath] using PT, ?_⟩
    rw [ef, List.length_take, Nat.min_eq_left hP, apath, ppath, Nat.zero_add]
  | j + 1, hj => by
    obtain ⟨P1, e1⟩ := ppath_eq hl cw hP j (by omega)
    obtain ⟨k, hk⟩ : ∃ k, w = j + (k + 1) := ⟨w - j - 1, by omega⟩
    rw [show w - j = k + 1 by omega] at P1 e1
    rw [show w - (j + 1) = k by omega]
    have st := P1.step (by omega) (bitb k c)
    rw [← lev_eq l hk, ← div_bit c k] at st
    have ea : apath w l c (j + 1) = goto (lev w l j) (apath w l c j) (bitb k c) := by rw [apath, show w - j - 1 = k by omega]
    have ep : ppath w l c P (j + 1) = goto (lev w l j) (ppath w l c P j) (bitb k c) := by rw [ppath, show w - j - 1 = k by omega]
    rw [ea, ep, e1]
    exact st
/-- The number stands at its place on all levels. -/
theorem ppath_part {w : Nat} {l : List Int} {c : Int} {P : Nat} (hP : P < l.length) (hc : rd l P = c) : ∀ j, j ≤ w → Part (Bs.rowAt w l (w - j)) (ppath w l c P j) [c]
  | 0, _ => by
    rw [Nat.sub_zero, rowAt_top, ppath]
    have h1 := Part.of_take (r := l) (a := P) (b := P + 1) (by omega) (by omega)
    have h2 : (l.take (P + 1)).drop P = [c] := by
      rw [List.drop_take, show P + 1 - P = 1 by omega, drop_rd hP]; simp [hc]
    rw [h2] at h1; exact h1
  | j + 1, hj => by
    have P1 := ppath_part (w := w) hP hc j (by omega)
    obtain ⟨k, hk⟩ : ∃ k, w = j + (k + 1) := ⟨w - j - 1, by omega⟩
    rw [show w - j = k + 1 by omega] at P1
    rw [show w - (j + 1) = k by omega, ppath, show w - j - 1 = k by omega]
    have st := P1.down k (bitb k c)
    have e1 : ([c].filter fun y => bitb k y == bitb k c) = [c] := by simp
    rw [e1, ← rowAt_step w l k (show k < w by omega), ← lev_eq l hk] at st
    exact st.1
noncomputable abbrev sx : Code := codeAt (fnCode Try.f37) ([1, 1, 1, 1, 0, 1, 0] ++ [0])
noncomputable abbrev sy : Code := codeAt (fnCode Try.f37) ([1, 1, 1, 1, 0, 1, 0] ++ [1])
noncomputable abbrev sobj (N : Nat) (st : LSt) : AObj := .loop [(9, .ptr (some (N + 2, 0))), (4, .ptr (some (N + 1, 0))), (3, .ptr (some (N, 0)))] [45, 46] sx sy (Func.ntmps Try.f37) st
/-- What holds between rounds. -/
structure SelI (σ : Store) (p : Ptr) (hl : Hdl) (c : Int) (w : Nat) (l : List Int) (P : Nat) (m : Nat) (st : LSt) (s : Store) : Prop where
  kk : Kp σ.objs.length σ s
  r0 : s.Row σ.objs.length 1 [.ptr p]
  r1 : s.Row (σ.objs.length + 1) 1 [.int .i64 c]
  r2 : s.Row (σ.objs.length + 2) 1 [.int .i64 (ppath w l c P m)]
  r3 : s.Row (σ.objs.length + 3) 1 [.slice hl]
  r4 : s.objs[σ.objs.length + 4]? = some (sobj σ.objs.length st)
theorem SelI.set {σ : Store} {p : Ptr} {hl : Hdl} {c : Int} {w : Nat} {l : List Int} {P m : Nat} {st st' : LSt} {s : Store} (I : SelI σ p hl c w l P m st s) : SelI σ p hl c w l P m st' (s.setO (σ.objs.length + 4) (sobj σ.objs.length st')) := by
  have hlt : σ.objs.length + 4 < s.objs.length := (List.getElem?_eq_some_iff.1 I.r4).1
  exact ⟨I.kk.setO (by omega), I.r0.setO_ne (by omega), I.r1.setO_ne (by omega), I.r2.setO_ne (by omega), I.r3.setO_ne (by omega), by rw [setO_get _ _ _ hlt, if_pos rfl]⟩
theorem sel_round {σ : Store} {p : Ptr} {hl : Hdl} {c : Int} {w : Nat} {l : List Int} {P m : Nat} {s : Store} {q : Ptr} (M : Mat σ p l w) (hp : σ.prot ≤ σ.objs.length) (hm : m < w) (hP : P < l.length) (hc : rd l P = c) (hq : Vec σ q (lev w l m)) (I : SelI σ p hl c w l P (m + 1) .ready s) :
    ∃ s', RunsY Try.prog (σ.objs.length + 4) [.int .i64 m, .ptr q] s (.bool true) s' ∧ SelI σ p hl c w l P m .ready s' := by
  obtain ⟨N, hN⟩ : ∃ N, N = σ.objs.length := ⟨_, rfl⟩
  obtain ⟨k, hk⟩ : ∃ k, w = m + (k + 1) := ⟨w - m - 1, by omega⟩
  have hcl : c ∈ l := by rw [← hc]; exact rd_mem (by omega) (by omega)
  have c0 := (M.rng c hcl).1
  have cw := M.nat c hcl
  have hw := M.wid
  have sm := M.small
  have p24 : 2 ^ w ≤ 2 ^ 24 := Nat.pow_le_pow_right (by omega) hw.2
  have Ib := I.set (st' := .busy)
  obtain ⟨sb, hsb⟩ : ∃ x, x = s.setO (σ.objs.length + 4) (sobj σ.objs.length .busy) := ⟨_, rfl⟩
  rw [← hsb] at Ib
  have Mb : Mat sb p l w := M.kp Ib.kk
  have Vb : Vec sb q (lev w l m) := hq.kp Ib.kk
  obtain ⟨b, hl_, rfl, e0, e1, e2, ln, _⟩ := Mb.facts
  have f0 : sb.ldPtr (some (σ.objs.length, 0)) = some (some (b, 0)) := by simp only [Store.ldPtr, Ib.r0.cell]; simp
  have f1 : sb.ldInt .i64 (some (σ.objs.length + 1, 0)) = some c := by simp only [Store.ldInt, Ib.r1.cell]; simp
  have f2 : sb.ldInt .i64 (some (σ.objs.length + 2, 0)) = some ((ppath w l c P (m + 1) : Nat) : Int) := by simp only [Store.ldInt, Ib.r2.cell]; simp
  have pt := ppath_part (w := w) hP hc m (by omega)
  rw [show w - m = k + 1 by omega] at pt
  have bt := bitAt_lev hk pt
  have ple := pt.le
  rw [rowAt_length] at ple
  simp only [List.length_cons, List.length_nil] at ple
  have ll := lev_length w l m
  have ep : ppath w l c P (m + 1) = goto (lev w l m) (ppath w l c P m) (bitb k c) := by rw [ppath, show w - m - 1 = k by omega]
  have wk : IntKind.wrap .i64 (IntKind.wrap .i64 ((w : Int) - 1) - m) = (k : Nat) := by rw [wrap64 (x := (w : Int) - 1) (by omega) (by omega), wrap64 (by omega) (by omega)]; omega
  have k0 : (0 : Int) ≤ (k : Nat) := by omega
  have hpb : sb.prot ≤ σ.objs.length := by rw [Ib.kk.prot]; exact hp
  have lb : σ.objs.length + 4 < sb.objs.length := (List.getElem?_eq_some_iff.1 Ib.r4).1
  -- the place found
  have found : ∃ sc, Ev (fun kk => roundY Try.prog (gm Try.prog kk) drawn kk Try.f37 [1, 1, 1, 1, 0, 1, 0] [(11, .ptr q), (10, .int .i64 m), (9, .ptr (some (σ.objs.length + 2, 0))), (4, .ptr (some (σ.objs.length + 1, 0))), (3, .ptr (some (σ.objs.length, 0)))] sb)
      (.normal, sc) ∧ SelI σ (some (b, 0)) hl c w l P m .busy sc := by
    have fin : ∀ s2 : Store, Kp sb.objs.length sb s2 → ∃ sc, s2.stL (some (σ.objs.length + 2, 0)) [.int .i64 (ppath w l c P m : Nat)] 0 = some sc ∧ SelI σ (some (b, 0)) hl c w l P m .busy sc := fun s2 K2 => by
      have R2 := Ib.r2.kp K2 (by omega)
      have t := st_cell R2 (by rw [K2.prot]; omega) (o := 0) (by simp) (v := .int .i64 (ppath w l c P m : Nat)) rfl
      refine ⟨_, t, ⟨(Ib.kk.trans (K2.mono (by omega))).setO (by omega), (Ib.r0.kp K2 (by omega)).setO_ne (by omega), (Ib.r1.kp K2 (by omega)).setO_ne (by omega), Store.Row.setO_eq R2.lt, (Ib.r3.kp K2 (by omega)).setO_ne (by omega), ?_⟩⟩
      show (s2.objs.set (σ.objs.length + 2) _)[σ.objs.length + 4]? = _
      rw [List.getElem?_set, if_neg (by omega), K2.keep _ lb]; exact Ib.r4
    cases hb : bitb k c with
    | true =>
      have bt' := bit_on c0 (by omega) (by omega) hb
      have btd := decide_eq_true bt'
      rw [hb] at bt ep
      obtain ⟨s2, ⟨n1, r1⟩, K2⟩ := select1_run Vb (i := ppath w l c P m) (by omega) bt
      obtain ⟨n2, r2⟩ := vec_len (Vb.keep (σ' := { sb with prot := sb.objs.length }) fun _ _ => rfl)
      obtain ⟨n3, r3⟩ := vec_zeros (Vb.keep (σ' := { sb with prot := sb.objs.length }) fun _ _ => rfl) ((lev w l m).length : Nat)
      rw [Int.toNat_natCast] at r3
      obtain ⟨sc, ts, Isc⟩ := fin s2 K2
      have gl := goto_le (lev w l m) (ppath w l c P m) true
      have wz : IntKind.wrap .i64 ((ppath w l c P (m + 1) : Nat) - (zerosTo (lev w l m) (lev w l m).length : Nat)) = (onesTo (lev w l m) (ppath w l c P m) : Nat) := by
        rw [ep]; unfold goto at gl ⊢; simp only [if_true] at gl ⊢
        rw [wrap64 (by omega) (by omega)]; omega
      refine ⟨sc, ⟨n1 + n2 + n3, fun kk hkk => ?_⟩, Isc⟩
      have r1 := r1 kk (by omega)
      have r2 := r2 kk (by omega)
      have r3 := r3 kk (by omega)
      simp only at r1 r2 r3
      have r2 := callG_same r2
      have r3 := callG_same r3
      simp only [f37b_RY1111010]
      simp only [Option.bind_some, decide_eq_true_eq, decide_eq_false_iff_not, Bool.not_eq_true', Bool.not_true, Bool.not_false, Bool.false_eq_true, Bool.true_eq_false, Bool.not_eq_eq_eq_not, beq_self_eq_true, beqFT, beqTF, decide_true, decide_false, not_false_eq_true, not_true_eq_false, ne_eq, true_and, and_true, false_and, and_false, and_self, if_true, if_false, ite_true, ite_false, Bool.and_true, Bool.and_false, Bool.true_and, Bool.false_and, Bool.or_true, Bool.true_or, Bool.or_false, Bool.false_or, or_true, true_or, or_false, false_or, or_self, AV.asInt, AV.asBool, AV.asSl, AV.asPtr, AV.asFn, AV.asStr, AV.asMap, AV.asIfc, AV.item, List.length_cons, List.length_nil, List.getElem?_cons_zero, List.getElem?_cons_succ, Nat.zero_add, f1, f0, e1, wk, k0, btd, bt', f2, r2, r3, wz, r1, ts]
    | false =>
      have bt' := bit_off c0 (by omega) (by omega) hb
      have btd := decide_eq_false bt'
      rw [hb] at bt ep
      obtain ⟨s2, ⟨n1, r1⟩, K2⟩ := select0_run Vb (i := ppath w l c P m) (by omega) bt
      obtain ⟨sc, ts, Isc⟩ := fin s2 K2
      have ez : (ppath w l c P (m + 1)) = zerosTo (lev w l m) (ppath w l c P m) := by rw [ep]; simp [goto]
      rw [ez] at f2
      refine ⟨sc, ⟨n1, fun kk hkk => ?_⟩, Isc⟩
      have r1 := r1 kk (by omega)
      simp only at r1
      simp only [f37b_RY1111010]
      simp only [Option.bind_some, decide_eq_true_eq, decide_eq_false_iff_not, Bool.not_eq_true', Bool.not_true, Bool.not_false, Bool.false_eq_true, Bool.true_eq_false, Bool.not_eq_eq_eq_not, beq_self_eq_true, beqFT, beqTF, decide_true, decide_false, not_false_eq_true, not_true_eq_false, ne_eq, true_and, and_true, false_and, and_false, and_self, if_true, if_false, ite_true, ite_false, Bool.and_true, Bool.and_false, Bool.true_and, Bool.false_and, Bool.or_true, Bool.true_or, Bool.or_false, Bool.false_or, or_true, true_or, or_false, false_or, or_self, AV.asInt, AV.asBool, AV.asSl, AV.asPtr, AV.asFn, AV.asStr, AV.asMap, AV.asIfc, AV.item, List.length_cons, List.length_nil, List.getElem?_cons_zero, List.getElem?_cons_succ, Nat.zero_add, f1, f0, e1, wk, k0, btd, bt', f2, r1, ts]
  obtain ⟨sc, ev, Isc⟩ := found
  have hx : ∀ k, evCode Try.prog (gm Try.prog k) drawn k (Func.ntmps Try.f37) false sx ⟨liveC sy ⟨0, 0, []⟩, 0, []⟩ (roundFr [45, 46] [.int .i64 m, .ptr q] [(9, .ptr (some (σ.objs.length + 2, 0))), (4, .ptr (some (σ.objs.length + 1, 0))), (3, .ptr (some (σ.objs.length, 0)))]) s (fun e φ1 σ1 => some ((e, φ1, σ1) : LX)) =
      some (.normal, [(11, .ptr q), (10, .int .i64 m), (46, .ptr q), (45, .int .i64 m), (9, .ptr (some (σ.objs.length + 2, 0))), (4, .ptr (some (σ.objs.length + 1, 0))), (3, .ptr (some (σ.objs.length, 0)))], s) := fun k => f37b_RX1111010 (gm Try.prog k) k s _ _ _ _ _
  refine ⟨sc.setO (σ.objs.length + 4) (sobj σ.objs.length .ready), RunsY.intro I.r4 (by rw [I.kk.prot]; omega) rfl (by kernel_rfl) hx ?_ Isc.r4, Isc.set⟩
  obtain ⟨n, ev⟩ := ev
  refine ⟨n, fun kk hkk => ?_⟩
  have ev := ev kk hkk
  simp only at ev
  have hsel : Fr.sel [(11, AV.ptr q), (10, AV.int .i64 m), (46, AV.ptr q), (45, AV.int .i64 m), (9, AV.ptr (some (σ.objs.length + 2, 0))), (4, AV.ptr (some (σ.objs.length + 1, 0))), (3, AV.ptr (some (σ.objs.length, 0)))] (liveC sy ⟨0, 0, []⟩) (Func.ntmps Try.f37) = [(11, .ptr q), (10, .int .i64 m), (9, .ptr (some (σ.objs.length + 2, 0))), (4, .ptr (some (σ.objs.length + 1, 0))), (3, .ptr (some (σ.objs.length, 0)))] := by kernel_rfl
  rw [hsel]
  rw [hsb] at ev
  exact ev
end Go.Ab

/- Where a number stands: Select of a matrix, whole. -/
namespace Go.Ab
open Go Go.Proofs Go.Ab.Wd Go.Ab.Bs Go.Ab.Sai
set_option linter.unusedVariables false
set_option linter.unusedSimpArgs false
theorem exists_kth (p : Int → Bool) : ∀ (l : List Int) (k : Nat), k < Bs.cnt p l → ∃ P : Nat, P < l.length ∧ p (rd l P) = true ∧ Bs.cnt p (l.take P) = k
  | [], k, h => by simp [Bs.cnt] at h
  | x :: l, k, h => by
    rw [Bs.cnt_cons] at h
    have e : ∀ P : Nat, P < l.length → rd (x :: l) ((P + 1 : Nat) : Int) = rd l (P : Int) := fun P hP => by rw [rd_getElem (by simp; omega), rd_getElem hP]; simp
    by_cases hx : p x = true
    · rw [if_pos hx] at h
      cases k with
      | zero => exact ⟨0, by simp, by rw [rd_getElem (by simp)]; simpa using hx, by simp [Bs.cnt]⟩
      | succ k =>
        obtain ⟨P, h1, h2, h3⟩ := exists_kth p l k (by omega)
        refine ⟨P + 1, by simp; omega, by rw [e P h1]; exact h2, ?_⟩
        rw [List.take_succ_cons, Bs.cnt_cons, if_pos hx, h3]; omega
    · rw [if_neg hx] at h
      obtain ⟨P, h1, h2, h3⟩ := exists_kth p l k (by omega)
      refine ⟨P + 1, by simp; omega, by rw [e P h1]; exact h2, ?_⟩
      rw [List.take_succ_cons, Bs.cnt_cons, if_neg hx, h3]; omega
theorem kth_uniq {p : Int → Bool} {l : List Int} {P Q : Nat} (hP : P < l.length) (hQ : Q < l.length) (h1 : p (rd l P) = true) (h2 : p (rd l Q) = true) (h : Bs.cnt p (l.take P) = Bs.cnt p (l.take Q)) : P = Q := by
  have mono : ∀ {i j : Nat}, i ≤ j → Bs.cnt p (l.take i) ≤ Bs.cnt p (l.take j) := fun {i j} hij => by
    rw [show l.take j = l.take i ++ (l.drop i).take (j - i) by rw [← List.take_add]; congr 1; omega, cnt_append]; omega
  have sP := cnt_take_succ p hP
  have sQ := cnt_take_succ p hQ
  rw [if_pos h1] at sP
  rw [if_pos h2] at sQ
  rcases Nat.lt_trichotomy P Q with c | c | c
  · have := mono (i := P + 1) (j := Q) (by omega); omega
  · exact c
  · have := mono (i := Q + 1) (j := P) (by omega); omega
section
variable {σ : Store} {p : Ptr} {l : List Int} {w : Nat}
theorem sel_back {hl : Hdl} {ps : List Ptr} {c : Int} {P : Nat} {s : Store} (M : Mat σ p l w) (hp : σ.prot ≤ σ.objs.length) (S : σ.Sl hl 1 (ptrsL ps)) (lp : ps.length = w) (V : ∀ j, j < w → ∃ q, ps[j]? = some q ∧ Vec σ q (lev w l j)) (hP : P < l.length) (hc : rd l P = c) (I : SelI σ p hl c w l P w .ready s) :
    ∃ s', Runs Try.prog 78 [.yld (σ.objs.length + 4), .ptr (some (σ.objs.length + 3, 0))] s (.tuple []) s' ∧ SelI σ p hl c w l P 0 .ready s' := by
  have hw := M.wid
  have hll : hl.len = w := by have := S.len; simp at this; omega
  have e3 : ∀ {m : Nat} {s1 : Store}, SelI σ p hl c w l P m .ready s1 → s1.ldSl (some (σ.objs.length + 3, 0)) = some hl := fun {m s1} I => by simp only [Store.ldSl, I.r3.cell]; simp
  obtain ⟨r, e, s', rfl, I'⟩ := EvI.downX (f := fun k s => stepF Try.prog (gm Try.prog k) drawn k Try.f78 [1, 0] [3, 1, 0] s)
    (fun m st => ∃ s1, st = ([.int .i64 ((m : Int) - 1), .ptr (some (σ.objs.length + 3, 0)), .yld (σ.objs.length + 4)], s1) ∧ m ≤ w ∧ SelI σ p hl c w l P m .ready s1)
    (fun r => ∃ s1, r = (AX.exit 0, [], s1) ∧ SelI σ p hl c w l P 0 .ready s1)
    (by
      rintro m st ⟨s1, rfl, hm, I1⟩
      have em : ((m + 1 : Nat) : Int) - 1 = m := by omega
      rw [em]
      obtain ⟨q, hq, vq⟩ := V m (by omega)
      obtain ⟨s2, ⟨n1, r1⟩, I2⟩ := sel_round M hp (by omega) hP hc vq I1
      have g := ptrs_rd (Store.Sl.kp S I1.kk) hq
      have i0 : (0 : Int) ≤ m := by omega
      have i1 : (m : Int) < hl.len := by omega
      have w1 : IntKind.wrap .i64 ((m : Int) - 1) = m - 1 := wrap64 (by omega) (by omega)
      refine .inl ⟨_, ⟨n1, fun k hk => ?_⟩, s2, rfl, by omega, I2⟩
      have r1 := r1 k hk
      simp only at r1
      simp only [f78_L10]
      simp only [Option.bind_some, decide_eq_true_eq, decide_eq_false_iff_not, Bool.not_eq_true', Bool.not_true, Bool.not_false, Bool.false_eq_true, Bool.true_eq_false, Bool.not_eq_eq_eq_not, beq_self_eq_true, beqFT, beqTF, decide_true, decide_false, not_false_eq_true, not_true_eq_false, ne_eq, true_and, and_true, false_and, and_false, and_self, if_true, if_false, ite_true, ite_false, Bool.and_true, Bool.and_false, Bool.true_and, Bool.false_and, Bool.or_true, Bool.true_or, Bool.or_false, Bool.false_or, or_true, true_or, or_false, false_or, or_self, AV.asInt, AV.asBool, AV.asSl, AV.asPtr, AV.asFn, AV.asStr, AV.asMap, AV.asIfc, AV.item, List.length_cons, List.length_nil, List.getElem?_cons_zero, List.getElem?_cons_succ, Nat.zero_add, i0, e3 I1, i1, g, r1, w1])
    (by
      rintro st ⟨s1, rfl, _, I1⟩
      have c1 : ¬ (0 : Int) ≤ ((0 : Nat) : Int) - 1 := by omega
      exact ⟨(AX.exit 0, [], s1), Ev.of fun k => by simp only [f78_L10]; simp only [Option.bind_some, decide_eq_true_eq, decide_eq_false_iff_not, Bool.not_eq_true', Bool.not_true, Bool.not_false, Bool.false_eq_true, Bool.true_eq_false, Bool.not_eq_eq_eq_not, beq_self_eq_true, beqFT, beqTF, decide_true, decide_false, not_false_eq_true, not_true_eq_false, ne_eq, true_and, and_true, false_and, and_false, and_self, if_true, if_false, ite_true, ite_false, Bool.and_true, Bool.and_false, Bool.true_and, Bool.false_and, Bool.or_true, Bool.true_or, Bool.or_false, Bool.false_or, or_true, true_or, or_false, false_or, or_self, AV.asInt, AV.asBool, AV.asSl, AV.asPtr, AV.asFn, AV.asStr, AV.asMap, AV.asIfc, AV.item, List.length_cons, List.length_nil, List.getElem?_cons_zero, List.getElem?_cons_succ, Nat.zero_add, c1], s1, rfl, I1⟩)
    w (s := ([.int .i64 ((w : Int) - 1), .ptr (some (σ.objs.length + 3, 0)), .yld (σ.objs.length + 4)], s)) ⟨s, rfl, Nat.le_refl _, I⟩
  refine ⟨s', Runs.intro (fn := Try.f78) (by kernel_rfl) (by kernel_rfl) ?_, I'⟩
  have w1 : IntKind.wrap .i64 ((hl.len : Int) - 1) = (w : Int) - 1 := by rw [hll, wrap64 (by omega) (by omega)]
  refine (Ev.bind (loopF_ev e) (Ev.of fun k => f78_X10_2 (gm Try.prog k) k s')).congr fun k => ?_
  simp only [f78_eq]
  simp only [Option.bind_some, decide_eq_true_eq, decide_eq_false_iff_not, Bool.not_eq_true', Bool.not_true, Bool.not_false, Bool.false_eq_true, Bool.true_eq_false, Bool.not_eq_eq_eq_not, beq_self_eq_true, beqFT, beqTF, decide_true, decide_false, not_false_eq_true, not_true_eq_false, ne_eq, true_and, and_true, false_and, and_false, and_self, if_true, if_false, ite_true, ite_false, Bool.and_true, Bool.and_false, Bool.true_and, Bool.false_and, Bool.or_true, Bool.true_or, Bool.or_false, Bool.false_or, or_true, true_or, or_false, false_or, or_self, AV.asInt, AV.asBool, AV.asSl, AV.asPtr, AV.asFn, AV.asStr, AV.asMap, AV.asIfc, AV.item, List.length_cons, List.length_nil, List.getElem?_cons_zero, List.getElem?_cons_succ, Nat.zero_add, e3 I, w1]
theorem matSelect_run (M : Mat σ p l w) (hp : σ.prot ≤ σ.objs.length) (c k : Int) :
    ∃ (r : Int) (σ' : Store), Runs Try.prog 37 [.ptr p, .int .i64 c, .int .i64 k] σ (.int .i64 r) σ' ∧ Kp σ.objs.length σ σ' ∧ (∀ P : Nat, P < l.length → rd l P = c → k = (Bs.cnt (fun x => decide (x = c)) (l.take P) : Nat) → r = P) ∧ (¬ (0 ≤ k ∧ k < Bs.cnt (fun x => decide (x = c)) l) → r = -1) := by
  have hw := M.wid
  have sm := M.small
  obtain ⟨σ1, h1⟩ : ∃ s, s = (σ.push [.ptr p] 1).push [.int .i64 c] 1 := ⟨_, rfl⟩
  have K1 : Kp σ.objs.length σ σ1 := by rw [h1]; exact (Kp.push _ _ (Nat.le_refl _)).push' (by simp)
  have len1 : σ1.objs.length = σ.objs.length + 2 := by rw [h1]; simp
  have lpush : (σ.push [.ptr p] 1).objs.length = σ.objs.length + 1 := by simp
  have R0 : σ1.Row σ.objs.length 1 [.ptr p] := by rw [h1]; exact Store.Row.new.push
  have R1 : σ1.Row (σ.objs.length + 1) 1 [.int .i64 c] := by
    rw [h1]; have := (Store.Row.new : ((σ.push [.ptr p] 1).push [.int .i64 c] 1).Row _ 1 _); simpa using this
  have f0 : σ1.ldPtr (some (σ.objs.length, 0)) = some p := by simp only [Store.ldPtr, R0.cell]; simp
  have f1 : σ1.ldInt .i64 (some (σ.objs.length + 1, 0)) = some c := by simp only [Store.ldInt, R1.cell]; simp
  have M1 := M.kp K1
  obtain ⟨n1, r1⟩ := has_run M1 c
  have exP : ∀ P : Nat, P < l.length → rd l P = c → Bs.cnt (fun x => decide (x = c)) (l.take P) < Bs.cnt (fun x => decide (x = c)) l := fun P hP hc => by
    have s1 := cnt_take_succ (fun x => decide (x = c)) hP
    rw [if_pos (by simpa using hc)] at s1
    have := cnt_take_le (fun x => decide (x = c)) l (P + 1)
    omega
  by_cases hh : 0 ≤ c ∧ c.toNat < 2 ^ w
  case neg =>
    rw [decide_eq_false hh] at r1
    have hno : ∀ P : Nat, P < l.length → rd l P ≠ c := fun P hP e => by
      have hx : rd l P ∈ l := rd_mem (by omega) (by omega)
      rw [e] at hx
      exact hh ⟨(M.rng c hx).1, M.nat c hx⟩
    refine ⟨-1, σ1, Runs.intro (fn := Try.f37) (by kernel_rfl) (by kernel_rfl) ⟨n1, fun m hm => ?_⟩, K1, fun P hP hc => absurd hc (hno P hP), fun _ => rfl⟩
    have r1 := r1 m hm
    simp only at r1
    simp only [f37b_eq]
    simp only [Option.bind_some, decide_eq_true_eq, decide_eq_false_iff_not, Bool.not_eq_true', Bool.not_true, Bool.not_false, Bool.false_eq_true, Bool.true_eq_false, Bool.not_eq_eq_eq_not, beq_self_eq_true, beqFT, beqTF, decide_true, decide_false, not_false_eq_true, not_true_eq_false, ne_eq, true_and, and_true, false_and, and_false, and_self, if_true, if_false, ite_true, ite_false, Bool.and_true, Bool.and_false, Bool.true_and, Bool.false_and, Bool.or_true, Bool.true_or, Bool.or_false, Bool.false_or, or_true, true_or, or_false, false_or, or_self, AV.asInt, AV.asBool, AV.asSl, AV.asPtr, AV.asFn, AV.asStr, AV.asMap, AV.asIfc, AV.item, List.length_cons, List.length_nil, List.getElem?_cons_zero, List.getElem?_cons_succ, Nat.zero_add, ← h1, lpush, f0, f1, r1]
  rw [decide_eq_true hh] at r1
  by_cases c1 : k < 0
  · refine ⟨-1, σ1, Runs.intro (fn := Try.f37) (by kernel_rfl) (by kernel_rfl) ⟨n1, fun m hm => ?_⟩, K1, fun P hP hc hk => by omega, fun _ => rfl⟩
    have r1 := r1 m hm
    simp only at r1
    simp only [f37b_eq]
    simp only [Option.bind_some, decide_eq_true_eq, decide_eq_false_iff_not, Bool.not_eq_true', Bool.not_true, Bool.not_false, Bool.false_eq_true, Bool.true_eq_false, Bool.not_eq_eq_eq_not, beq_self_eq_true, beqFT, beqTF, decide_true, decide_false, not_false_eq_true, not_true_eq_false, ne_eq, true_and, and_true, false_and, and_false, and_self, if_true, if_false, ite_true, ite_false, Bool.and_true, Bool.and_false, Bool.true_and, Bool.false_and, Bool.or_true, Bool.true_or, Bool.or_false, Bool.false_or, or_true, true_or, or_false, false_or, or_self, AV.asInt, AV.asBool, AV.asSl, AV.asPtr, AV.asFn, AV.asStr, AV.asMap, AV.asIfc, AV.item, List.length_cons, List.length_nil, List.getElem?_cons_zero, List.getElem?_cons_succ, Nat.zero_add, ← h1, lpush, f0, f1, r1, c1]
  obtain ⟨b, hl, rfl, e0, e1, e2, ln, _⟩ := M1.facts
  obtain ⟨n2, r2⟩ := matRank_run M1 c l.length
  rw [Int.toNat_natCast, List.take_length] at r2
  by_cases c2 : (Bs.cnt (fun x => decide (x = c)) l : Int) ≤ k
  · refine ⟨-1, σ1, Runs.intro (fn := Try.f37) (by kernel_rfl) (by kernel_rfl) ⟨n1 + n2, fun m hm => ?_⟩, K1, fun P hP hc hk => by have := exP P hP hc; omega, fun _ => rfl⟩
    have r1 := r1 m (by omega)
    have r2 := r2 m (by omega)
    simp only at r1 r2
    simp only [f37b_eq]
    simp only [Option.bind_some, decide_eq_true_eq, decide_eq_false_iff_not, Bool.not_eq_true', Bool.not_true, Bool.not_false, Bool.false_eq_true, Bool.true_eq_false, Bool.not_eq_eq_eq_not, beq_self_eq_true, beqFT, beqTF, decide_true, decide_false, not_false_eq_true, not_true_eq_false, ne_eq, true_and, and_true, false_and, and_false, and_self, if_true, if_false, ite_true, ite_false, Bool.and_true, Bool.and_false, Bool.true_and, Bool.false_and, Bool.or_true, Bool.true_or, Bool.or_false, Bool.false_or, or_true, true_or, or_false, false_or, or_self, AV.asInt, AV.asBool, AV.asSl, AV.asPtr, AV.asFn, AV.asStr, AV.asMap, AV.asIfc, AV.item, List.length_cons, List.length_nil, List.getElem?_cons_zero, List.getElem?_cons_succ, Nat.zero_add, ← h1, lpush, f0, f1, r1, c1, e0, r2, c2]
  obtain ⟨P, hP, hPc, hPk⟩ := exists_kth (fun x => decide (x = c)) l k.toNat (by omega)
  have hPc : rd l P = c := by simpa using hPc
  obtain ⟨⟨n3, r3⟩, _⟩ := span_run M1 hh.1 hh.2 (i := 0) (by omega)
  obtain ⟨_, ppe⟩ := ppath_eq (c := c) (P := P) M.nat hh.2 (by omega) w (Nat.le_refl _)
  rw [Nat.sub_self, Nat.pow_zero, Nat.div_one, filt_nat (fun x hx => (M.rng x (List.mem_of_mem_take hx)).1) hh.1, hPk] at ppe
  have pl := (ppath_part (w := w) hP hPc w (Nat.le_refl _)).le
  rw [rowAt_length] at pl
  simp only [List.length_cons, List.length_nil] at pl
  have wa : IntKind.wrap .i64 (((apath w l c w : Nat) : Int) + k) = (ppath w l c P w : Nat) := by rw [wrap64 (by omega) (by omega)]; omega
  -- the cell of the place
  have R2n : (σ1.push [.int .i64 0] 1).Row (σ.objs.length + 2) 1 [.int .i64 0] := by
    have := (Store.Row.new : (σ1.push [.int .i64 0] 1).Row _ 1 _); rwa [len1] at this
  have t3 := st_cell R2n (by simp only [push_prot]; rw [K1.prot]; omega) (o := 0) (by simp) (v := .int .i64 (ppath w l c P w : Nat)) rfl
  obtain ⟨σ3, h3⟩ : ∃ s, s = (σ1.push [.int .i64 0] 1).setO (σ.objs.length + 2) (.cells ([.int .i64 0].set 0 (.int .i64 (ppath w l c P w : Nat))) true 1) := ⟨_, rfl⟩
  rw [← h3] at t3
  have K3 : Kp (σ.objs.length + 2) σ1 σ3 := by rw [h3, ← len1]; exact (Kp.push _ _ (Nat.le_refl _)).setO (by omega)
  have len3 : σ3.objs.length = σ.objs.length + 3 := by rw [h3]; simp [len1]
  have R23 : σ3.Row (σ.objs.length + 2) 1 [.int .i64 (ppath w l c P w : Nat)] := by rw [h3]; exact Store.Row.setO_eq R2n.lt
  have R03 := R0.kp K3 (by omega)
  have R13 := R1.kp K3 (by omega)
  have f03 : σ3.ldPtr (some (σ.objs.length, 0)) = some (some (b, 0)) := by simp only [Store.ldPtr, R03.cell]; simp
  obtain ⟨bb, hlx, ps, eb, RM, S, lp, V⟩ := M.ex
  injection eb with eb; injection eb with eb _; subst eb
  have K03 : Kp σ.objs.length σ σ3 := K1.trans (K3.mono (by omega))
  have e23 := row_sl (RM.kp K03 RM.lt) (o := 2) rfl
  -- Backward
  obtain ⟨σ4, h4⟩ : ∃ s, s = σ3.push [.slice hlx] 1 := ⟨_, rfl⟩
  have K4 : Kp σ3.objs.length σ3 σ4 := by rw [h4]; exact Kp.push _ _ (Nat.le_refl _)
  have len4 : σ4.objs.length = σ.objs.length + 4 := by rw [h4]; simp [len3]
  have rB : Runs Try.prog 61 [.slice hlx] σ3 (.func 78 [] [.ptr (some (σ.objs.length + 3, 0))]) σ4 :=
    Runs.intro (fn := Try.f61) (by kernel_rfl) (by kernel_rfl) (Ev.of fun m => by rw [f61_eq, h4, len3])
  obtain ⟨n4, r4⟩ := rB
  obtain ⟨σ5, h5⟩ : ∃ s : Store, s = { σ4 with objs := σ4.objs ++ [sobj σ.objs.length .ready] } := ⟨_, rfl⟩
  have g5 : ∀ x, x < σ4.objs.length → σ5.objs[x]? = σ4.objs[x]? := fun x hx => by rw [h5]; exact List.getElem?_append_left hx
  have K5 : Kp σ4.objs.length σ4 σ5 := ⟨by rw [h5], by rw [h5]; simp, g5⟩
  have I5 : SelI σ (some (b, 0)) hlx c w l P w .ready σ5 := by
    have K35 : Kp σ3.objs.length σ3 σ5 := K4.all K5
    refine ⟨K03.trans (K35.mono (by omega)), R03.kp K35 (by omega), R13.kp K35 (by omega), R23.kp K35 (by omega), ?_, ?_⟩
    · have : σ4.Row σ3.objs.length 1 [.slice hlx] := by rw [h4]; exact Store.Row.new
      rw [len3] at this
      exact this.kp K5 (by omega)
    · rw [h5, ← len4]; simp
  obtain ⟨σ6, r6, I6⟩ := sel_back M hp S lp V hP hPc I5
  obtain ⟨n6, g6⟩ := range_ev (P := Try.prog) (g := 78) (a := []) (b := [.ptr (some (σ.objs.length + 3, 0))]) (φ := [(9, .ptr (some (σ.objs.length + 2, 0))), (4, .ptr (some (σ.objs.length + 1, 0))), (3, .ptr (some (σ.objs.length, 0)))]) (ps := [45, 46]) (x := sx) (y := sy) (nt := Func.ntmps Try.f37) (σ := σ4) (σ' := σ6) (by rw [len4, ← h5]; exact r6) (by rw [len4]; exact I6.r4)
  rw [len4] at g6
  have hlt6 : σ.objs.length + 4 < σ6.objs.length := (List.getElem?_eq_some_iff.1 I6.r4).1
  obtain ⟨σ7, h7⟩ : ∃ s, s = σ6.setO (σ.objs.length + 4) .dead := ⟨_, rfl⟩
  rw [← h7] at g6
  have R27 : σ7.Row (σ.objs.length + 2) 1 [.int .i64 (P : Nat)] := by rw [h7]; exact I6.r2.setO_ne (by omega)
  have f27 : σ7.ldInt .i64 (some (σ.objs.length + 2, 0)) = some (P : Int) := by simp only [Store.ldInt, R27.cell]; simp
  refine ⟨P, σ7, Runs.intro (fn := Try.f37) (by kernel_rfl) (by kernel_rfl) ⟨n1 + n2 + n3 + n4 + n6, fun m hm => ?_⟩, by rw [h7]; exact I6.kk.setO (by omega), fun Q hQ hQc hk => ?_, fun h => by omega⟩
  · have r1 := r1 m (by omega)
    have r2 := r2 m (by omega)
    have r3 := r3 m (by omega)
    have r4 := r4 m (by omega)
    have g6 := g6 m (by omega)
    simp only [Int.natCast_zero] at r1 r2 r3 r4 g6
    simp only [f37b_eq]
    simp only [Option.bind_some, decide_eq_true_eq, decide_eq_false_iff_not, Bool.not_eq_true', Bool.not_true, Bool.not_false, Bool.false_eq_true, Bool.true_eq_false, Bool.not_eq_eq_eq_not, beq_self_eq_true, beqFT, beqTF, decide_true, decide_false, not_false_eq_true, not_true_eq_false, ne_eq, true_and, and_true, false_and, and_false, and_self, if_true, if_false, ite_true, ite_false, Bool.and_true, Bool.and_false, Bool.true_and, Bool.false_and, Bool.or_true, Bool.true_or, Bool.or_false, Bool.false_or, or_true, true_or, or_false, false_or, or_self, AV.asInt, AV.asBool, AV.asSl, AV.asPtr, AV.asFn, AV.asStr, AV.asMap, AV.asIfc, AV.item, List.length_cons, List.length_nil, List.getElem?_cons_zero, List.getElem?_cons_succ, Nat.zero_add, ← h1, lpush, f0, f1, r1, c1, e0, r2, c2, r3, len1, wa, t3, f03, e23, r4]
    refine Eq.trans (congrArg (fun z => Option.bind z _) g6) ?_
    simp only [Option.bind_some, f37b_RC1111010, f27]
  · have := kth_uniq (p := fun x => decide (x = c)) hP hQ (by simpa using hPc) (by simpa using hQc) (by omega)
    omega
end
end Go.Ab

/- The law WaveRanks. -/
namespace Go.Ab
open Go Go.Proofs Go.Ab.Wd Go.Ab.Bs Go.Ab.Sai
set_option linter.unusedVariables false
set_option linter.unusedSimpArgs false
theorem count12_run {σ : Store} {h : Hdl} {l : List Int} (hT : σ.Ints h l) (hn : l.length < 2 ^ 40) (c b : Int) : Runs Try.prog 36 [.slice h, .int .i64 c, .int .i64 0, .int .i64 b] σ (.int .i64 (Bs.cnt (fun x => decide (x = c)) (l.take b.toNat) : Nat)) σ := by
  have ll := hT.ilen
  obtain ⟨r, e, rfl⟩ := EvI.up (f := fun k s => stepF Try.prog (gm Try.prog k) drawn k Try.f36 [1, 1, 0, 1, 0] [14, 13, 12, 9, 3, 2, 1] s) l.length
    (fun i s => s = ([.int .i64 i, .int .i64 l.length, .slice h, .int .i64 (Bs.cnt (fun x => decide (x = c)) (l.take (min i b.toNat)) : Nat), .int .i64 b, .int .i64 0, .int .i64 c], σ))
    (fun r => r = (AX.exit 0, [(9, .int .i64 (Bs.cnt (fun x => decide (x = c)) (l.take b.toNat) : Nat))], σ))
    (by
      rintro i s hi rfl
      have i0 : (0 : Int) ≤ i := by omega
      have i1 : (i : Int) < l.length := by omega
      have w := wsucc hi (by omega)
      have rx := hT.rd i0 i1
      have s1 := cnt_take_succ (fun x => decide (x = c)) hi
      have cl := cnt_le (fun x => decide (x = c)) (l.take (min i b.toNat))
      rw [List.length_take] at cl
      refine ⟨_, Ev.of fun k => ?_, rfl⟩
      simp only [f36_L11010]
      by_cases c1 : (i : Int) < b
      · rw [show min (i + 1) b.toNat = i + 1 by omega, show min i b.toNat = i by omega] at *
        by_cases c2 : rd l i = c
        · rw [if_pos (by simpa using c2)] at s1
          have w2 : IntKind.wrap .i64 ((Bs.cnt (fun x => decide (x = c)) (l.take i) : Nat) + 1) = (Bs.cnt (fun x => decide (x = c)) (l.take i) + 1 : Nat) := by rw [wrap64 (by omega) (by omega)]; omega
          simp only [Option.bind_some, decide_eq_true_eq, decide_eq_false_iff_not, Bool.not_eq_true', Bool.not_true, Bool.not_false, Bool.false_eq_true, Bool.true_eq_false, Bool.not_eq_eq_eq_not, beq_self_eq_true, beqFT, beqTF, decide_true, decide_false, not_false_eq_true, not_true_eq_false, ne_eq, true_and, and_true, false_and, and_false, and_self, if_true, if_false, ite_true, ite_false, Bool.and_true, Bool.and_false, Bool.true_and, Bool.false_and, Bool.or_true, Bool.true_or, Bool.or_false, Bool.false_or, or_true, true_or, or_false, false_or, or_self, AV.asInt, AV.asBool, AV.asSl, AV.asPtr, AV.asFn, AV.asStr, AV.asMap, AV.asIfc, AV.item, List.length_cons, List.length_nil, List.getElem?_cons_zero, List.getElem?_cons_succ, Nat.zero_add, ll, i0, i1, rx, c2, c1, w2, s1, w]
        · rw [if_neg (by simpa using c2)] at s1
          simp only [Option.bind_some, decide_eq_true_eq, decide_eq_false_iff_not, Bool.not_eq_true', Bool.not_true, Bool.not_false, Bool.false_eq_true, Bool.true_eq_false, Bool.not_eq_eq_eq_not, beq_self_eq_true, beqFT, beqTF, decide_true, decide_false, not_false_eq_true, not_true_eq_false, ne_eq, true_and, and_true, false_and, and_false, and_self, if_true, if_false, ite_true, ite_false, Bool.and_true, Bool.and_false, Bool.true_and, Bool.false_and, Bool.or_true, Bool.true_or, Bool.or_false, Bool.false_or, or_true, true_or, or_false, false_or, or_self, AV.asInt, AV.asBool, AV.asSl, AV.asPtr, AV.asFn, AV.asStr, AV.asMap, AV.asIfc, AV.item, List.length_cons, List.length_nil, List.getElem?_cons_zero, List.getElem?_cons_succ, Nat.zero_add, ll, i0, i1, rx, c2, s1, w, Nat.add_zero]
      · rw [show min (i + 1) b.toNat = min i b.toNat by omega]
        by_cases c2 : rd l i = c
        · simp only [Option.bind_some, decide_eq_true_eq, decide_eq_false_iff_not, Bool.not_eq_true', Bool.not_true, Bool.not_false, Bool.false_eq_true, Bool.true_eq_false, Bool.not_eq_eq_eq_not, beq_self_eq_true, beqFT, beqTF, decide_true, decide_false, not_false_eq_true, not_true_eq_false, ne_eq, true_and, and_true, false_and, and_false, and_self, if_true, if_false, ite_true, ite_false, Bool.and_true, Bool.and_false, Bool.true_and, Bool.false_and, Bool.or_true, Bool.true_or, Bool.or_false, Bool.false_or, or_true, true_or, or_false, false_or, or_self, AV.asInt, AV.asBool, AV.asSl, AV.asPtr, AV.asFn, AV.asStr, AV.asMap, AV.asIfc, AV.item, List.length_cons, List.length_nil, List.getElem?_cons_zero, List.getElem?_cons_succ, Nat.zero_add, ll, i0, i1, rx, c2, c1, w]
        · simp only [Option.bind_some, decide_eq_true_eq, decide_eq_false_iff_not, Bool.not_eq_true', Bool.not_true, Bool.not_false, Bool.false_eq_true, Bool.true_eq_false, Bool.not_eq_eq_eq_not, beq_self_eq_true, beqFT, beqTF, decide_true, decide_false, not_false_eq_true, not_true_eq_false, ne_eq, true_and, and_true, false_and, and_false, and_self, if_true, if_false, ite_true, ite_false, Bool.and_true, Bool.and_false, Bool.true_and, Bool.false_and, Bool.or_true, Bool.true_or, Bool.or_false, Bool.false_or, or_true, true_or, or_false, false_or, or_self, AV.asInt, AV.asBool, AV.asSl, AV.asPtr, AV.asFn, AV.asStr, AV.asMap, AV.asIfc, AV.item, List.length_cons, List.length_nil, List.getElem?_cons_zero, List.getElem?_cons_succ, Nat.zero_add, ll, i0, i1, rx, c2, w])
    (by
      rintro s rfl
      have : l.take (min l.length b.toNat) = l.take b.toNat := by
        by_cases c : b.toNat ≤ l.length
        · rw [Nat.min_eq_right c]
        · rw [Nat.min_eq_left (by omega), List.take_length, List.take_of_length_le (by omega)]
      exact ⟨_, Ev.of fun k => by simp only [f36_L11010]; simp only [Option.bind_some, decide_eq_true_eq, decide_eq_false_iff_not, Bool.not_eq_true', Bool.not_true, Bool.not_false, Bool.false_eq_true, Bool.true_eq_false, Bool.not_eq_eq_eq_not, beq_self_eq_true, beqFT, beqTF, decide_true, decide_false, not_false_eq_true, not_true_eq_false, ne_eq, true_and, and_true, false_and, and_false, and_self, if_true, if_false, ite_true, ite_false, Bool.and_true, Bool.and_false, Bool.true_and, Bool.false_and, Bool.or_true, Bool.true_or, Bool.or_false, Bool.false_or, or_true, true_or, or_false, false_or, or_self, AV.asInt, AV.asBool, AV.asSl, AV.asPtr, AV.asFn, AV.asStr, AV.asMap, AV.asIfc, AV.item, List.length_cons, List.length_nil, List.getElem?_cons_zero, List.getElem?_cons_succ, Nat.zero_add, Int.lt_irrefl, this], rfl⟩)
    (s := ([.int .i64 0, .int .i64 l.length, .slice h, .int .i64 0, .int .i64 b, .int .i64 0, .int .i64 c], σ)) (by simp [Bs.cnt])
  refine Runs.intro (fn := Try.f36) (by kernel_rfl) (by kernel_rfl) ?_
  exact (Ev.bind (loopF_ev e) (Ev.of fun k => f36_X11010_1 (gm Try.prog k) k σ _)).congr fun k => by rw [f36_eq, ll]
theorem law_WaveRanks {σ : Store} {h : Hdl} {l : List Int} {c a0 a1 : Int} (hT : σ.Ints h l) (hH : σ.Has h) (hn : l.length < 2 ^ 44) (hw : ∀ n ∈ l, IntKind.min .i64 ≤ n ∧ n ≤ IntKind.max .i64)
    (hc : IntKind.min .i64 ≤ c ∧ c ≤ IntKind.max .i64) (ha0 : IntKind.min .i64 ≤ a0 ∧ a0 ≤ IntKind.max .i64) (ha1 : IntKind.min .i64 ≤ a1 ∧ a1 ≤ IntKind.max .i64) (hp : σ.prot ≤ σ.objs.length) :
    ∃ σ', Runs Try.prog 9 [.slice h, .int .i64 c, .agg [.int .i64 a0, .int .i64 a1]] σ (.bool true) σ' := by
  have ll := hT.ilen
  obtain ⟨σ1, h1⟩ : ∃ s, s = σ.push [.int .i64 a0, .int .i64 a1] 2 := ⟨_, rfl⟩
  have K1 : Kp σ.objs.length σ σ1 := by rw [h1]; exact Kp.push _ _ (Nat.le_refl _)
  have R1 : σ1.Row σ.objs.length 2 [.int .i64 a0, .int .i64 a1] := by rw [h1]; exact Store.Row.new
  have hp1 : σ1.prot ≤ σ1.objs.length := by rw [K1.prot]; have := K1.len; omega
  have hT1 := Store.Sl.kp hT K1
  obtain ⟨k0, r0⟩ := first13_told σ1
  by_cases c0 : (1000 : Int) < h.len
  · refine ⟨σ1, Runs.intro (fn := Try.f9) (by kernel_rfl) (by kernel_rfl) ⟨k0, fun k hk => ?_⟩⟩
    have r0 := r0 k hk
    simp only at r0
    simp only [f9_eq]
    simp only [Option.bind_some, decide_eq_true_eq, decide_eq_false_iff_not, Bool.not_eq_true', Bool.not_true, Bool.not_false, Bool.false_eq_true, Bool.true_eq_false, Bool.not_eq_eq_eq_not, beq_self_eq_true, beqFT, beqTF, decide_true, decide_false, not_false_eq_true, not_true_eq_false, ne_eq, true_and, and_true, false_and, and_false, and_self, if_true, if_false, ite_true, ite_false, Bool.and_true, Bool.and_false, Bool.true_and, Bool.false_and, Bool.or_true, Bool.true_or, Bool.or_false, Bool.false_or, or_true, true_or, or_false, false_or, or_self, AV.asInt, AV.asBool, AV.asSl, AV.asPtr, AV.asFn, AV.asStr, AV.asMap, AV.asIfc, AV.item, List.length_cons, List.length_nil, List.getElem?_cons_zero, List.getElem?_cons_succ, Nat.zero_add, ← h1, r0, c0]
  have ln : l.length ≤ 1000 := by omega
  obtain ⟨k1, r1⟩ := right13_run (al := 300) hT1 (by omega)
  cases hok : okW l 300 with
  | false =>
    rw [hok] at r1
    refine ⟨σ1, Runs.intro (fn := Try.f9) (by kernel_rfl) (by kernel_rfl) ⟨k0 + k1, fun k hk => ?_⟩⟩
    have r0 := r0 k (by omega)
    have r1 := r1 k (by omega)
    simp only at r0 r1
    simp only [f9_eq]
    simp only [Option.bind_some, decide_eq_true_eq, decide_eq_false_iff_not, Bool.not_eq_true', Bool.not_true, Bool.not_false, Bool.false_eq_true, Bool.true_eq_false, Bool.not_eq_eq_eq_not, beq_self_eq_true, beqFT, beqTF, decide_true, decide_false, not_false_eq_true, not_true_eq_false, ne_eq, true_and, and_true, false_and, and_false, and_self, if_true, if_false, ite_true, ite_false, Bool.and_true, Bool.and_false, Bool.true_and, Bool.false_and, Bool.or_true, Bool.true_or, Bool.or_false, Bool.false_or, or_true, true_or, or_false, false_or, or_self, AV.asInt, AV.asBool, AV.asSl, AV.asPtr, AV.asFn, AV.asStr, AV.asMap, AV.asIfc, AV.item, List.length_cons, List.length_nil, List.getElem?_cons_zero, List.getElem?_cons_succ, Nat.zero_add, ← h1, r0, c0, r1]
  | true =>
  rw [hok] at r1
  obtain ⟨p, w, σ2, ⟨k2, r2⟩, K2, M, W, pn⟩ := made_run (most := 300) hT1 hp1 hok
  have hp2 : σ2.prot ≤ σ2.objs.length := by rw [K2.prot]; have := K2.len; omega
  have R2 := R1.kp K2 R1.lt
  have e0 := row_int R2 (o := 0) rfl
  have e1 := row_int R2 (o := 1) rfl
  have hT2 : σ2.Ints h l := Store.Sl.kp hT1 K2
  obtain ⟨r, σ3, ⟨k3, r3⟩, K3, S1, S2⟩ := matSelect_run M hp2 c a1
  obtain ⟨v, hv⟩ : ∃ v : Int, v = if 0 ≤ a0 ∧ a0 < l.length then rd l a0 else -1 := ⟨_, rfl⟩
  obtain ⟨q, e, rfl⟩ := EvI.up (f := fun k s => stepF Try.prog (gm Try.prog k) drawn k Try.f9 [1, 1, 1, 1, 1, 1, 1, 1, 0, 1, 0] [49, 48, 47, 13, 12, 11, 10, 9, 7, 1, 0] s) l.length
    (fun i st => ∃ s : Int, st = ([.int .i64 i, .int .i64 l.length, .slice h, .int .i64 (Bs.cnt (fun x => decide (x = c)) (l.take i) : Nat), .int .i64 s, .int .i64 v, .int .i64 a1, .int .i64 a0, .ptr p, .int .i64 c, .slice h], σ2) ∧
      (∀ P : Nat, P < i → rd l P = c → a1 = (Bs.cnt (fun x => decide (x = c)) (l.take P) : Nat) → s = P) ∧ ((∀ P : Nat, P < i → rd l P = c → a1 ≠ (Bs.cnt (fun x => decide (x = c)) (l.take P) : Nat)) → s = -1))
    (fun q => q = (AX.exit 0, [(12, .int .i64 r), (11, .int .i64 v), (10, .int .i64 a1), (9, .int .i64 a0), (7, .ptr p), (1, .int .i64 c), (0, .slice h)], σ2))
    (by
      rintro i st hi ⟨s, rfl, I1, I2⟩
      have i0 : (0 : Int) ≤ i := by omega
      have i1 : (i : Int) < l.length := by omega
      have w1 := wsucc hi (by omega)
      have rx := hT2.rd i0 i1
      have s1 := cnt_take_succ (fun x => decide (x = c)) hi
      have cl := cnt_le (fun x => decide (x = c)) (l.take i)
      rw [List.length_take] at cl
      by_cases c1 : rd l i = c
      · rw [if_pos (by simpa using c1)] at s1
        have w2 : IntKind.wrap .i64 ((Bs.cnt (fun x => decide (x = c)) (l.take i) : Nat) + 1) = (Bs.cnt (fun x => decide (x = c)) (l.take i) + 1 : Nat) := by rw [wrap64 (by omega) (by omega)]; omega
        by_cases c2 : ((Bs.cnt (fun x => decide (x = c)) (l.take i) : Nat) : Int) = a1
        · refine ⟨_, Ev.of fun k => ?_, (i : Int), rfl, fun P hP hPc hPa => ?_, fun hno => absurd c2.symm (hno i (Nat.lt_succ_self i) c1)⟩
          · simp only [f9_L11111111010]
            simp only [Option.bind_some, decide_eq_true_eq, decide_eq_false_iff_not, Bool.not_eq_true', Bool.not_true, Bool.not_false, Bool.false_eq_true, Bool.true_eq_false, Bool.not_eq_eq_eq_not, beq_self_eq_true, beqFT, beqTF, decide_true, decide_false, not_false_eq_true, not_true_eq_false, ne_eq, true_and, and_true, false_and, and_false, and_self, if_true, if_false, ite_true, ite_false, Bool.and_true, Bool.and_false, Bool.true_and, Bool.false_and, Bool.or_true, Bool.true_or, Bool.or_false, Bool.false_or, or_true, true_or, or_false, false_or, or_self, AV.asInt, AV.asBool, AV.asSl, AV.asPtr, AV.asFn, AV.asStr, AV.asMap, AV.asIfc, AV.item, List.length_cons, List.length_nil, List.getElem?_cons_zero, List.getElem?_cons_succ, Nat.zero_add, ll, i0, i1, rx, c1, c2, w2, s1, w1]
            rw [← c2, w2]
          · have := kth_uniq (p := fun x => decide (x = c)) (l := l) (P := P) (Q := i) (by omega) hi (by simpa using hPc) (by simpa using c1) (by omega)
            omega
        · refine ⟨_, Ev.of fun k => ?_, s, rfl, fun P hP hPc hPa => ?_, fun hno => I2 fun P hP hPc => hno P (by omega) hPc⟩
          · simp only [f9_L11111111010]
            simp only [Option.bind_some, decide_eq_true_eq, decide_eq_false_iff_not, Bool.not_eq_true', Bool.not_true, Bool.not_false, Bool.false_eq_true, Bool.true_eq_false, Bool.not_eq_eq_eq_not, beq_self_eq_true, beqFT, beqTF, decide_true, decide_false, not_false_eq_true, not_true_eq_false, ne_eq, true_and, and_true, false_and, and_false, and_self, if_true, if_false, ite_true, ite_false, Bool.and_true, Bool.and_false, Bool.true_and, Bool.false_and, Bool.or_true, Bool.true_or, Bool.or_false, Bool.false_or, or_true, true_or, or_false, false_or, or_self, AV.asInt, AV.asBool, AV.asSl, AV.asPtr, AV.asFn, AV.asStr, AV.asMap, AV.asIfc, AV.item, List.length_cons, List.length_nil, List.getElem?_cons_zero, List.getElem?_cons_succ, Nat.zero_add, ll, i0, i1, rx, c1, c2, w2, s1, w1]
          · by_cases e : P = i
            · subst e; exact absurd hPa.symm c2
            · exact I1 P (by omega) hPc hPa
      · rw [if_neg (by simpa using c1)] at s1
        refine ⟨_, Ev.of fun k => ?_, s, rfl, fun P hP hPc hPa => ?_, fun hno => I2 fun P hP hPc => hno P (by omega) hPc⟩
        · simp only [f9_L11111111010]
          simp only [Option.bind_some, decide_eq_true_eq, decide_eq_false_iff_not, Bool.not_eq_true', Bool.not_true, Bool.not_false, Bool.false_eq_true, Bool.true_eq_false, Bool.not_eq_eq_eq_not, beq_self_eq_true, beqFT, beqTF, decide_true, decide_false, not_false_eq_true, not_true_eq_false, ne_eq, true_and, and_true, false_and, and_false, and_self, if_true, if_false, ite_true, ite_false, Bool.and_true, Bool.and_false, Bool.true_and, Bool.false_and, Bool.or_true, Bool.true_or, Bool.or_false, Bool.false_or, or_true, true_or, or_false, false_or, or_self, AV.asInt, AV.asBool, AV.asSl, AV.asPtr, AV.asFn, AV.asStr, AV.asMap, AV.asIfc, AV.item, List.length_cons, List.length_nil, List.getElem?_cons_zero, List.getElem?_cons_succ, Nat.zero_add, ll, i0, i1, rx, c1, s1, w1, Nat.add_zero]
        · by_cases e : P = i
          · subst e; exact absurd hPc c1
          · exact I1 P (by omega) hPc hPa)
    (by
      rintro st ⟨s, rfl, I1, I2⟩
      have er : s = r := by
        by_cases ex : ∃ P : Nat, P < l.length ∧ rd l P = c ∧ a1 = (Bs.cnt (fun x => decide (x = c)) (l.take P) : Nat)
        · obtain ⟨P, h1, h2, h3⟩ := ex
          rw [I1 P h1 h2 h3, S1 P h1 h2 h3]
        · rw [I2 fun P h1 h2 h3 => ex ⟨P, h1, h2, h3⟩, S2]
          rintro ⟨g1, g2⟩
          obtain ⟨P, h1, h2, h3⟩ := exists_kth (fun x => decide (x = c)) l a1.toNat (by omega)
          exact ex ⟨P, h1, by simpa using h2, by omega⟩
      subst er
      exact ⟨_, Ev.of fun k => by simp only [f9_L11111111010]; simp only [Option.bind_some, decide_eq_true_eq, decide_eq_false_iff_not, Bool.not_eq_true', Bool.not_true, Bool.not_false, Bool.false_eq_true, Bool.true_eq_false, Bool.not_eq_eq_eq_not, beq_self_eq_true, beqFT, beqTF, decide_true, decide_false, not_false_eq_true, not_true_eq_false, ne_eq, true_and, and_true, false_and, and_false, and_self, if_true, if_false, ite_true, ite_false, Bool.and_true, Bool.and_false, Bool.true_and, Bool.false_and, Bool.or_true, Bool.true_or, Bool.or_false, Bool.false_or, or_true, true_or, or_false, false_or, or_self, AV.asInt, AV.asBool, AV.asSl, AV.asPtr, AV.asFn, AV.asStr, AV.asMap, AV.asIfc, AV.item, List.length_cons, List.length_nil, List.getElem?_cons_zero, List.getElem?_cons_succ, Nat.zero_add, Int.lt_irrefl], rfl⟩)
    (s := ([.int .i64 0, .int .i64 l.length, .slice h, .int .i64 0, .int .i64 (-1), .int .i64 v, .int .i64 a1, .int .i64 a0, .ptr p, .int .i64 c, .slice h], σ2))
    ⟨-1, by simp [Bs.cnt], fun P hP => by omega, fun _ => rfl⟩
  obtain ⟨n3, e⟩ := loopF_ev e
  obtain ⟨n4, q4⟩ := matAt_run M a0
  rw [← hv] at q4
  obtain ⟨n5, q5⟩ := matRank_run M c a0
  obtain ⟨n6, q6⟩ := count12_run hT2 (by omega) c a0
  refine ⟨σ3, Runs.intro (fn := Try.f9) (by kernel_rfl) (by kernel_rfl) ⟨k0 + k1 + k2 + k3 + n3 + n4 + n5 + n6, fun k hk => ?_⟩⟩
  have r0 := r0 k (by omega)
  have r1 := r1 k (by omega)
  have r2 := r2 k (by omega)
  have r3 := r3 k (by omega)
  have e := e k (by omega)
  have q4 := q4 k (by omega)
  have q5 := q5 k (by omega)
  have q6 := q6 k (by omega)
  simp only at r0 r1 r2 r3 e q4 q5 q6
  rw [ll] at c0
  simp only [f9_eq]
  have fin : Option.bind (contF Try.prog (gm Try.prog k) drawn k Try.f9 [1, 1, 1, 1, 1, 1, 1, 1, 0, 1, 0] (AX.exit 0, [(12, .int .i64 r), (11, .int .i64 v), (10, .int .i64 a1), (9, .int .i64 a0), (7, .ptr p), (1, .int .i64 c), (0, .slice h)], σ2)) some = some (.bool true, σ3) := by
    rw [f9_X11111111010_1]
    simp only [Option.bind_some, decide_eq_true_eq, decide_eq_false_iff_not, Bool.not_eq_true', Bool.not_true, Bool.not_false, Bool.false_eq_true, Bool.true_eq_false, Bool.not_eq_eq_eq_not, beq_self_eq_true, beqFT, beqTF, decide_true, decide_false, not_false_eq_true, not_true_eq_false, ne_eq, true_and, and_true, false_and, and_false, and_self, if_true, if_false, ite_true, ite_false, Bool.and_true, Bool.and_false, Bool.true_and, Bool.false_and, Bool.or_true, Bool.true_or, Bool.or_false, Bool.false_or, or_true, true_or, or_false, false_or, or_self, AV.asInt, AV.asBool, AV.asSl, AV.asPtr, AV.asFn, AV.asStr, AV.asMap, AV.asIfc, AV.item, List.length_cons, List.length_nil, List.getElem?_cons_zero, List.getElem?_cons_succ, Nat.zero_add, q4, q5, q6, r3]
  rw [Option.bind_fun_some] at fin
  by_cases c1 : 0 ≤ a0
  · by_cases c2 : a0 < l.length
    · have rx := hT2.rd c1 c2
      rw [if_pos ⟨c1, c2⟩] at hv
      simp only [Option.bind_some, decide_eq_true_eq, decide_eq_false_iff_not, Bool.not_eq_true', Bool.not_true, Bool.not_false, Bool.false_eq_true, Bool.true_eq_false, Bool.not_eq_eq_eq_not, beq_self_eq_true, beqFT, beqTF, decide_true, decide_false, not_false_eq_true, not_true_eq_false, ne_eq, true_and, and_true, false_and, and_false, and_self, if_true, if_false, ite_true, ite_false, Bool.and_true, Bool.and_false, Bool.true_and, Bool.false_and, Bool.or_true, Bool.true_or, Bool.or_false, Bool.false_or, or_true, true_or, or_false, false_or, or_self, AV.asInt, AV.asBool, AV.asSl, AV.asPtr, AV.asFn, AV.asStr, AV.asMap, AV.asIfc, AV.item, List.length_cons, List.length_nil, List.getElem?_cons_zero, List.getElem?_cons_succ, Nat.zero_add, ← h1, r0, ll, c0, r1, r2, e0, e1, c1, c2, rx, ← hv, e, fin]
    · rw [if_neg (fun h => c2 h.2)] at hv
      subst hv
      simp only [Option.bind_some, decide_eq_true_eq, decide_eq_false_iff_not, Bool.not_eq_true', Bool.not_true, Bool.not_false, Bool.false_eq_true, Bool.true_eq_false, Bool.not_eq_eq_eq_not, beq_self_eq_true, beqFT, beqTF, decide_true, decide_false, not_false_eq_true, not_true_eq_false, ne_eq, true_and, and_true, false_and, and_false, and_self, if_true, if_false, ite_true, ite_false, Bool.and_true, Bool.and_false, Bool.true_and, Bool.false_and, Bool.or_true, Bool.true_or, Bool.or_false, Bool.false_or, or_true, true_or, or_false, false_or, or_self, AV.asInt, AV.asBool, AV.asSl, AV.asPtr, AV.asFn, AV.asStr, AV.asMap, AV.asIfc, AV.item, List.length_cons, List.length_nil, List.getElem?_cons_zero, List.getElem?_cons_succ, Nat.zero_add, ← h1, r0, ll, c0, r1, r2, e0, e1, c1, c2, e, fin]
  · rw [if_neg (fun h => c1 h.1)] at hv
    subst hv
    simp only [Option.bind_some, decide_eq_true_eq, decide_eq_false_iff_not, Bool.not_eq_true', Bool.not_true, Bool.not_false, Bool.false_eq_true, Bool.true_eq_false, Bool.not_eq_eq_eq_not, beq_self_eq_true, beqFT, beqTF, decide_true, decide_false, not_false_eq_true, not_true_eq_false, ne_eq, true_and, and_true, false_and, and_false, and_self, if_true, if_false, ite_true, ite_false, Bool.and_true, Bool.and_false, Bool.true_and, Bool.false_and, Bool.or_true, Bool.true_or, Bool.or_false, Bool.false_or, or_true, true_or, or_false, false_or, or_self, AV.asInt, AV.asBool, AV.asSl, AV.asPtr, AV.asFn, AV.asStr, AV.asMap, AV.asIfc, AV.item, List.length_cons, List.length_nil, List.getElem?_cons_zero, List.getElem?_cons_succ, Nat.zero_add, ← h1, r0, ll, c0, r1, r2, e0, e1, c1, e, fin]
end Go.Ab

/- The law WaveAdds. -/
namespace Go.Ab
open Go Go.Proofs Go.Ab.Wd Go.Ab.Bs Go.Ab.Sai
set_option linter.unusedVariables false
set_option linter.unusedSimpArgs false
theorem dis_one (s : List Int) (v : Nat) : dis s v 1 = if 0 < Bs.cnt (fun x => decide (x = (v : Int))) s then [((v : Int), ((Bs.cnt (fun x => decide (x = (v : Int))) s : Nat) : Int))] else [] := by
  unfold dis
  rw [List.range'_one]
  split
  · rename_i h; rw [List.filter_cons_of_pos (by simpa using h)]; rfl
  · rename_i h; rw [List.filter_cons_of_neg (by simpa using h)]; rfl
def sum2 (L : List (Int × Int)) : Int := (L.map (·.2)).sum
theorem sum2_append (a b : List (Int × Int)) : sum2 (a ++ b) = sum2 a + sum2 b := by simp [sum2]
theorem dis_sum (s : List Int) (lo : Nat) : ∀ n, sum2 (dis s lo n) = (Bs.cnt (fun x => decide ((lo : Int) ≤ x ∧ x < lo + n)) s : Nat)
  | 0 => by
    have : Bs.cnt (fun x => decide ((lo : Int) ≤ x ∧ x < lo + (0 : Nat))) s = 0 := by
      unfold Bs.cnt; rw [List.filter_eq_nil_iff.2]
      · rfl
      · intro x _; simp <;> omega
    rw [this]; simp [dis, sum2]
  | n + 1 => by
    rw [dis_split, sum2_append, dis_sum s lo n, dis_one]
    have := cnt_or (p := fun x => decide ((lo : Int) ≤ x ∧ x < lo + n)) (q := fun x => decide (x = ((lo + n : Nat) : Int))) s (fun x _ => by simp; omega)
    have e : Bs.cnt (fun x => decide ((lo : Int) ≤ x ∧ x < lo + n) || decide (x = ((lo + n : Nat) : Int))) s = Bs.cnt (fun x => decide ((lo : Int) ≤ x ∧ x < lo + (n + 1 : Nat))) s := cnt_congr fun x _ => by
      rw [Bool.eq_iff_iff]; simp; omega
    rw [e] at this
    rw [this]
    split
    · simp [sum2]
    · rw [show sum2 ([] : List (Int × Int)) = 0 from rfl]; omega
theorem dis_get {s : List Int} {lo n i : Nat} {u v : Int} (h : (dis s lo n)[i]? = some (u, v)) : 0 ≤ u ∧ v = (Bs.cnt (fun x => decide (x = u)) s : Nat) := by
  unfold dis at h
  rw [List.getElem?_map] at h
  cases hh : ((List.range' lo n).filter fun v : Nat => decide (0 < Bs.cnt (fun x => decide (x = (v : Int))) s))[i]? with
  | none => rw [hh] at h; cases h
  | some z => rw [hh] at h; injection h with h; injection h with h1 h2; subst h1 h2; exact ⟨by omega, rfl⟩
theorem sum2_le {s : List Int} {L : List (Int × Int)} (h : ∀ q ∈ L, 0 ≤ q.2) : ∀ i, 0 ≤ sum2 (L.take i) ∧ sum2 (L.take i) ≤ sum2 L := by
  have nn : ∀ {M : List (Int × Int)}, (∀ q ∈ M, 0 ≤ q.2) → 0 ≤ sum2 M := fun {M} hM => by
    induction M with
    | nil => simp [sum2]
    | cons x M ih =>
      have := ih (fun q hq => hM q (by simp [hq]))
      have := hM x (by simp)
      simp [sum2] at *; omega
  intro i
  have e : sum2 L = sum2 (L.take i) + sum2 (L.drop i) := by rw [← sum2_append, List.take_append_drop]
  have h1 := nn (M := L.take i) (fun q hq => h q (List.mem_of_mem_take hq))
  have h2 := nn (M := L.drop i) (fun q hq => h q (List.mem_of_mem_drop hq))
  omega
theorem sum2_succ {L : List (Int × Int)} {i : Nat} {u v : Int} (h : L[i]? = some (u, v)) : sum2 (L.take (i + 1)) = sum2 (L.take i) + v := by
  rw [List.take_add_one, h, sum2_append]; simp [sum2]
theorem umod {a : Int} {n : Nat} (hn : n < 2 ^ 40) : IntKind.wrap .u64 (IntKind.wrap .i64 ((n : Int) + 1)) = (n : Int) + 1 ∧ ∃ k : Nat, IntKind.wrap .i64 (Int.tmod (IntKind.wrap .u64 a) ((n : Int) + 1)) = (k : Int) ∧ k ≤ n := by
  have wu : ∀ x : Int, IntKind.wrap .u64 x = x % 18446744073709551616 := fun x => by
    unfold IntKind.wrap
    have e2 : (2 : Int) ^ IntKind.u64.bits = 18446744073709551616 := by decide
    simp [e2, IntKind.signed]
  refine ⟨by rw [wrap64 (by omega) (by omega), wu]; omega, ?_⟩
  rw [wu, Int.tmod_eq_emod_of_nonneg (by omega)]
  have h1 := Int.emod_nonneg (a % 18446744073709551616) (show ((n : Int) + 1) ≠ 0 by omega)
  have h2 := Int.emod_lt_of_pos (a % 18446744073709551616) (show 0 < ((n : Int) + 1) by omega)
  exact ⟨(a % 18446744073709551616 % ((n : Int) + 1)).toNat, by rw [wrap64 (by omega) (by omega)]; omega, by omega⟩
theorem law_WaveAdds {σ : Store} {h : Hdl} {l : List Int} {a0 a1 a2 c : Int} (hT : σ.Ints h l) (hH : σ.Has h) (hn : l.length < 2 ^ 44) (hw : ∀ n ∈ l, IntKind.min .i64 ≤ n ∧ n ≤ IntKind.max .i64)
    (ha0 : IntKind.min .i64 ≤ a0 ∧ a0 ≤ IntKind.max .i64) (ha1 : IntKind.min .i64 ≤ a1 ∧ a1 ≤ IntKind.max .i64) (ha2 : IntKind.min .i64 ≤ a2 ∧ a2 ≤ IntKind.max .i64) (hc : IntKind.min .i64 ≤ c ∧ c ≤ IntKind.max .i64) (hp : σ.prot ≤ σ.objs.length) :
    ∃ σ', Runs Try.prog 13 [.slice h, .agg [.int .i64 a0, .int .i64 a1, .int .i64 a2], .int .i64 c] σ (.bool true) σ' := by
  have ll := hT.ilen
  obtain ⟨σ1, h1⟩ : ∃ s, s = σ.push [.int .i64 a0, .int .i64 a1, .int .i64 a2] 3 := ⟨_, rfl⟩
  have K1 : Kp σ.objs.length σ σ1 := by rw [h1]; exact Kp.push _ _ (Nat.le_refl _)
  have R1 : σ1.Row σ.objs.length 3 [.int .i64 a0, .int .i64 a1, .int .i64 a2] := by rw [h1]; exact Store.Row.new
  have hp1 : σ1.prot ≤ σ1.objs.length := by rw [K1.prot]; have := K1.len; omega
  have hT1 := Store.Sl.kp hT K1
  obtain ⟨k0, r0⟩ := first13_told σ1
  by_cases c0 : (300 : Int) < h.len
  · refine ⟨σ1, Runs.intro (fn := Try.f13) (by kernel_rfl) (by kernel_rfl) ⟨k0, fun k hk => ?_⟩⟩
    have r0 := r0 k hk
    simp only at r0
    simp only [f13_eq]
    simp only [Option.bind_some, decide_eq_true_eq, decide_eq_false_iff_not, Bool.not_eq_true', Bool.not_true, Bool.not_false, Bool.false_eq_true, Bool.true_eq_false, Bool.not_eq_eq_eq_not, beq_self_eq_true, beqFT, beqTF, decide_true, decide_false, not_false_eq_true, not_true_eq_false, ne_eq, true_and, and_true, false_and, and_false, and_self, if_true, if_false, ite_true, ite_false, Bool.and_true, Bool.and_false, Bool.true_and, Bool.false_and, Bool.or_true, Bool.true_or, Bool.or_false, Bool.false_or, or_true, true_or, or_false, false_or, or_self, AV.asInt, AV.asBool, AV.asSl, AV.asPtr, AV.asFn, AV.asStr, AV.asMap, AV.asIfc, AV.item, List.length_cons, List.length_nil, List.getElem?_cons_zero, List.getElem?_cons_succ, Nat.zero_add, ← h1, r0, c0]
  have ln : l.length ≤ 300 := by omega
  obtain ⟨k1, r1⟩ := right13_run (al := 300) hT1 (by omega)
  cases hok : okW l 300 with
  | false =>
    rw [hok] at r1
    refine ⟨σ1, Runs.intro (fn := Try.f13) (by kernel_rfl) (by kernel_rfl) ⟨k0 + k1, fun k hk => ?_⟩⟩
    have r0 := r0 k (by omega)
    have r1 := r1 k (by omega)
    simp only at r0 r1
    simp only [f13_eq]
    simp only [Option.bind_some, decide_eq_true_eq, decide_eq_false_iff_not, Bool.not_eq_true', Bool.not_true, Bool.not_false, Bool.false_eq_true, Bool.true_eq_false, Bool.not_eq_eq_eq_not, beq_self_eq_true, beqFT, beqTF, decide_true, decide_false, not_false_eq_true, not_true_eq_false, ne_eq, true_and, and_true, false_and, and_false, and_self, if_true, if_false, ite_true, ite_false, Bool.and_true, Bool.and_false, Bool.true_and, Bool.false_and, Bool.or_true, Bool.true_or, Bool.or_false, Bool.false_or, or_true, true_or, or_false, false_or, or_self, AV.asInt, AV.asBool, AV.asSl, AV.asPtr, AV.asFn, AV.asStr, AV.asMap, AV.asIfc, AV.item, List.length_cons, List.length_nil, List.getElem?_cons_zero, List.getElem?_cons_succ, Nat.zero_add, ← h1, r0, c0, r1]
  | true =>
  rw [hok] at r1
  obtain ⟨p, w, σ2, ⟨k2, r2⟩, K2, M, W, pn⟩ := made_run (most := 300) hT1 hp1 hok
  have hp2 : σ2.prot ≤ σ2.objs.length := by rw [K2.prot]; have := K2.len; omega
  have R2 := R1.kp K2 R1.lt
  have e0 := row_int R2 (o := 0) rfl
  have e1 := row_int R2 (o := 1) rfl
  have e2 := row_int R2 (o := 2) rfl
  obtain ⟨un, x', ex, hx'⟩ := umod (a := a0) (n := l.length) (by omega)
  obtain ⟨_, y', ey, hy'⟩ := umod (a := a1) (n := l.length) (by omega)
  obtain ⟨_, z', ez, hz'⟩ := umod (a := a2) (n := l.length) (by omega)
  obtain ⟨x, hx⟩ : ∃ x, x = min x' z' := ⟨_, rfl⟩
  obtain ⟨z, hz⟩ : ∃ z, z = max x' z' := ⟨_, rfl⟩
  obtain ⟨y, hy⟩ : ∃ y, y = max x (min y' z) := ⟨_, rfl⟩
  have mx : mn2 (x' : Int) z' = (x : Int) := by rw [mn2_eq]; omega
  have mz : mx2 (x' : Int) z' = (z : Int) := by rw [mx2_eq]; omega
  have my : mx2 (x : Int) (mn2 (y' : Int) z) = (y : Int) := by rw [mx2_eq, mn2_eq]; omega
  have u0 : ¬ (l.length : Int) + 1 = 0 := by omega
  obtain ⟨s, hs⟩ : ∃ s, s = seg l x z := ⟨_, rfl⟩
  have sl : s.length = z - x := by rw [hs, (seg_self (by omega) (by omega)).1]; simp; omega
  have tk : l.take z = l.take x ++ s := by rw [hs]; exact take_seg (by omega) (by omega)
  have s0 : ∀ q ∈ s, 0 ≤ q ∧ q < 2 ^ w := fun q hq => M.rng q (seg_mem (hs ▸ hq))
  obtain ⟨hd, σ3, ⟨k3, r3⟩, K3, G3⟩ := matDistinct_run M hp2 x z
  rw [← hs] at G3
  obtain ⟨L, hL⟩ : ∃ L, L = dis s 0 (2 ^ w) := ⟨_, rfl⟩
  rw [← hL] at G3
  have hp3 : σ3.prot ≤ σ3.objs.length := by rw [K3.prot]; have := K3.len; omega
  have M3 := M.kp K3
  have hld := pairs_len G3.sl
  have sumL : sum2 L = s.length := by
    rw [hL, dis_sum]
    unfold Bs.cnt
    rw [List.filter_eq_self.2]
    intro q hq
    have := s0 q hq
    have e : ((2 : Int) ^ w) = ((2 ^ w : Nat) : Int) := by simp
    simp; omega
  have Lnn : ∀ q ∈ L, 0 ≤ q.2 := fun q hq => by
    obtain ⟨i, hi, e⟩ := List.mem_iff_getElem.1 hq
    have := dis_get (s := s) (lo := 0) (n := 2 ^ w) (i := i) (u := q.1) (v := q.2) (by rw [← hL, List.getElem?_eq_getElem hi, e])
    omega
  have lL : L.length ≤ 2 ^ w := by rw [hL]; exact dis_length _ _ _
  have p24 : 2 ^ w ≤ 2 ^ 24 := Nat.pow_le_pow_right (by omega) M.wid.2
  obtain ⟨r, e, σ4, rfl, K4⟩ := EvI.up (f := fun k s => stepF Try.prog (gm Try.prog k) drawn k Try.f13 [1, 1, 1, 1, 1, 1, 1, 1, 1, 0, 1, 0] [69, 68, 67, 13, 12, 11, 10, 7, 2] s) L.length
    (fun i st => ∃ s1, st = ([.int .i64 i, .int .i64 L.length, .slice hd, .int .i64 (sum2 (L.take i)), .int .i64 z, .int .i64 y, .int .i64 x, .ptr p, .int .i64 c], s1) ∧ Kp σ3.objs.length σ3 s1)
    (fun r => ∃ s1, r = (AX.exit 0, [(13, .int .i64 (sum2 L)), (12, .int .i64 z), (11, .int .i64 y), (10, .int .i64 x), (7, .ptr p), (2, .int .i64 c)], s1) ∧ Kp σ3.objs.length σ3 s1)
    (by
      rintro i st hi ⟨s1, rfl, kk⟩
      have i0 : (0 : Int) ≤ i := by omega
      have i1 : (i : Int) < L.length := by omega
      have i2 : (i : Int) < hd.len := by omega
      have w1 := wsucc hi (by omega)
      obtain ⟨⟨u, v⟩, huv⟩ : ∃ q, L[i]? = some q := ⟨_, List.getElem?_eq_getElem hi⟩
      obtain ⟨g0, g1⟩ := pairs_rd (G3.sl.kp kk) huv
      rw [hL] at huv
      obtain ⟨v0, v1⟩ := dis_get huv
      rw [← hL] at huv
      have hps : s1.prot ≤ s1.objs.length := by rw [kk.prot]; have := kk.len; omega
      obtain ⟨s2, t2, k2, R2⟩ := take2 (σ := s1) (u := u) (v := v) hps
      have f0 := row_int R2 (o := 0) rfl
      have f1 := row_int R2 (o := 1) rfl
      have M2 : Mat s2 p l w := (M3.kp kk).kp k2
      obtain ⟨n3, q3⟩ := matRank_run (M2.quiet s2.objs.length) u z
      obtain ⟨n4, q4⟩ := matRank_run (M2.quiet s2.objs.length) u x
      rw [Int.toNat_natCast] at q3 q4
      have ec : Bs.cnt (fun q => decide (q = u)) (l.take z) = Bs.cnt (fun q => decide (q = u)) (l.take x) + Bs.cnt (fun q => decide (q = u)) s := by rw [tk, cnt_append]
      have cl := cnt_le (fun q => decide (q = u)) (l.take z)
      rw [List.length_take] at cl
      have w2 : IntKind.wrap .i64 ((Bs.cnt (fun q => decide (q = u)) (l.take z) : Nat) - (Bs.cnt (fun q => decide (q = u)) (l.take x) : Nat)) = v := by rw [wrap64 (by omega) (by omega)]; omega
      have sm := sum2_succ huv
      obtain ⟨b1, b2⟩ := sum2_le (s := s) Lnn (i + 1)
      have w3 : IntKind.wrap .i64 (sum2 (L.take i) + v) = sum2 (L.take (i + 1)) := by rw [sm, wrap64 (by omega) (by omega)]
      refine ⟨_, ⟨n3 + n4, fun k hk => ?_⟩, s2, rfl, kk.trans (k2.mono kk.len)⟩
      have q3 := q3 k (by omega)
      have q4 := q4 k (by omega)
      simp only at q3 q4
      have q3 := callG_same q3
      have q4 := callG_same q4
      simp only [f13_L111111111010]
      simp only [Option.bind_some, decide_eq_true_eq, decide_eq_false_iff_not, Bool.not_eq_true', Bool.not_true, Bool.not_false, Bool.false_eq_true, Bool.true_eq_false, Bool.not_eq_eq_eq_not, beq_self_eq_true, beqFT, beqTF, decide_true, decide_false, not_false_eq_true, not_true_eq_false, ne_eq, true_and, and_true, false_and, and_false, and_self, if_true, if_false, ite_true, ite_false, Bool.and_true, Bool.and_false, Bool.true_and, Bool.false_and, Bool.or_true, Bool.true_or, Bool.or_false, Bool.false_or, or_true, true_or, or_false, false_or, or_self, AV.asInt, AV.asBool, AV.asSl, AV.asPtr, AV.asFn, AV.asStr, AV.asMap, AV.asIfc, AV.item, List.length_cons, List.length_nil, List.getElem?_cons_zero, List.getElem?_cons_succ, Nat.zero_add, i0, i1, i2, g0, g1, t2, f0, f1, q3, q4, w2, w3, w1])
    (by
      rintro st ⟨s1, rfl, kk⟩
      rw [List.take_length]
      exact ⟨(AX.exit 0, [(13, .int .i64 (sum2 L)), (12, .int .i64 z), (11, .int .i64 y), (10, .int .i64 x), (7, .ptr p), (2, .int .i64 c)], s1), Ev.of fun k => by simp only [f13_L111111111010]; simp only [Option.bind_some, decide_eq_true_eq, decide_eq_false_iff_not, Bool.not_eq_true', Bool.not_true, Bool.not_false, Bool.false_eq_true, Bool.true_eq_false, Bool.not_eq_eq_eq_not, beq_self_eq_true, beqFT, beqTF, decide_true, decide_false, not_false_eq_true, not_true_eq_false, ne_eq, true_and, and_true, false_and, and_false, and_self, if_true, if_false, ite_true, ite_false, Bool.and_true, Bool.and_false, Bool.true_and, Bool.false_and, Bool.or_true, Bool.true_or, Bool.or_false, Bool.false_or, or_true, true_or, or_false, false_or, or_self, AV.asInt, AV.asBool, AV.asSl, AV.asPtr, AV.asFn, AV.asStr, AV.asMap, AV.asIfc, AV.item, List.length_cons, List.length_nil, List.getElem?_cons_zero, List.getElem?_cons_succ, Nat.zero_add, Int.lt_irrefl], s1, rfl, kk⟩)
    (s := ([.int .i64 0, .int .i64 L.length, .slice hd, .int .i64 0, .int .i64 z, .int .i64 y, .int .i64 x, .ptr p, .int .i64 c], σ3)) ⟨σ3, rfl, Kp.refl _ _⟩
  obtain ⟨n3, e⟩ := loopF_ev e
  have M4 := M3.kp K4
  obtain ⟨n5, q5⟩ := below_run M4 x z c
  obtain ⟨n6, q6⟩ := below_run M4 x y c
  obtain ⟨n7, q7⟩ := below_run M4 y z c
  have sx : seg l x z = seg l x y ++ seg l y z := by
    rw [(seg_self (l := l) (a := x) (b := z) (by omega) (by omega)).1, (seg_self (l := l) (a := x) (b := y) (by omega) (by omega)).1, (seg_self (l := l) (a := y) (b := z) (by omega) (by omega)).1]
    rw [show l.take y = (l.take z).take y by rw [List.take_take, Nat.min_eq_left (by omega)]]
    generalize l.take z = t
    rw [List.drop_take]
    conv => lhs; rw [← List.take_append_drop (y - x) (t.drop x)]
    rw [List.drop_drop, show x + (y - x) = y by omega]
  have ca : Bs.cnt (fun q => decide (q < c)) (seg l x z) = Bs.cnt (fun q => decide (q < c)) (seg l x y) + Bs.cnt (fun q => decide (q < c)) (seg l y z) := by rw [sx, cnt_append]
  have cl := cnt_le (fun q => decide (q < c)) (seg l x z)
  rw [← hs, sl] at cl
  rw [← hs] at ca
  have w2 : IntKind.wrap .i64 ((Bs.cnt (fun q => decide (q < c)) (seg l x y) : Nat) + (Bs.cnt (fun q => decide (q < c)) (seg l y z) : Nat)) = (Bs.cnt (fun q => decide (q < c)) s : Nat) := by rw [wrap64 (by omega) (by omega)]; omega
  rw [← hs] at q5
  have w3 : IntKind.wrap .i64 ((z : Int) - x) = sum2 L := by rw [sumL, sl, wrap64 (by omega) (by omega)]; omega
  refine ⟨σ4, Runs.intro (fn := Try.f13) (by kernel_rfl) (by kernel_rfl) ⟨k0 + k1 + k2 + k3 + n3 + n5 + n6 + n7, fun k hk => ?_⟩⟩
  have r0 := r0 k (by omega)
  have r1 := r1 k (by omega)
  have r2 := r2 k (by omega)
  have r3 := r3 k (by omega)
  have e := e k (by omega)
  have q5 := q5 k (by omega)
  have q6 := q6 k (by omega)
  have q7 := q7 k (by omega)
  simp only at r0 r1 r2 r3 e q5 q6 q7
  rw [ll] at c0
  simp only [f13_eq]
  simp only [Option.bind_some, decide_eq_true_eq, decide_eq_false_iff_not, Bool.not_eq_true', Bool.not_true, Bool.not_false, Bool.false_eq_true, Bool.true_eq_false, Bool.not_eq_eq_eq_not, beq_self_eq_true, beqFT, beqTF, decide_true, decide_false, not_false_eq_true, not_true_eq_false, ne_eq, true_and, and_true, false_and, and_false, and_self, if_true, if_false, ite_true, ite_false, Bool.and_true, Bool.and_false, Bool.true_and, Bool.false_and, Bool.or_true, Bool.true_or, Bool.or_false, Bool.false_or, or_true, true_or, or_false, false_or, or_self, AV.asInt, AV.asBool, AV.asSl, AV.asPtr, AV.asFn, AV.asStr, AV.asMap, AV.asIfc, AV.item, List.length_cons, List.length_nil, List.getElem?_cons_zero, List.getElem?_cons_succ, Nat.zero_add, ← h1, r0, ll, c0, r1, r2, e0, e1, e2, un, u0, ex, ey, ez, mx, mz, my, r3, hld, e]
  rw [f13_X111111111010_2]
  simp only [Option.bind_some, decide_eq_true_eq, decide_eq_false_iff_not, Bool.not_eq_true', Bool.not_true, Bool.not_false, Bool.false_eq_true, Bool.true_eq_false, Bool.not_eq_eq_eq_not, beq_self_eq_true, beqFT, beqTF, decide_true, decide_false, not_false_eq_true, not_true_eq_false, ne_eq, true_and, and_true, false_and, and_false, and_self, if_true, if_false, ite_true, ite_false, Bool.and_true, Bool.and_false, Bool.true_and, Bool.false_and, Bool.or_true, Bool.true_or, Bool.or_false, Bool.false_or, or_true, true_or, or_false, false_or, or_self, AV.asInt, AV.asBool, AV.asSl, AV.asPtr, AV.asFn, AV.asStr, AV.asMap, AV.asIfc, AV.item, List.length_cons, List.length_nil, List.getElem?_cons_zero, List.getElem?_cons_succ, Nat.zero_add, q5, q6, q7, w2, w3]
end Go.Ab

/- The law WaveWidths. -/
namespace Go.Ab
open Go Go.Proofs Go.Ab.Wd Go.Ab.Bs Go.Ab.Sai
set_option linter.unusedVariables false
set_option linter.unusedSimpArgs false
theorem callG_q {Γ : Gam} {g : Fun} {args : List AV} {v : AV} {σ σ' : Store} (h : Γ g args { σ with prot := σ.objs.length } = some (v, σ')) : callG Γ true g args σ = some (v, { σ' with prot := σ.prot }) := by
  unfold callG; simp only []; rw [h]; rfl
theorem kp_q {σ σ' : Store} {n m : Nat} (k : Kp n { σ with prot := m } σ') : Kp n σ { σ' with prot := σ.prot } := ⟨rfl, k.len, k.keep⟩
theorem same13_run {σ : Store} {h h' : Hdl} {L : List (Int × Int)} (a : σ.Sl h 2 (pairsL L)) (b : σ.Sl h' 2 (pairsL L)) (hn : L.length < 2 ^ 60) : Runs Try.prog 42 [.slice h, .slice h'] σ (.bool true) σ := by
  have la := pairs_len a
  have lb := pairs_len b
  obtain ⟨r, e, rfl⟩ := EvI.up (f := fun k s => stepF Try.prog (gm Try.prog k) drawn k Try.f42 [1, 1, 0, 1, 0] [13, 12, 1, 0] s) L.length
    (fun i s => s = ([.int .i64 i, .int .i64 L.length, .slice h', .slice h], σ)) (fun r => r = (AX.exit 0, [], σ))
    (by
      rintro i s hi rfl
      have i0 : (0 : Int) ≤ i := by omega
      have i1 : (i : Int) < L.length := by omega
      have i2 : (i : Int) < h.len := by omega
      have i3 : (i : Int) < h'.len := by omega
      have w := wsucc hi (by omega)
      obtain ⟨⟨u, v⟩, huv⟩ : ∃ q, L[i]? = some q := ⟨_, List.getElem?_eq_getElem hi⟩
      obtain ⟨g0, g1⟩ := pairs_rd a huv
      obtain ⟨g2, g3⟩ := pairs_rd b huv
      exact ⟨_, Ev.of fun k => by simp only [f42_L11010]; simp only [Option.bind_some, decide_eq_true_eq, decide_eq_false_iff_not, Bool.not_eq_true', Bool.not_true, Bool.not_false, Bool.false_eq_true, Bool.true_eq_false, Bool.not_eq_eq_eq_not, beq_self_eq_true, beqFT, beqTF, decide_true, decide_false, not_false_eq_true, not_true_eq_false, ne_eq, true_and, and_true, false_and, and_false, and_self, if_true, if_false, ite_true, ite_false, Bool.and_true, Bool.and_false, Bool.true_and, Bool.false_and, Bool.or_true, Bool.true_or, Bool.or_false, Bool.false_or, or_true, true_or, or_false, false_or, or_self, AV.asInt, AV.asBool, AV.asSl, AV.asPtr, AV.asFn, AV.asStr, AV.asMap, AV.asIfc, AV.item, List.length_cons, List.length_nil, List.getElem?_cons_zero, List.getElem?_cons_succ, Nat.zero_add, i0, i1, i2, i3, g0, g1, g2, g3, w], rfl⟩)
    (by
      rintro s rfl
      exact ⟨_, Ev.of fun k => by simp only [f42_L11010]; simp only [Option.bind_some, decide_eq_true_eq, decide_eq_false_iff_not, Bool.not_eq_true', Bool.not_true, Bool.not_false, Bool.false_eq_true, Bool.true_eq_false, Bool.not_eq_eq_eq_not, beq_self_eq_true, beqFT, beqTF, decide_true, decide_false, not_false_eq_true, not_true_eq_false, ne_eq, true_and, and_true, false_and, and_false, and_self, if_true, if_false, ite_true, ite_false, Bool.and_true, Bool.and_false, Bool.true_and, Bool.false_and, Bool.or_true, Bool.true_or, Bool.or_false, Bool.false_or, or_true, true_or, or_false, false_or, or_self, AV.asInt, AV.asBool, AV.asSl, AV.asPtr, AV.asFn, AV.asStr, AV.asMap, AV.asIfc, AV.item, List.length_cons, List.length_nil, List.getElem?_cons_zero, List.getElem?_cons_succ, Nat.zero_add, Int.lt_irrefl], rfl⟩)
    (s := ([.int .i64 0, .int .i64 L.length, .slice h', .slice h], σ)) rfl
  refine Runs.intro (fn := Try.f42) (by kernel_rfl) (by kernel_rfl) ?_
  refine (Ev.bind (loopF_ev e) (Ev.of fun k => f42_X11010_2 (gm Try.prog k) k σ)).congr fun k => ?_
  rw [f42_eq]
  have : (h.len : Int) = h'.len := by omega
  have la' : (h'.len : Int) = L.length := by omega
  simp only [Option.bind_some, decide_eq_true_eq, decide_eq_false_iff_not, Bool.not_eq_true', Bool.not_true, Bool.not_false, Bool.false_eq_true, Bool.true_eq_false, Bool.not_eq_eq_eq_not, beq_self_eq_true, beqFT, beqTF, decide_true, decide_false, not_false_eq_true, not_true_eq_false, ne_eq, true_and, and_true, false_and, and_false, and_self, if_true, if_false, ite_true, ite_false, Bool.and_true, Bool.and_false, Bool.true_and, Bool.false_and, Bool.or_true, Bool.true_or, Bool.or_false, Bool.false_or, or_true, true_or, or_false, false_or, or_self, AV.asInt, AV.asBool, AV.asSl, AV.asPtr, AV.asFn, AV.asStr, AV.asMap, AV.asIfc, AV.item, List.length_cons, List.length_nil, List.getElem?_cons_zero, List.getElem?_cons_succ, Nat.zero_add, this, la']
theorem levels_run {σ : Store} {p : Ptr} {l : List Int} {w : Nat} (M : Mat σ p l w) (hp : σ.prot ≤ σ.objs.length) :
    ∃ ho σ' ps, Runs Try.prog 30 [.ptr p] σ (.slice ho) σ' ∧ Kp σ.objs.length σ σ' ∧ Grow σ' σ.objs.length ho 1 (ptrsL ps) ∧ ps.length = w ∧ ∀ j, j < w → ∃ q, ps[j]? = some q ∧ Vec σ q (lev w l j) := by
  obtain ⟨b, hl, ps, rfl, R, S, lp, V⟩ := M.ex
  have e2 := row_sl R (o := 2) rfl
  obtain ⟨ho, σ', ⟨k1, r1⟩, K, G⟩ := cloneP_run S hp (by have := M.wid; omega)
  refine ⟨ho, σ', ps, Runs.intro (fn := Try.f30) (by kernel_rfl) (by kernel_rfl) ⟨k1, fun k hk => ?_⟩, K, G, lp, V⟩
  have r1 := r1 k hk
  simp only at r1
  simp only [f30_eq]
  simp only [Option.bind_some, decide_eq_true_eq, decide_eq_false_iff_not, Bool.not_eq_true', Bool.not_true, Bool.not_false, Bool.false_eq_true, Bool.true_eq_false, Bool.not_eq_eq_eq_not, beq_self_eq_true, beqFT, beqTF, decide_true, decide_false, not_false_eq_true, not_true_eq_false, ne_eq, true_and, and_true, false_and, and_false, and_self, if_true, if_false, ite_true, ite_false, Bool.and_true, Bool.and_false, Bool.true_and, Bool.false_and, Bool.or_true, Bool.true_or, Bool.or_false, Bool.false_or, or_true, true_or, or_false, false_or, or_self, AV.asInt, AV.asBool, AV.asSl, AV.asPtr, AV.asFn, AV.asStr, AV.asMap, AV.asIfc, AV.item, List.length_cons, List.length_nil, List.getElem?_cons_zero, List.getElem?_cons_succ, Nat.zero_add, Option.isNone_some, e2, r1]
theorem quant_uniq {s : List Int} {u v : Int} {k : Int} (h1 : (Bs.cnt (fun x => decide (x < u)) s : Int) ≤ k) (h2 : k < (Bs.cnt (fun x => decide (x < u)) s : Int) + (Bs.cnt (fun x => decide (x = u)) s : Int)) (g1 : (Bs.cnt (fun x => decide (x < v)) s : Int) ≤ k) (g2 : k < (Bs.cnt (fun x => decide (x < v)) s : Int) + (Bs.cnt (fun x => decide (x = v)) s : Int)) : u = v := by
  rcases Int.lt_trichotomy u v with c | c | c
  · have := cnt_lt_le c s; omega
  · exact c
  · have := cnt_lt_le c s; omega
theorem law_WaveWidths {σ : Store} {h : Hdl} {l : List Int} {a0 a1 c : Int} (hT : σ.Ints h l) (hH : σ.Has h) (hn : l.length < 2 ^ 44) (hw : ∀ n ∈ l, IntKind.min .i64 ≤ n ∧ n ≤ IntKind.max .i64)
    (ha0 : IntKind.min .i64 ≤ a0 ∧ a0 ≤ IntKind.max .i64) (ha1 : IntKind.min .i64 ≤ a1 ∧ a1 ≤ IntKind.max .i64) (hc : IntKind.min .i64 ≤ c ∧ c ≤ IntKind.max .i64) (hp : σ.prot ≤ σ.objs.length) :
    ∃ σ', Runs Try.prog 14 [.slice h, .agg [.int .i64 a0, .int .i64 a1], .int .i64 c] σ (.bool true) σ' := by
  have ll := hT.ilen
  obtain ⟨σ1, h1⟩ : ∃ s, s = σ.push [.int .i64 a0, .int .i64 a1] 2 := ⟨_, rfl⟩
  have K1 : Kp σ.objs.length σ σ1 := by rw [h1]; exact Kp.push _ _ (Nat.le_refl _)
  have R1 : σ1.Row σ.objs.length 2 [.int .i64 a0, .int .i64 a1] := by rw [h1]; exact Store.Row.new
  have hp1 : σ1.prot ≤ σ1.objs.length := by rw [K1.prot]; have := K1.len; omega
  have hT1 : σ1.Ints h l := Store.Sl.kp hT K1
  obtain ⟨k0, r0⟩ := first13_told σ1
  by_cases c0 : (200 : Int) < h.len
  · refine ⟨σ1, Runs.intro (fn := Try.f14) (by kernel_rfl) (by kernel_rfl) ⟨k0, fun k hk => ?_⟩⟩
    have r0 := r0 k hk
    simp only at r0
    simp only [f14_eq]
    simp only [Option.bind_some, decide_eq_true_eq, decide_eq_false_iff_not, Bool.not_eq_true', Bool.not_true, Bool.not_false, Bool.false_eq_true, Bool.true_eq_false, Bool.not_eq_eq_eq_not, beq_self_eq_true, beqFT, beqTF, decide_true, decide_false, not_false_eq_true, not_true_eq_false, ne_eq, true_and, and_true, false_and, and_false, and_self, if_true, if_false, ite_true, ite_false, Bool.and_true, Bool.and_false, Bool.true_and, Bool.false_and, Bool.or_true, Bool.true_or, Bool.or_false, Bool.false_or, or_true, true_or, or_false, false_or, or_self, AV.asInt, AV.asBool, AV.asSl, AV.asPtr, AV.asFn, AV.asStr, AV.asMap, AV.asIfc, AV.item, List.length_cons, List.length_nil, List.getElem?_cons_zero, List.getElem?_cons_succ, Nat.zero_add, ← h1, r0, c0]
  have ln : l.length ≤ 200 := by omega
  obtain ⟨k1, r1⟩ := right13_run (al := 20) hT1 (by omega)
  cases hok : okW l 20 with
  | false =>
    rw [hok] at r1
    refine ⟨σ1, Runs.intro (fn := Try.f14) (by kernel_rfl) (by kernel_rfl) ⟨k0 + k1, fun k hk => ?_⟩⟩
    have r0 := r0 k (by omega)
    have r1 := r1 k (by omega)
    simp only at r0 r1
    simp only [f14_eq]
    simp only [Option.bind_some, decide_eq_true_eq, decide_eq_false_iff_not, Bool.not_eq_true', Bool.not_true, Bool.not_false, Bool.false_eq_true, Bool.true_eq_false, Bool.not_eq_eq_eq_not, beq_self_eq_true, beqFT, beqTF, decide_true, decide_false, not_false_eq_true, not_true_eq_false, ne_eq, true_and, and_true, false_and, and_false, and_self, if_true, if_false, ite_true, ite_false, Bool.and_true, Bool.and_false, Bool.true_and, Bool.false_and, Bool.or_true, Bool.true_or, Bool.or_false, Bool.false_or, or_true, true_or, or_false, false_or, or_self, AV.asInt, AV.asBool, AV.asSl, AV.asPtr, AV.asFn, AV.asStr, AV.asMap, AV.asIfc, AV.item, List.length_cons, List.length_nil, List.getElem?_cons_zero, List.getElem?_cons_succ, Nat.zero_add, ← h1, r0, c0, r1]
  | true =>
  rw [hok] at r1
  have hok2 : okW l 4000 = true := by
    obtain ⟨g1, g2, g3, g4⟩ := okW_iff.1 hok
    exact okW_iff.2 ⟨by omega, by omega, g3, fun x hx => by have := g4 x hx; omega⟩
  have small : ∀ x ∈ l, 0 ≤ x ∧ x ≤ 20 := (okW_iff.1 hok).2.2.2
  obtain ⟨p, w, σ2, ⟨k2, r2⟩, K2, M, W, pn⟩ := made_run (most := 20) hT1 hp1 hok
  have hp2 : σ2.prot ≤ σ2.objs.length := by rw [K2.prot]; have := K2.len; omega
  obtain ⟨p', w', σ3, ⟨k3, r3⟩, K3, M', W', pn'⟩ := made_run (most := 4000) (Store.Sl.kp hT1 K2) hp2 hok2
  have hp3 : σ3.prot ≤ σ3.objs.length := by rw [K3.prot]; have := K3.len; omega
  have ew : w = 5 := W.uniq ⟨by omega, by omega, by decide, .inr (by decide)⟩
  have ew' : w' = 12 := W'.uniq ⟨by omega, by omega, by decide, .inr (by decide)⟩
  have Ma := M.kp K3
  obtain ⟨h4, σ4, ps4, ⟨k4, r4⟩, K4, G4, lp4, _⟩ := levels_run Ma hp3
  have hp4 : σ4.prot ≤ σ4.objs.length := by rw [K4.prot]; have := K4.len; omega
  have Mb := M'.kp K4
  obtain ⟨h5, σ5, ps5, ⟨k5, r5⟩, K5, G5, lp5, _⟩ := levels_run Mb hp4
  have hp5 : σ5.prot ≤ σ5.objs.length := by rw [K5.prot]; have := K5.len; omega
  have l4 : (h4.len : Int) = 5 := by have := G4.sl.len; simp at this; omega
  have l5 : (h5.len : Int) = 12 := by have := G5.sl.len; simp at this; omega
  have N1 : Mat σ5 p l w := (Ma.kp K4).kp K5
  have N2 : Mat σ5 p' l w' := Mb.kp K5
  have R5 : σ5.Row σ.objs.length 2 [.int .i64 a0, .int .i64 a1] := (((R1.kp K2 R1.lt).kp K3 (R1.kp K2 R1.lt).lt).kp K4 ((R1.kp K2 R1.lt).kp K3 (R1.kp K2 R1.lt).lt).lt).kp K5 (((R1.kp K2 R1.lt).kp K3 (R1.kp K2 R1.lt).lt).kp K4 ((R1.kp K2 R1.lt).kp K3 (R1.kp K2 R1.lt).lt).lt).lt
  have e0 := row_int R5 (o := 0) rfl
  have e1 := row_int R5 (o := 1) rfl
  obtain ⟨n1, q1⟩ := matAt_run (N1.quiet σ5.objs.length) a0
  obtain ⟨n2, q2⟩ := matAt_run N2 a0
  obtain ⟨n3, q3⟩ := below_run (N1.quiet σ5.objs.length) a0 a1 c
  obtain ⟨n4, q4⟩ := below_run N2 a0 a1 c
  obtain ⟨v, ⟨n5, q5⟩, v1, v2⟩ := quantile_run (N1.quiet σ5.objs.length) a0 a1 c
  obtain ⟨v', ⟨n6, q6⟩, v1', v2'⟩ := quantile_run N2 a0 a1 c
  have ev : v = v' := by
    by_cases hk : 0 ≤ c ∧ c < (seg l a0 a1).length
    · obtain ⟨_, g1, g2⟩ := v1 hk
      obtain ⟨_, g3, g4⟩ := v1' hk
      exact quant_uniq g1 g2 g3 g4
    · rw [v2 hk, v2' hk]
  subst ev
  -- Distinct
  obtain ⟨h6, σ6q, ⟨n7, q7⟩, K6q, G6⟩ := matDistinct_run (N1.quiet σ5.objs.length) (by exact Nat.le_refl _) a0 a1
  obtain ⟨σ6, hσ6⟩ : ∃ s : Store, s = { σ6q with prot := σ5.prot } := ⟨_, rfl⟩
  have K6 : Kp σ5.objs.length σ5 σ6 := by rw [hσ6]; exact kp_q K6q
  have hp6 : σ6.prot ≤ σ6.objs.length := by rw [K6.prot]; have := K6.len; omega
  have S6 : σ6.Sl h6 2 (pairsL (dis (seg l a0 a1) 0 (2 ^ w))) := by rw [hσ6]; exact G6.sl.keep fun _ _ _ => rfl
  have N26 := N2.kp K6
  obtain ⟨h7, σ7, ⟨n8, q8⟩, K7, G7⟩ := matDistinct_run N26 hp6 a0 a1
  have hp7 : σ7.prot ≤ σ7.objs.length := by rw [K7.prot]; have := K7.len; omega
  have ed : dis (seg l a0 a1) 0 (2 ^ w') = dis (seg l a0 a1) 0 (2 ^ w) := by
    rw [ew, ew', show (2 : Nat) ^ 12 = 2 ^ 5 + 4064 by decide, dis_split, dis_none (lo := 0 + 2 ^ 5) (n := 4064), List.append_nil]
    intro x hx
    have := small x (seg_mem hx)
    omega
  have S7 := G7.sl
  rw [ed] at S7
  obtain ⟨n9, q9⟩ := same13_run (S6.kp K7) S7 (by have := dis_length (seg l a0 a1) 0 (2 ^ w); rw [ew] at this ⊢; omega)
  have K57 : Kp σ5.objs.length σ5 σ7 := K6.all K7
  have R7 := R5.kp K57 R5.lt
  have e07 := row_int R7 (o := 0) rfl
  have N17 := N1.kp K57
  -- Select
  obtain ⟨r, σ8q, ⟨n10, q10⟩, K8q, s1, s2⟩ := matSelect_run (N17.quiet σ7.objs.length) (by exact Nat.le_refl _) c a0
  obtain ⟨σ8, hσ8⟩ : ∃ s : Store, s = { σ8q with prot := σ7.prot } := ⟨_, rfl⟩
  have K8 : Kp σ7.objs.length σ7 σ8 := by rw [hσ8]; exact kp_q K8q
  have hp8 : σ8.prot ≤ σ8.objs.length := by rw [K8.prot]; have := K8.len; omega
  have R8 := R7.kp K8 R7.lt
  have e08 := row_int R8 (o := 0) rfl
  obtain ⟨r', σ9, ⟨n11, q11⟩, K9, t1, t2⟩ := matSelect_run ((N26.kp K7).kp K8) hp8 c a0
  have er : r = r' := by
    by_cases ex : ∃ P : Nat, P < l.length ∧ rd l P = c ∧ a0 = (Bs.cnt (fun x => decide (x = c)) (l.take P) : Nat)
    · obtain ⟨P, g1, g2, g3⟩ := ex
      rw [s1 P g1 g2 g3, t1 P g1 g2 g3]
    · have hno : ¬ (0 ≤ a0 ∧ a0 < Bs.cnt (fun x => decide (x = c)) l) := by
        rintro ⟨g1, g2⟩
        obtain ⟨P, h1, h2, h3⟩ := exists_kth (fun x => decide (x = c)) l a0.toNat (by omega)
        exact ex ⟨P, h1, by simpa using h2, by omega⟩
      rw [s2 hno, t2 hno]
  subst er
  refine ⟨σ9, Runs.intro (fn := Try.f14) (by kernel_rfl) (by kernel_rfl) ⟨k0 + k1 + k2 + k3 + k4 + k5 + n1 + n2 + n3 + n4 + n5 + n6 + n7 + n8 + n9 + n10 + n11, fun k hk => ?_⟩⟩
  have r0 := r0 k (by omega)
  have r1 := r1 k (by omega)
  have r2 := r2 k (by omega)
  have r3 := r3 k (by omega)
  have r4 := r4 k (by omega)
  have r5 := r5 k (by omega)
  have q1 := callG_same (q1 k (by omega))
  have q2 := q2 k (by omega)
  have q3 := callG_same (q3 k (by omega))
  have q4 := q4 k (by omega)
  have q5 := callG_same (q5 k (by omega))
  have q6 := q6 k (by omega)
  have q7 := callG_q (σ := σ5) (q7 k (by omega))
  have q8 := q8 k (by omega)
  have q9 := q9 k (by omega)
  have q10 := callG_q (σ := σ7) (q10 k (by omega))
  have q11 := q11 k (by omega)
  rw [← hσ6] at q7
  rw [← hσ8] at q10
  simp only at r0 r1 r2 r3 r4 r5 q1 q2 q3 q4 q5 q6 q7 q8 q9 q10 q11
  simp only [f14_eq]
  simp only [Option.bind_some, decide_eq_true_eq, decide_eq_false_iff_not, Bool.not_eq_true', Bool.not_true, Bool.not_false, Bool.false_eq_true, Bool.true_eq_false, Bool.not_eq_eq_eq_not, beq_self_eq_true, beqFT, beqTF, decide_true, decide_false, not_false_eq_true, not_true_eq_false, ne_eq, true_and, and_true, false_and, and_false, and_self, if_true, if_false, ite_true, ite_false, Bool.and_true, Bool.and_false, Bool.true_and, Bool.false_and, Bool.or_true, Bool.true_or, Bool.or_false, Bool.false_or, or_true, true_or, or_false, false_or, or_self, AV.asInt, AV.asBool, AV.asSl, AV.asPtr, AV.asFn, AV.asStr, AV.asMap, AV.asIfc, AV.item, List.length_cons, List.length_nil, List.getElem?_cons_zero, List.getElem?_cons_succ, Nat.zero_add, ← h1, r0, c0, r1, r2, r3, r4, l4, r5, l5, e0, e1, q1, q2, q3, q4, q5, q6, q7]
  have R6 := R5.kp K6 R5.lt
  have e06 := row_int R6 (o := 0) rfl
  have e16 := row_int R6 (o := 1) rfl
  simp only [Option.bind_some, decide_eq_true_eq, decide_eq_false_iff_not, Bool.not_eq_true', Bool.not_true, Bool.not_false, Bool.false_eq_true, Bool.true_eq_false, Bool.not_eq_eq_eq_not, beq_self_eq_true, beqFT, beqTF, decide_true, decide_false, not_false_eq_true, not_true_eq_false, ne_eq, true_and, and_true, false_and, and_false, and_self, if_true, if_false, ite_true, ite_false, Bool.and_true, Bool.and_false, Bool.true_and, Bool.false_and, Bool.or_true, Bool.true_or, Bool.or_false, Bool.false_or, or_true, true_or, or_false, false_or, or_self, AV.asInt, AV.asBool, AV.asSl, AV.asPtr, AV.asFn, AV.asStr, AV.asMap, AV.asIfc, AV.item, List.length_cons, List.length_nil, List.getElem?_cons_zero, List.getElem?_cons_succ, Nat.zero_add, e06, e16, q8, q9, e07, q10, e08, q11]
end Go.Ab

/- The reference's parts, sorted rows, pairs. -/
namespace Go.Ab
open Go Go.Proofs Go.Ab.Wd Go.Ab.Bs Go.Ab.Sai
set_option linter.unusedVariables false
set_option linter.unusedSimpArgs false
/-! ### plain -/
def leN (x : Int) : List Int → Nat
  | [] => 0
  | y :: o => if y ≤ x then leN x o + 1 else 0
def insr (x : Int) : List Int → List Int
  | [] => [x]
  | y :: o => if y ≤ x then y :: insr x o else x :: y :: o
theorem ins_eq (x : Int) : ∀ o : List Int, leN x o ≤ o.length ∧ o.take (leN x o) ++ x :: o.drop (leN x o) = insr x o
  | [] => by simp [leN, insr]
  | y :: o => by
    obtain ⟨h1, h2⟩ := ins_eq x o
    unfold leN insr
    by_cases c : y ≤ x
    · rw [if_pos c, if_pos c]; simp; exact ⟨h1, h2⟩
    · rw [if_neg c, if_neg c]; simp
theorem mem_insr {x z : Int} : ∀ {o : List Int}, z ∈ insr x o ↔ z = x ∨ z ∈ o
  | [] => by simp [insr]
  | y :: o => by
    unfold insr
    by_cases c : y ≤ x
    · rw [if_pos c, List.mem_cons, mem_insr, List.mem_cons]
      constructor
      · rintro (h | h | h) <;> simp [h]
      · rintro (h | h | h) <;> simp [h]
    · rw [if_neg c, List.mem_cons]
theorem insr_srt {x : Int} : ∀ {o : List Int}, o.Pairwise (· ≤ ·) → (insr x o).Pairwise (· ≤ ·)
  | [], _ => by simp [insr]
  | y :: o, h => by
    have h1 := List.pairwise_cons.1 h
    unfold insr
    by_cases c : y ≤ x
    · rw [if_pos c]
      refine List.pairwise_cons.2 ⟨fun z hz => ?_, insr_srt h1.2⟩
      rcases mem_insr.1 hz with h | h
      · rw [h]; exact c
      · exact h1.1 z h
    · rw [if_neg c]
      refine List.pairwise_cons.2 ⟨fun z hz => ?_, h⟩
      rcases List.mem_cons.1 hz with h | h
      · omega
      · have := h1.1 z h; omega
theorem cnt_insr (p : Int → Bool) (x : Int) : ∀ o : List Int, Bs.cnt p (insr x o) = Bs.cnt p o + if p x = true then 1 else 0
  | [] => by
    show Bs.cnt p [x] = _
    rw [Bs.cnt_cons, Nat.add_comm]
  | y :: o => by
    unfold insr
    by_cases c : y ≤ x
    · rw [if_pos c, Bs.cnt_cons, cnt_insr p x o, Bs.cnt_cons]; omega
    · rw [if_neg c, Bs.cnt_cons, Bs.cnt_cons]; omega
def srt (l : List Int) : List Int := l.foldl (fun o x => insr x o) []
theorem srt_take {l : List Int} {i : Nat} (hi : i < l.length) : srt (l.take (i + 1)) = insr (rd l i) (srt (l.take i)) := by
  unfold srt; rw [take_rd hi, List.foldl_append]; rfl
theorem srt_take_all (l : List Int) (p : Int → Bool) : ∀ i, i ≤ l.length → (srt (l.take i)).Pairwise (· ≤ ·) ∧ Bs.cnt p (srt (l.take i)) = Bs.cnt p (l.take i)
  | 0, _ => by simp [srt]
  | i + 1, h => by
    obtain ⟨h1, h2⟩ := srt_take_all l p i (by omega)
    rw [srt_take (by omega), cnt_insr, h2, cnt_take_succ p (by omega : i < l.length)]
    exact ⟨insr_srt h1, rfl⟩
theorem srt_spec (l : List Int) : (srt l).Pairwise (· ≤ ·) ∧ ∀ p, Bs.cnt p (srt l) = Bs.cnt p l := by
  have := fun p => srt_take_all l p l.length (Nat.le_refl _)
  rw [List.take_length] at this
  exact ⟨(this fun _ => true).1, fun p => (this p).2⟩
theorem srt_length (l : List Int) : (srt l).length = l.length := by
  have := (srt_spec l).2 fun _ => true
  unfold Bs.cnt at this
  rw [List.filter_eq_self.2 (by simp), List.filter_eq_self.2 (by simp)] at this
  exact this
theorem srt_kth {S : List Int} (h : S.Pairwise (· ≤ ·)) {k : Nat} (hk : k < S.length) : Bs.cnt (fun x => decide (x < rd S k)) S ≤ k ∧ k < Bs.cnt (fun x => decide (x < rd S k)) S + Bs.cnt (fun x => decide (x = rd S k)) S := by
  have e : S = S.take k ++ rd S k :: S.drop (k + 1) := by rw [← drop_rd hk, List.take_append_drop]
  generalize rd S k = u at e
  rw [e] at h ⊢
  have hp := List.pairwise_append.1 h
  have lk : (S.take k).length = k := by simp; omega
  have a0 : Bs.cnt (fun x => decide (x < u)) (S.drop (k + 1)) = 0 := by
    unfold Bs.cnt; rw [List.filter_eq_nil_iff.2]
    · rfl
    · intro x hx; have := (List.pairwise_cons.1 hp.2.1).1 x hx; simp; omega
  have a1 : Bs.cnt (fun x => decide (x < u)) (S.take k) + Bs.cnt (fun x => decide (x = u)) (S.take k) = k := by
    rw [← cnt_or _ (fun x _ => by simp; omega)]
    unfold Bs.cnt
    rw [List.filter_eq_self.2]
    · exact lk
    · intro x hx; have := hp.2.2 x hx u (by simp); simp; omega
  have a2 := cnt_le (fun x => decide (x < u)) (S.take k)
  rw [cnt_append, cnt_append, Bs.cnt_cons, Bs.cnt_cons, a0, if_neg (by simp), if_pos (by simp)]
  omega
theorem dis_lt {s : List Int} {lo n i : Nat} {u v : Int} (h : (dis s lo n)[i]? = some (u, v)) : u < (lo + n : Nat) := by
  unfold dis at h
  rw [List.getElem?_map] at h
  cases hh : ((List.range' lo n).filter fun v : Nat => decide (0 < Bs.cnt (fun x => decide (x = (v : Int))) s))[i]? with
  | none => rw [hh] at h; cases h
  | some z =>
    rw [hh] at h; injection h with h; injection h with h1 h2; subst h1
    have := (List.mem_filter.1 (List.mem_of_getElem? hh)).1
    simp only [List.mem_range'_1] at this; omega
theorem dis_congr {s t : List Int} {lo n : Nat} (h : ∀ v : Nat, lo ≤ v → v < lo + n → Bs.cnt (fun x => decide (x = (v : Int))) s = Bs.cnt (fun x => decide (x = (v : Int))) t) : dis s lo n = dis t lo n := by
  unfold dis
  have e : ((List.range' lo n).filter fun v : Nat => decide (0 < Bs.cnt (fun x => decide (x = (v : Int))) s)) = ((List.range' lo n).filter fun v : Nat => decide (0 < Bs.cnt (fun x => decide (x = (v : Int))) t)) := by
    apply List.filter_congr
    intro v hv
    simp only [List.mem_range'_1] at hv
    rw [h v hv.1 hv.2]
  rw [e]
  apply List.map_congr_left
  intro v hv
  have hv := (List.mem_filter.1 hv).1
  simp only [List.mem_range'_1] at hv
  rw [h v hv.1 hv.2]
theorem dis_snoc {T : List Int} {x N : Nat} (hT : ∀ y ∈ T, 0 ≤ y ∧ y ≤ x) (hx : x < N) :
    dis T 0 N = dis T 0 x ++ (if 0 < Bs.cnt (fun y => decide (y = (x : Int))) T then [((x : Int), ((Bs.cnt (fun y => decide (y = (x : Int))) T : Nat) : Int))] else []) ∧
    dis (T ++ [(x : Int)]) 0 N = dis T 0 x ++ [((x : Int), ((Bs.cnt (fun y => decide (y = (x : Int))) T + 1 : Nat) : Int))] := by
  have c1 : Bs.cnt (fun y => decide (y = (x : Int))) (T ++ [(x : Int)]) = Bs.cnt (fun y => decide (y = (x : Int))) T + 1 := by rw [cnt_append, Bs.cnt_cons]; simp [Bs.cnt]
  have eN : N = x + (1 + (N - x - 1)) := by omega
  constructor
  · conv => lhs; rw [eN, dis_split, dis_split]
    rw [Nat.zero_add, dis_one, dis_none (lo := x + 1), List.append_nil]
    intro y hy; have := hT y hy; omega
  · conv => lhs; rw [eN, dis_split, dis_split]
    rw [Nat.zero_add, dis_one, dis_none (lo := x + 1), List.append_nil, c1, if_pos (by omega)]
    · congr 1
      apply dis_congr
      intro v _ hv
      rw [cnt_append, Bs.cnt_cons, if_neg (by simp; omega)]; simp [Bs.cnt]
    · intro y hy
      rcases List.mem_append.1 hy with h | h
      · have := hT y h; omega
      · rw [List.mem_singleton] at h; omega
/-! ### Part -/
def pt (l : List Int) (a b : Int) (i : Nat) : List Int := (l.take (min i b.toNat)).drop a.toNat
theorem pt_end (l : List Int) (a b : Int) : pt l a b l.length = seg l a b := by
  unfold pt seg segLo segHi
  have e1 : (max a 0).toNat = a.toNat := by omega
  rw [e1]
  by_cases c : a.toNat ≤ min l.length b.toNat
  · congr 2; omega
  · rw [List.drop_eq_nil_iff.2 (by simp; omega), List.drop_eq_nil_iff.2 (by simp; omega)]
theorem part13_run {σ : Store} {h : Hdl} {l : List Int} (hT : σ.Ints h l) (hp : σ.prot ≤ σ.objs.length) (hn : l.length < 2 ^ 40) (a b : Int) :
    ∃ ho σ', Runs Try.prog 38 [.slice h, .int .i64 a, .int .i64 b] σ (.slice ho) σ' ∧ Kp σ.objs.length σ σ' ∧ GrowI σ' σ.objs.length ho (seg l a b) := by
  have ll := hT.ilen
  obtain ⟨r, e, ho, σ', rfl, h1, h2⟩ := EvI.up (f := fun k s => stepF Try.prog (gm Try.prog k) drawn k Try.f38 [1, 1, 0, 1, 0] [12, 11, 10, 7, 2, 1] s) l.length
    (fun i s => ∃ ho s1, s = ([.int .i64 i, .int .i64 l.length, .slice h, .slice ho, .int .i64 b, .int .i64 a], s1) ∧ Kp σ.objs.length σ s1 ∧ GrowI s1 σ.objs.length ho (pt l a b i))
    (fun r => ∃ ho s1, r = (AX.exit 0, [(7, .slice ho)], s1) ∧ Kp σ.objs.length σ s1 ∧ GrowI s1 σ.objs.length ho (pt l a b l.length))
    (by
      rintro i s hi ⟨ho, s1, rfl, kk, g⟩
      have i0 : (0 : Int) ≤ i := by omega
      have i1 : (i : Int) < l.length := by omega
      have w := wsucc hi (by omega)
      have hTs : s1.Ints h l := Store.Sl.kp hT kk
      have rx := hTs.rd i0 i1
      by_cases c1 : a ≤ i
      · by_cases c2 : (i : Int) < b
        · have e1 : pt l a b (i + 1) = pt l a b i ++ [rd l i] := by
            unfold pt
            rw [show min (i + 1) b.toNat = i + 1 by omega, show min i b.toNat = i by omega, take_rd hi, List.drop_append_of_le_length (by simp; omega)]
          obtain ⟨h', s2, e2, k2, g2⟩ := g.app (by rw [kk.prot]; exact hp) kk.len (rd l i) (by unfold pt; simp; omega)
          exact ⟨_, Ev.of fun m => by simp only [f38_L11010]; simp only [Option.bind_some, decide_eq_true_eq, decide_eq_false_iff_not, Bool.not_eq_true', Bool.not_true, Bool.not_false, Bool.false_eq_true, Bool.true_eq_false, Bool.not_eq_eq_eq_not, beq_self_eq_true, beqFT, beqTF, decide_true, decide_false, not_false_eq_true, not_true_eq_false, ne_eq, true_and, and_true, false_and, and_false, and_self, if_true, if_false, ite_true, ite_false, Bool.and_true, Bool.and_false, Bool.true_and, Bool.false_and, Bool.or_true, Bool.true_or, Bool.or_false, Bool.false_or, or_true, true_or, or_false, false_or, or_self, AV.asInt, AV.asBool, AV.asSl, AV.asPtr, AV.asFn, AV.asStr, AV.asMap, AV.asIfc, AV.item, List.length_cons, List.length_nil, List.getElem?_cons_zero, List.getElem?_cons_succ, Nat.zero_add, ll, i0, i1, rx, c1, c2, read1, e2, w], h', s2, rfl, kk.trans k2, by rw [e1]; exact g2⟩
        · have e1 : pt l a b (i + 1) = pt l a b i := by unfold pt; rw [show min (i + 1) b.toNat = min i b.toNat by omega]
          exact ⟨_, Ev.of fun m => by simp only [f38_L11010]; simp only [Option.bind_some, decide_eq_true_eq, decide_eq_false_iff_not, Bool.not_eq_true', Bool.not_true, Bool.not_false, Bool.false_eq_true, Bool.true_eq_false, Bool.not_eq_eq_eq_not, beq_self_eq_true, beqFT, beqTF, decide_true, decide_false, not_false_eq_true, not_true_eq_false, ne_eq, true_and, and_true, false_and, and_false, and_self, if_true, if_false, ite_true, ite_false, Bool.and_true, Bool.and_false, Bool.true_and, Bool.false_and, Bool.or_true, Bool.true_or, Bool.or_false, Bool.false_or, or_true, true_or, or_false, false_or, or_self, AV.asInt, AV.asBool, AV.asSl, AV.asPtr, AV.asFn, AV.asStr, AV.asMap, AV.asIfc, AV.item, List.length_cons, List.length_nil, List.getElem?_cons_zero, List.getElem?_cons_succ, Nat.zero_add, ll, i0, i1, rx, c1, c2, w], ho, s1, rfl, kk, by rw [e1]; exact g⟩
      · have e1 : pt l a b (i + 1) = pt l a b i := by
          unfold pt; rw [List.drop_eq_nil_iff.2 (by simp; omega), List.drop_eq_nil_iff.2 (by simp; omega)]
        exact ⟨_, Ev.of fun m => by simp only [f38_L11010]; simp only [Option.bind_some, decide_eq_true_eq, decide_eq_false_iff_not, Bool.not_eq_true', Bool.not_true, Bool.not_false, Bool.false_eq_true, Bool.true_eq_false, Bool.not_eq_eq_eq_not, beq_self_eq_true, beqFT, beqTF, decide_true, decide_false, not_false_eq_true, not_true_eq_false, ne_eq, true_and, and_true, false_and, and_false, and_self, if_true, if_false, ite_true, ite_false, Bool.and_true, Bool.and_false, Bool.true_and, Bool.false_and, Bool.or_true, Bool.true_or, Bool.or_false, Bool.false_or, or_true, true_or, or_false, false_or, or_self, AV.asInt, AV.asBool, AV.asSl, AV.asPtr, AV.asFn, AV.asStr, AV.asMap, AV.asIfc, AV.item, List.length_cons, List.length_nil, List.getElem?_cons_zero, List.getElem?_cons_succ, Nat.zero_add, ll, i0, i1, rx, c1, w], ho, s1, rfl, kk, by rw [e1]; exact g⟩)
    (by
      rintro s ⟨ho, s1, rfl, kk, g⟩
      exact ⟨(AX.exit 0, [(7, .slice ho)], s1), Ev.of fun m => by simp only [f38_L11010]; simp only [Option.bind_some, decide_eq_true_eq, decide_eq_false_iff_not, Bool.not_eq_true', Bool.not_true, Bool.not_false, Bool.false_eq_true, Bool.true_eq_false, Bool.not_eq_eq_eq_not, beq_self_eq_true, beqFT, beqTF, decide_true, decide_false, not_false_eq_true, not_true_eq_false, ne_eq, true_and, and_true, false_and, and_false, and_self, if_true, if_false, ite_true, ite_false, Bool.and_true, Bool.and_false, Bool.true_and, Bool.false_and, Bool.or_true, Bool.true_or, Bool.or_false, Bool.false_or, or_true, true_or, or_false, false_or, or_self, AV.asInt, AV.asBool, AV.asSl, AV.asPtr, AV.asFn, AV.asStr, AV.asMap, AV.asIfc, AV.item, List.length_cons, List.length_nil, List.getElem?_cons_zero, List.getElem?_cons_succ, Nat.zero_add, Int.lt_irrefl], ho, s1, rfl, kk, g⟩)
    (s := ([.int .i64 0, .int .i64 l.length, .slice h, .slice Hdl.nil, .int .i64 b, .int .i64 a], σ)) ⟨Hdl.nil, σ, rfl, Kp.refl _ _, by rw [show pt l a b 0 = [] by simp [pt]]; exact Grow.nil _ _ _⟩
  rw [pt_end] at h2
  refine ⟨ho, σ', Runs.intro (fn := Try.f38) (by kernel_rfl) (by kernel_rfl) ?_, h1, h2⟩
  exact (Ev.bind (loopF_ev e) (Ev.of fun k => f38_X11010_1 (gm Try.prog k) k _ _)).congr fun k => by rw [f38_eq, ll]
/-! ### Sorted -/
theorem sort_find {σ : Store} {ho h : Hdl} {o : List Int} {a b x : Int} (hO : σ.Ints ho o) (hn : o.length < 2 ^ 40) :
    EvI (fun k s => stepF Try.prog (gm Try.prog k) drawn k Try.f39 [1, 1, 0, 1, 0, 0, 1, 1, 0, 0, 1, 1, 0, 0] [10, 9, 8, 6, 5, 3] s)
      ([.int .i64 a, .int .i64 b, .slice h, .int .i64 0, .int .i64 x, .slice ho], σ) (AX.exit 2, [(10, .int .i64 a), (9, .int .i64 b), (8, .slice h), (6, .int .i64 (leN x o)), (5, .int .i64 x), (3, .slice ho)], σ) := by
  have ll := hO.ilen
  obtain ⟨r, e, q⟩ := EvI.upX (f := fun k s => stepF Try.prog (gm Try.prog k) drawn k Try.f39 [1, 1, 0, 1, 0, 0, 1, 1, 0, 0, 1, 1, 0, 0] [10, 9, 8, 6, 5, 3] s) o.length
    (fun i s => s = ([.int .i64 a, .int .i64 b, .slice h, .int .i64 i, .int .i64 x, .slice ho], σ) ∧ leN x o = i + leN x (o.drop i))
    (fun r => r = (AX.exit 2, [(10, .int .i64 a), (9, .int .i64 b), (8, .slice h), (6, .int .i64 (leN x o)), (5, .int .i64 x), (3, .slice ho)], σ))
    (by
      rintro i s hi ⟨rfl, hq⟩
      have i0 : (0 : Int) ≤ i := by omega
      have i1 : (i : Int) < o.length := by omega
      have w : IntKind.wrap .i64 ((i : Int) + 1) = (i + 1 : Nat) := wrap64 (by omega) (by omega)
      rw [drop_rd hi, leN] at hq
      by_cases c : rd o i ≤ x
      · rw [if_pos c] at hq
        exact .inl ⟨_, Ev.of fun k => by simp only [f39_L11010011001100]; simp only [Option.bind_some, decide_eq_true_eq, decide_eq_false_iff_not, Bool.not_eq_true', Bool.not_true, Bool.not_false, Bool.false_eq_true, Bool.true_eq_false, Bool.not_eq_eq_eq_not, beq_self_eq_true, beqFT, beqTF, decide_true, decide_false, not_false_eq_true, not_true_eq_false, ne_eq, true_and, and_true, false_and, and_false, and_self, if_true, if_false, ite_true, ite_false, Bool.and_true, Bool.and_false, Bool.true_and, Bool.false_and, Bool.or_true, Bool.true_or, Bool.or_false, Bool.false_or, or_true, true_or, or_false, false_or, or_self, AV.asInt, AV.asBool, AV.asSl, AV.asPtr, AV.asFn, AV.asStr, AV.asMap, AV.asIfc, AV.item, List.length_cons, List.length_nil, List.getElem?_cons_zero, List.getElem?_cons_succ, Nat.zero_add, ll, i0, i1, hO.rd i0 i1, c, w], rfl, by omega⟩
      · rw [if_neg c] at hq
        exact .inr ⟨_, Ev.of fun k => by simp only [f39_L11010011001100]; simp only [Option.bind_some, decide_eq_true_eq, decide_eq_false_iff_not, Bool.not_eq_true', Bool.not_true, Bool.not_false, Bool.false_eq_true, Bool.true_eq_false, Bool.not_eq_eq_eq_not, beq_self_eq_true, beqFT, beqTF, decide_true, decide_false, not_false_eq_true, not_true_eq_false, ne_eq, true_and, and_true, false_and, and_false, and_self, if_true, if_false, ite_true, ite_false, Bool.and_true, Bool.and_false, Bool.true_and, Bool.false_and, Bool.or_true, Bool.true_or, Bool.or_false, Bool.false_or, or_true, true_or, or_false, false_or, or_self, AV.asInt, AV.asBool, AV.asSl, AV.asPtr, AV.asFn, AV.asStr, AV.asMap, AV.asIfc, AV.item, List.length_cons, List.length_nil, List.getElem?_cons_zero, List.getElem?_cons_succ, Nat.zero_add, ll, i0, i1, hO.rd i0 i1, c, hq, Nat.add_zero], rfl⟩)
    (by
      rintro s ⟨rfl, hq⟩
      rw [List.drop_length, leN, Nat.add_zero] at hq
      exact ⟨_, Ev.of fun k => by simp only [f39_L11010011001100]; simp only [Option.bind_some, decide_eq_true_eq, decide_eq_false_iff_not, Bool.not_eq_true', Bool.not_true, Bool.not_false, Bool.false_eq_true, Bool.true_eq_false, Bool.not_eq_eq_eq_not, beq_self_eq_true, beqFT, beqTF, decide_true, decide_false, not_false_eq_true, not_true_eq_false, ne_eq, true_and, and_true, false_and, and_false, and_self, if_true, if_false, ite_true, ite_false, Bool.and_true, Bool.and_false, Bool.true_and, Bool.false_and, Bool.or_true, Bool.true_or, Bool.or_false, Bool.false_or, or_true, true_or, or_false, false_or, or_self, AV.asInt, AV.asBool, AV.asSl, AV.asPtr, AV.asFn, AV.asStr, AV.asMap, AV.asIfc, AV.item, List.length_cons, List.length_nil, List.getElem?_cons_zero, List.getElem?_cons_succ, Nat.zero_add, ll, Int.lt_irrefl, hq], rfl⟩)
    (Nat.zero_le _) (s := ([.int .i64 a, .int .i64 b, .slice h, .int .i64 0, .int .i64 x, .slice ho], σ)) ⟨rfl, by simp⟩
  subst q; exact e
theorem sort_shift {σ : Store} {n : Nat} {h ho : Hdl} {o : List Int} {at_ : Nat} {a b p : Int} (hpr : σ.prot ≤ n) (hn : o.length < 2 ^ 41) (ha : at_ ≤ o.length) (m : Nat) : ∀ (σ1 : Store) (x : Int), at_ + m ≤ o.length → Kp n σ σ1 → GrowI σ1 n ho (o.take (at_ + m) ++ x :: o.drop (at_ + m)) →
    ∃ σ2 y, EvI (fun k s => stepF Try.prog (gm Try.prog k) drawn k Try.f39 [1, 1, 0, 1, 0, 0, 1, 1, 0, 0, 1, 1, 1, 1, 0, 1, 0] [10, 9, 8, 7, 6, 5, 3] s)
      ([.int .i64 a, .int .i64 b, .slice h, .int .i64 (at_ + m : Nat), .int .i64 at_, .int .i64 p, .slice ho], σ1) (AX.exit 4, [(10, .int .i64 a), (9, .int .i64 b), (8, .slice h), (6, .int .i64 at_), (5, .int .i64 p), (3, .slice ho)], σ2) ∧
      Kp n σ σ2 ∧ GrowI σ2 n ho (o.take at_ ++ y :: o.drop at_) := by
  induction m with
  | zero =>
    intro σ1 x hm k1 g
    exact ⟨σ1, x, EvI.done (Ev.of fun k => by simp only [f39_L11010011001111010]; simp only [Option.bind_some, decide_eq_true_eq, decide_eq_false_iff_not, Bool.not_eq_true', Bool.not_true, Bool.not_false, Bool.false_eq_true, Bool.true_eq_false, Bool.not_eq_eq_eq_not, beq_self_eq_true, beqFT, beqTF, decide_true, decide_false, not_false_eq_true, not_true_eq_false, ne_eq, true_and, and_true, false_and, and_false, and_self, if_true, if_false, ite_true, ite_false, Bool.and_true, Bool.and_false, Bool.true_and, Bool.false_and, Bool.or_true, Bool.true_or, Bool.or_false, Bool.false_or, or_true, true_or, or_false, false_or, or_self, AV.asInt, AV.asBool, AV.asSl, AV.asPtr, AV.asFn, AV.asStr, AV.asMap, AV.asIfc, AV.item, List.length_cons, List.length_nil, List.getElem?_cons_zero, List.getElem?_cons_succ, Nat.zero_add, Nat.add_zero, Int.lt_irrefl]), k1, g⟩
  | succ m ih =>
    intro σ1 x hm k1 g
    have ll := g.ints.ilen
    have lL : (o.take (at_ + (m + 1)) ++ x :: o.drop (at_ + (m + 1))).length = o.length + 1 := by simp; omega
    have w : IntKind.wrap .i64 (((at_ + (m + 1) : Nat) : Int) - 1) = ((at_ + m : Nat) : Int) := by rw [wrap64 (by omega) (by omega)]; omega
    have c1 : (at_ : Int) < (at_ + (m + 1) : Nat) := by omega
    have c2 : (0 : Int) ≤ (at_ + m : Nat) := by omega
    have c3 : ((at_ + m : Nat) : Int) < ho.len := by omega
    have c4 : (0 : Int) ≤ (at_ + (m + 1) : Nat) := by omega
    have c5 : ((at_ + (m + 1) : Nat) : Int) < ho.len := by omega
    have r1 := g.ints.rd c2 (by omega)
    obtain ⟨σ2, e2, k2, g2, _⟩ := growN_st (k := .i64) g (by rw [k1.prot]; exact hpr) c4 (by omega) (rd (o.take (at_ + (m + 1)) ++ x :: o.drop (at_ + (m + 1))) ((at_ + m : Nat) : Int))
    have sm := set_mid (l := o) (i := at_ + (m + 1)) (by omega) hm x
    rw [show ((at_ + (m + 1) : Nat) : Int) - 1 = ((at_ + m : Nat) : Int) by omega, show at_ + (m + 1) - 1 = at_ + m by omega] at sm
    rw [show ((at_ + (m + 1) : Nat) : Int).toNat = at_ + (m + 1) by omega, sm] at g2
    obtain ⟨σ3, y, e3, k3, g3⟩ := ih σ2 _ (by omega) (k1.trans k2) g2
    exact ⟨σ3, y, EvI.step (Ev.of fun k => by simp only [f39_L11010011001111010]; simp only [Option.bind_some, decide_eq_true_eq, decide_eq_false_iff_not, Bool.not_eq_true', Bool.not_true, Bool.not_false, Bool.false_eq_true, Bool.true_eq_false, Bool.not_eq_eq_eq_not, beq_self_eq_true, beqFT, beqTF, decide_true, decide_false, not_false_eq_true, not_true_eq_false, ne_eq, true_and, and_true, false_and, and_false, and_self, if_true, if_false, ite_true, ite_false, Bool.and_true, Bool.and_false, Bool.true_and, Bool.false_and, Bool.or_true, Bool.true_or, Bool.or_false, Bool.false_or, or_true, true_or, or_false, false_or, or_self, AV.asInt, AV.asBool, AV.asSl, AV.asPtr, AV.asFn, AV.asStr, AV.asMap, AV.asIfc, AV.item, List.length_cons, List.length_nil, List.getElem?_cons_zero, List.getElem?_cons_succ, Nat.zero_add, c1, w, c2, c3, c4, c5, r1, e2]) e3, k3, g3⟩
theorem sorted13_run {σ : Store} {h : Hdl} {l : List Int} (hT : σ.Ints h l) (hp : σ.prot ≤ σ.objs.length) (hn : l.length < 2 ^ 40) :
    ∃ ho σ', Runs Try.prog 39 [.slice h] σ (.slice ho) σ' ∧ Kp σ.objs.length σ σ' ∧ GrowI σ' σ.objs.length ho (srt l) := by
  have ll := hT.ilen
  obtain ⟨r, e, ho, σ', rfl, h1, h2⟩ := EvI.up (f := fun k s => stepF Try.prog (gm Try.prog k) drawn k Try.f39 [1, 1, 0, 1, 0] [10, 9, 8, 3] s) l.length
    (fun i s => ∃ ho s1, s = ([.int .i64 i, .int .i64 l.length, .slice h, .slice ho], s1) ∧ Kp σ.objs.length σ s1 ∧ GrowI s1 σ.objs.length ho (srt (l.take i)))
    (fun r => ∃ ho s1, r = (AX.exit 0, [(3, .slice ho)], s1) ∧ Kp σ.objs.length σ s1 ∧ GrowI s1 σ.objs.length ho (srt l))
    (by
      rintro i s hi ⟨ho, s1, rfl, kk, g⟩
      have i0 : (0 : Int) ≤ i := by omega
      have i1 : (i : Int) < l.length := by omega
      have w := wsucc hi (by omega)
      have hTs : s1.Ints h l := Store.Sl.kp hT kk
      have rx := hTs.rd i0 i1
      have p1 : s1.prot ≤ σ.objs.length := by rw [kk.prot]; exact hp
      obtain ⟨o, ho_⟩ : ∃ o, o = srt (l.take i) := ⟨_, rfl⟩
      have lo : o.length = i := by rw [ho_, srt_length]; simp; omega
      rw [← ho_] at g
      obtain ⟨n1, e1⟩ := loopF_ev (sort_find (h := h) (a := i) (b := l.length) (x := rd l i) g.ints (by omega))
      obtain ⟨la, ie⟩ := ins_eq (rd l i) o
      obtain ⟨h', s2, e2, k2, g2⟩ := g.app p1 kk.len 0 (by omega)
      have lh2 := g2.ints.ilen
      rw [List.length_append] at lh2
      have g2' : GrowI s2 σ.objs.length h' (o.take (leN (rd l i) o + (o.length - leN (rd l i) o)) ++ 0 :: o.drop (leN (rd l i) o + (o.length - leN (rd l i) o))) := by
        rw [show leN (rd l i) o + (o.length - leN (rd l i) o) = o.length by omega, List.take_length, List.drop_length]; exact g2
      obtain ⟨s3, y, e3, k3, g3⟩ := sort_shift (h := h) (a := i) (b := l.length) (p := rd l i) p1 (by omega) la _ s2 0 (by omega) k2 g2'
      obtain ⟨n3, e3⟩ := loopF_ev e3
      have lh3 := g3.ints.ilen
      rw [List.length_append, List.length_cons] at lh3
      have lt : (o.take (leN (rd l i) o)).length + ((o.drop (leN (rd l i) o)).length + 1) = o.length + 1 := by simp; omega
      obtain ⟨s4, e4, k4, g4, _⟩ := growN_st (k := .i64) g3 (by rw [k3.prot]; exact p1) (i := (leN (rd l i) o : Nat)) (by omega) (by rw [List.length_append, List.length_cons]; omega) (rd l i)
      rw [Int.toNat_natCast, set_at la, ie] at g4
      have wm : IntKind.wrap .i64 ((h'.len : Int) - 1) = ((leN (rd l i) o + (o.length - leN (rd l i) o) : Nat) : Int) := by
        simp only [List.length_cons, List.length_nil] at lh2
        rw [wrap64 (by omega) (by omega)]; omega
      have c1 : (0 : Int) ≤ (leN (rd l i) o : Nat) := by omega
      have c2 : ((leN (rd l i) o : Nat) : Int) < h'.len := by omega
      refine ⟨_, ⟨n1 + n3, fun k hk => ?_⟩, h', s4, rfl, (kk.trans k3).trans k4, ?_⟩
      · have e1 := e1 k (by omega)
        have e3 := e3 k (by omega)
        simp only at e1 e3
        simp only [f39_L11010]
        simp only [Option.bind_some, decide_eq_true_eq, decide_eq_false_iff_not, Bool.not_eq_true', Bool.not_true, Bool.not_false, Bool.false_eq_true, Bool.true_eq_false, Bool.not_eq_eq_eq_not, beq_self_eq_true, beqFT, beqTF, decide_true, decide_false, not_false_eq_true, not_true_eq_false, ne_eq, true_and, and_true, false_and, and_false, and_self, if_true, if_false, ite_true, ite_false, Bool.and_true, Bool.and_false, Bool.true_and, Bool.false_and, Bool.or_true, Bool.true_or, Bool.or_false, Bool.false_or, or_true, true_or, or_false, false_or, or_self, AV.asInt, AV.asBool, AV.asSl, AV.asPtr, AV.asFn, AV.asStr, AV.asMap, AV.asIfc, AV.item, List.length_cons, List.length_nil, List.getElem?_cons_zero, List.getElem?_cons_succ, Nat.zero_add, ll, i0, i1, rx, e1]
        rw [f39_X11010011001100_1]
        simp only [Option.bind_some, decide_eq_true_eq, decide_eq_false_iff_not, Bool.not_eq_true', Bool.not_true, Bool.not_false, Bool.false_eq_true, Bool.true_eq_false, Bool.not_eq_eq_eq_not, beq_self_eq_true, beqFT, beqTF, decide_true, decide_false, not_false_eq_true, not_true_eq_false, ne_eq, true_and, and_true, false_and, and_false, and_self, if_true, if_false, ite_true, ite_false, Bool.and_true, Bool.and_false, Bool.true_and, Bool.false_and, Bool.or_true, Bool.true_or, Bool.or_false, Bool.false_or, or_true, true_or, or_false, false_or, or_self, AV.asInt, AV.asBool, AV.asSl, AV.asPtr, AV.asFn, AV.asStr, AV.asMap, AV.asIfc, AV.item, List.length_cons, List.length_nil, List.getElem?_cons_zero, List.getElem?_cons_succ, Nat.zero_add, read1, e2, wm, e3]
        rw [f39_X11010011001111010_1]
        simp only [Option.bind_some, decide_eq_true_eq, decide_eq_false_iff_not, Bool.not_eq_true', Bool.not_true, Bool.not_false, Bool.false_eq_true, Bool.true_eq_false, Bool.not_eq_eq_eq_not, beq_self_eq_true, beqFT, beqTF, decide_true, decide_false, not_false_eq_true, not_true_eq_false, ne_eq, true_and, and_true, false_and, and_false, and_self, if_true, if_false, ite_true, ite_false, Bool.and_true, Bool.and_false, Bool.true_and, Bool.false_and, Bool.or_true, Bool.true_or, Bool.or_false, Bool.false_or, or_true, true_or, or_false, false_or, or_self, AV.asInt, AV.asBool, AV.asSl, AV.asPtr, AV.asFn, AV.asStr, AV.asMap, AV.asIfc, AV.item, List.length_cons, List.length_nil, List.getElem?_cons_zero, List.getElem?_cons_succ, Nat.zero_add, c1, c2, e4, w]
      · rw [srt_take hi, ← ho_]; exact g4)
    (by
      rintro s ⟨ho, s1, rfl, kk, g⟩
      rw [List.take_length] at g
      exact ⟨(AX.exit 0, [(3, .slice ho)], s1), Ev.of fun m => by simp only [f39_L11010]; simp only [Option.bind_some, decide_eq_true_eq, decide_eq_false_iff_not, Bool.not_eq_true', Bool.not_true, Bool.not_false, Bool.false_eq_true, Bool.true_eq_false, Bool.not_eq_eq_eq_not, beq_self_eq_true, beqFT, beqTF, decide_true, decide_false, not_false_eq_true, not_true_eq_false, ne_eq, true_and, and_true, false_and, and_false, and_self, if_true, if_false, ite_true, ite_false, Bool.and_true, Bool.and_false, Bool.true_and, Bool.false_and, Bool.or_true, Bool.true_or, Bool.or_false, Bool.false_or, or_true, true_or, or_false, false_or, or_self, AV.asInt, AV.asBool, AV.asSl, AV.asPtr, AV.asFn, AV.asStr, AV.asMap, AV.asIfc, AV.item, List.length_cons, List.length_nil, List.getElem?_cons_zero, List.getElem?_cons_succ, Nat.zero_add, Int.lt_irrefl], ho, s1, rfl, kk, g⟩)
    (s := ([.int .i64 0, .int .i64 l.length, .slice h, .slice Hdl.nil], σ)) ⟨Hdl.nil, σ, rfl, Kp.refl _ _, Grow.nil _ _ _⟩
  refine ⟨ho, σ', Runs.intro (fn := Try.f39) (by kernel_rfl) (by kernel_rfl) ?_, h1, h2⟩
  exact (Ev.bind (loopF_ev e) (Ev.of fun k => f39_X11010_1 (gm Try.prog k) k _ _)).congr fun k => by rw [f39_eq, ll]
end Go.Ab

/- The law WaveRanges. -/
namespace Go.Ab
open Go Go.Proofs Go.Ab.Wd Go.Ab.Bs Go.Ab.Sai
set_option linter.unusedVariables false
set_option linter.unusedSimpArgs false
/-- A pair is added. -/
theorem pair_app {σ : Store} {n : Nat} {h : Hdl} {L : List (Int × Int)} (G : Grow σ n h 2 (pairsL L)) (hp : σ.prot ≤ n) (hn : n ≤ σ.objs.length) (u v : Int) (hl : L.length < 2 ^ 40) :
    ∃ h' σ', Store.app (σ.push [.int .i64 u, .int .i64 v] 2) h 2 16 [.int .i64 u, .int .i64 v] 1 = some (h', σ') ∧ Kp n σ σ' ∧ Grow σ' n h' 2 (pairsL (L ++ [(u, v)])) := by
  have G1 := G.kp (Kp.push [.int .i64 u, .int .i64 v] 2 (Nat.le_refl _))
  have hh := pairs_len G.sl
  obtain ⟨h', σ', ea, Ka, Sa, Oa, _, _⟩ := app_spec (xs := [.int .i64 u, .int .i64 v]) (by_ := 16) (m := 1) G1.sl G1.own (by simpa using hp) (by simp; omega) (by omega) (by simp) rfl (by omega) (by omega)
  exact ⟨h', σ', ea, (Kp.push _ _ hn).trans Ka, ⟨by rw [pairsL_append]; exact Sa, Oa⟩⟩
/-- The last pair's count is another. -/
theorem pair_set {σ : Store} {n : Nat} {h : Hdl} {D : List (Int × Int)} {x c : Int} (G : Grow σ n h 2 (pairsL (D ++ [(x, c)]))) (hp : σ.prot ≤ n) (c' : Int) :
    ∃ q σ', h.idx (D.length : Int) 2 = some q ∧ σ.ldInt .i64 (Ptr.add (some q) 0) = some x ∧ σ.ldInt .i64 (Ptr.add (some q) 1) = some c ∧ σ.stL (Ptr.add (some q) 1) [.int .i64 c'] 0 = some σ' ∧ Kp n σ σ' ∧ Grow σ' n h 2 (pairsL (D ++ [(x, c')])) := by
  have hl := pairs_len G.sl
  simp only [List.length_append, List.length_cons, List.length_nil] at hl
  obtain ⟨g0, g1⟩ := pairs_rd G.sl (i := D.length) (u := x) (v := c) (by simp)
  cases ha : h.a with
  | none => have := G.own.nil ha; omega
  | some bo =>
    obtain ⟨b, o⟩ := bo
    obtain ⟨hb, cs, k1, k2, k3⟩ := G.own.own b o ha
    have hbl : b < σ.objs.length := (List.getElem?_eq_some_iff.1 k1).1
    have hq : h.idx (D.length : Int) 2 = some (b, o + D.length * 2) := by simp [Hdl.idx, Ptr.add, ha]
    rw [hq] at g0 g1
    have hcs : (cs.drop o).take (pairsL (D ++ [(x, c)])).length = pairsL (D ++ [(x, c)]) := by
      rcases G.sl.row with h0 | ⟨b', o', cs', rw', ha', hb', hc', hd'⟩
      · omega
      · rw [ha] at ha'; injection ha' with ha'; injection ha' with e1 e2; subst e1 e2
        rw [k1] at hb'; injection hb' with hb'; injection hb' with e3; subst e3
        exact hd'
    have lp := pairsL_length (D ++ [(x, c)])
    have lp' := pairsL_length (D ++ [(x, c')])
    simp only [List.length_append, List.length_cons, List.length_nil] at lp lp'
    have est : σ.stL (Ptr.add (some (b, o + D.length * 2)) 1) [.int .i64 c'] 0 = some (σ.setO b (.cells (cs.set (o + D.length * 2 + 1) (.int .i64 c')) true 2)) := by
      rw [stL_one]
      simp only [Ptr.add, Option.map_some, Store.st, k1]
      rw [if_pos ⟨⟨by omega, by omega⟩, rfl⟩]
      rfl
    refine ⟨(b, o + D.length * 2), σ.setO b (.cells (cs.set (o + D.length * 2 + 1) (.int .i64 c')) true 2), hq, g0, g1, est, (Kp.refl n σ).setO hb, ⟨⟨by rw [lp']; omega, .inr ⟨b, o, _, true, ha, Store.Row.setO_eq hbl, by rw [List.length_set]; omega, ?_⟩⟩, ⟨fun b' o' e' => ?_, G.own.nil⟩⟩⟩
    · rw [lp']
      rw [lp] at hcs
      rw [List.drop_set, if_neg (by omega), List.take_set, hcs, pairsL_append, pairsL_append, List.set_append_right _ _ (by rw [pairsL_length]; omega), pairsL_length, show o + D.length * 2 + 1 - o - D.length * 2 = 1 by omega]
      simp [pairsL]
    · rw [ha] at e'; injection e' with e'; injection e' with e1 e2; subst e1 e2
      exact ⟨hb, _, Store.Row.setO_eq hbl, by rw [List.length_set]; exact k2, fun c hc => by rw [List.length_set]; exact k3 c hc⟩
theorem srt_le {S : List Int} (h : S.Pairwise (· ≤ ·)) {i : Nat} (hi : i < S.length) : ∀ y ∈ S.take i, y ≤ rd S i := by
  have e : S = S.take i ++ rd S i :: S.drop (i + 1) := by rw [← drop_rd hi, List.take_append_drop]
  intro y hy
  generalize rd S i = u at e
  rw [e] at h
  exact (List.pairwise_append.1 h).2.2 y hy u (by simp)
theorem pairs13_run {σ : Store} {h : Hdl} {l : List Int} {N : Nat} (hT : σ.Ints h l) (hp : σ.prot ≤ σ.objs.length) (hn : l.length < 2 ^ 30) (hN : N < 2 ^ 30) (hr : ∀ x ∈ l, 0 ≤ x ∧ x < N) :
    ∃ ho σ', Runs Try.prog 44 [.slice h] σ (.slice ho) σ' ∧ Kp σ.objs.length σ σ' ∧ Grow σ' σ.objs.length ho 2 (pairsL (dis l 0 N)) := by
  obtain ⟨hs, σ1, ⟨k1, r1⟩, K1, G1⟩ := sorted13_run hT hp (by omega)
  obtain ⟨S, hS⟩ : ∃ S, S = srt l := ⟨_, rfl⟩
  rw [← hS] at G1
  obtain ⟨sp, sc⟩ := srt_spec l
  rw [← hS] at sp sc
  have lS : S.length = l.length := by rw [hS, srt_length]
  have ls := G1.ints.ilen
  have sr : ∀ x ∈ S, 0 ≤ x ∧ x < N := fun x hx => by
    have := sc fun y => decide (y = x)
    have h1 : 0 < Bs.cnt (fun y => decide (y = x)) S := by unfold Bs.cnt; exact List.length_pos_of_mem (List.mem_filter.2 ⟨hx, by simp⟩)
    rw [this] at h1
    unfold Bs.cnt at h1
    obtain ⟨y, hy⟩ := List.exists_mem_of_length_pos h1
    obtain ⟨g1, g2⟩ := List.mem_filter.1 hy
    have : y = x := by simpa using g2
    rw [← this]; exact hr y g1
  have len1 := K1.len
  obtain ⟨r, e, ho, σ', rfl, h1, h2⟩ := EvI.up (f := fun k s => stepF Try.prog (gm Try.prog k) drawn k Try.f44 [1, 1, 0, 1, 0] [9, 8, 7, 3] s) S.length
    (fun i s => ∃ ho s1, s = ([.int .i64 i, .int .i64 S.length, .slice hs, .slice ho], s1) ∧ Kp σ1.objs.length σ1 s1 ∧ Grow s1 σ1.objs.length ho 2 (pairsL (dis (S.take i) 0 N)))
    (fun r => ∃ ho s1, r = (AX.exit 0, [(3, .slice ho)], s1) ∧ Kp σ1.objs.length σ1 s1 ∧ Grow s1 σ1.objs.length ho 2 (pairsL (dis S 0 N)))
    (by
      rintro i s hi ⟨ho, s1, rfl, kk, g⟩
      have i0 : (0 : Int) ≤ i := by omega
      have i1 : (i : Int) < S.length := by omega
      have i2 : (i : Int) < hs.len := by omega
      have w := wsucc hi (by omega)
      have hTs : s1.Ints hs S := Store.Sl.kp G1.ints kk
      have rx := hTs.rd i0 i1
      have p1 : s1.prot ≤ σ1.objs.length := by rw [kk.prot, K1.prot]; omega
      obtain ⟨x, hx⟩ : ∃ x : Nat, rd S i = (x : Int) := ⟨(rd S i).toNat, by have := sr _ (rd_mem i0 i1); omega⟩
      have hxN : x < N := by have := sr _ (rd_mem (l := S) i0 i1); omega
      obtain ⟨d1, d2⟩ := dis_snoc (T := S.take i) (x := x) (N := N) (fun y hy => ⟨(sr y (List.mem_of_mem_take hy)).1, by have := srt_le sp hi y hy; omega⟩) hxN
      rw [← hx] at d2
      rw [← take_rd hi] at d2
      rw [hx] at rx d2
      have dl := dis_length (S.take i) 0 x
      by_cases c : 0 < Bs.cnt (fun y => decide (y = (x : Int))) (S.take i)
      · rw [if_pos c] at d1
        rw [d1] at g
        have lo := pairs_len g.sl
        simp only [List.length_append, List.length_cons, List.length_nil] at lo
        obtain ⟨q, s2, hq, l0, l1, st, k2, g2⟩ := pair_set g p1 ((Bs.cnt (fun y => decide (y = (x : Int))) (S.take i) + 1 : Nat) : Int)
        have c1 : (0 : Int) < ho.len := by omega
        have wm : IntKind.wrap .i64 ((ho.len : Int) - 1) = ((dis (S.take i) 0 x).length : Int) := by rw [wrap64 (by omega) (by omega)]; omega
        have c2 : (0 : Int) ≤ ((dis (S.take i) 0 x).length : Int) := by omega
        have c3 : ((dis (S.take i) 0 x).length : Int) < ho.len := by omega
        have cl := cnt_le (fun y => decide (y = (x : Int))) (S.take i)
        rw [List.length_take] at cl
        have wc : IntKind.wrap .i64 (((Bs.cnt (fun y => decide (y = (x : Int))) (S.take i) : Nat) : Int) + 1) = ((Bs.cnt (fun y => decide (y = (x : Int))) (S.take i) + 1 : Nat) : Int) := by rw [wrap64 (by omega) (by omega)]; omega
        refine ⟨_, Ev.of fun m => ?_, ho, s2, rfl, kk.trans k2, by rw [d2]; exact g2⟩
        simp only [f44_L11010]
        simp only [Option.bind_some, decide_eq_true_eq, decide_eq_false_iff_not, Bool.not_eq_true', Bool.not_true, Bool.not_false, Bool.false_eq_true, Bool.true_eq_false, Bool.not_eq_eq_eq_not, beq_self_eq_true, beqFT, beqTF, decide_true, decide_false, not_false_eq_true, not_true_eq_false, ne_eq, true_and, and_true, false_and, and_false, and_self, if_true, if_false, ite_true, ite_false, Bool.and_true, Bool.and_false, Bool.true_and, Bool.false_and, Bool.or_true, Bool.true_or, Bool.or_false, Bool.false_or, or_true, true_or, or_false, false_or, or_self, AV.asInt, AV.asBool, AV.asSl, AV.asPtr, AV.asFn, AV.asStr, AV.asMap, AV.asIfc, AV.item, List.length_cons, List.length_nil, List.getElem?_cons_zero, List.getElem?_cons_succ, Nat.zero_add, i0, i1, i2, rx, c1, wm, c2, c3, hq, l0, l1, wc, st, w]
      · rw [if_neg c, List.append_nil] at d1
        rw [d1] at g
        have c0 : Bs.cnt (fun y => decide (y = (x : Int))) (S.take i) = 0 := by omega
        rw [c0] at d2
        obtain ⟨h', s2, e2, k2, g2⟩ := pair_app g p1 kk.len (x : Int) 1 (by omega)
        have lo := pairs_len g.sl
        by_cases c1 : (0 : Int) < ho.len
        · obtain ⟨⟨u, v⟩, huv⟩ : ∃ q, (dis (S.take i) 0 x)[(dis (S.take i) 0 x).length - 1]? = some q := ⟨_, List.getElem?_eq_getElem (by omega)⟩
          obtain ⟨l0, l1⟩ := pairs_rd g.sl huv
          have ult := dis_lt huv
          have wm : IntKind.wrap .i64 ((ho.len : Int) - 1) = (((dis (S.take i) 0 x).length - 1 : Nat) : Int) := by rw [wrap64 (by omega) (by omega)]; omega
          have c2 : (0 : Int) ≤ (((dis (S.take i) 0 x).length - 1 : Nat) : Int) := by omega
          have c3 : (((dis (S.take i) 0 x).length - 1 : Nat) : Int) < ho.len := by omega
          have c4 : ¬ u = (x : Int) := by omega
          obtain ⟨q, hq⟩ : ∃ q, ho.idx (((dis (S.take i) 0 x).length - 1 : Nat) : Int) 2 = some q := by
            cases h : ho.idx (((dis (S.take i) 0 x).length - 1 : Nat) : Int) 2 with
            | some q => exact ⟨q, rfl⟩
            | none => rw [h] at l0; simp [Ptr.add, Store.ldInt, Store.cell] at l0
          rw [hq] at l0
          refine ⟨_, Ev.of fun m => ?_, h', s2, rfl, kk.trans k2, by rw [d2]; exact g2⟩
          simp only [f44_L11010]
          simp only [Option.bind_some, decide_eq_true_eq, decide_eq_false_iff_not, Bool.not_eq_true', Bool.not_true, Bool.not_false, Bool.false_eq_true, Bool.true_eq_false, Bool.not_eq_eq_eq_not, beq_self_eq_true, beqFT, beqTF, decide_true, decide_false, not_false_eq_true, not_true_eq_false, ne_eq, true_and, and_true, false_and, and_false, and_self, if_true, if_false, ite_true, ite_false, Bool.and_true, Bool.and_false, Bool.true_and, Bool.false_and, Bool.or_true, Bool.true_or, Bool.or_false, Bool.false_or, or_true, true_or, or_false, false_or, or_self, AV.asInt, AV.asBool, AV.asSl, AV.asPtr, AV.asFn, AV.asStr, AV.asMap, AV.asIfc, AV.item, List.length_cons, List.length_nil, List.getElem?_cons_zero, List.getElem?_cons_succ, Nat.zero_add, i0, i1, i2, rx, c1, wm, c2, c3, hq, l0, c4, read2, e2, w]
        · refine ⟨_, Ev.of fun m => ?_, h', s2, rfl, kk.trans k2, by rw [d2]; exact g2⟩
          simp only [f44_L11010]
          simp only [Option.bind_some, decide_eq_true_eq, decide_eq_false_iff_not, Bool.not_eq_true', Bool.not_true, Bool.not_false, Bool.false_eq_true, Bool.true_eq_false, Bool.not_eq_eq_eq_not, beq_self_eq_true, beqFT, beqTF, decide_true, decide_false, not_false_eq_true, not_true_eq_false, ne_eq, true_and, and_true, false_and, and_false, and_self, if_true, if_false, ite_true, ite_false, Bool.and_true, Bool.and_false, Bool.true_and, Bool.false_and, Bool.or_true, Bool.true_or, Bool.or_false, Bool.false_or, or_true, true_or, or_false, false_or, or_self, AV.asInt, AV.asBool, AV.asSl, AV.asPtr, AV.asFn, AV.asStr, AV.asMap, AV.asIfc, AV.item, List.length_cons, List.length_nil, List.getElem?_cons_zero, List.getElem?_cons_succ, Nat.zero_add, i0, i1, i2, rx, c1, read2, e2, w])
    (by
      rintro s ⟨ho, s1, rfl, kk, g⟩
      rw [List.take_length] at g
      exact ⟨(AX.exit 0, [(3, .slice ho)], s1), Ev.of fun m => by simp only [f44_L11010]; simp only [Option.bind_some, decide_eq_true_eq, decide_eq_false_iff_not, Bool.not_eq_true', Bool.not_true, Bool.not_false, Bool.false_eq_true, Bool.true_eq_false, Bool.not_eq_eq_eq_not, beq_self_eq_true, beqFT, beqTF, decide_true, decide_false, not_false_eq_true, not_true_eq_false, ne_eq, true_and, and_true, false_and, and_false, and_self, if_true, if_false, ite_true, ite_false, Bool.and_true, Bool.and_false, Bool.true_and, Bool.false_and, Bool.or_true, Bool.true_or, Bool.or_false, Bool.false_or, or_true, true_or, or_false, false_or, or_self, AV.asInt, AV.asBool, AV.asSl, AV.asPtr, AV.asFn, AV.asStr, AV.asMap, AV.asIfc, AV.item, List.length_cons, List.length_nil, List.getElem?_cons_zero, List.getElem?_cons_succ, Nat.zero_add, Int.lt_irrefl], ho, s1, rfl, kk, g⟩)
    (s := ([.int .i64 0, .int .i64 S.length, .slice hs, .slice Hdl.nil], σ1)) ⟨Hdl.nil, σ1, rfl, Kp.refl _ _, by rw [show dis (S.take 0) 0 N = [] from dis_none (by simp)]; exact Grow.nil _ _ _⟩
  have ed : dis S 0 N = dis l 0 N := dis_congr fun v _ _ => sc _
  rw [ed] at h2
  obtain ⟨n2, e⟩ := loopF_ev e
  refine ⟨ho, σ', Runs.intro (fn := Try.f44) (by kernel_rfl) (by kernel_rfl) ⟨k1 + n2, fun k hk => ?_⟩, K1.all h1, h2.mono len1⟩
  have r1 := r1 k (by omega)
  have e := e k (by omega)
  simp only at r1 e
  simp only [f44_eq]
  simp only [Option.bind_some, decide_eq_true_eq, decide_eq_false_iff_not, Bool.not_eq_true', Bool.not_true, Bool.not_false, Bool.false_eq_true, Bool.true_eq_false, Bool.not_eq_eq_eq_not, beq_self_eq_true, beqFT, beqTF, decide_true, decide_false, not_false_eq_true, not_true_eq_false, ne_eq, true_and, and_true, false_and, and_false, and_self, if_true, if_false, ite_true, ite_false, Bool.and_true, Bool.and_false, Bool.true_and, Bool.false_and, Bool.or_true, Bool.true_or, Bool.or_false, Bool.false_or, or_true, true_or, or_false, false_or, or_self, AV.asInt, AV.asBool, AV.asSl, AV.asPtr, AV.asFn, AV.asStr, AV.asMap, AV.asIfc, AV.item, List.length_cons, List.length_nil, List.getElem?_cons_zero, List.getElem?_cons_succ, Nat.zero_add, r1, ls, e]
  rw [f44_X11010_1]
theorem law_WaveRanges {σ : Store} {h : Hdl} {l : List Int} {a0 a1 b0 b1 : Int} (hT : σ.Ints h l) (hH : σ.Has h) (hn : l.length < 2 ^ 44) (hw : ∀ n ∈ l, IntKind.min .i64 ≤ n ∧ n ≤ IntKind.max .i64)
    (ha0 : IntKind.min .i64 ≤ a0 ∧ a0 ≤ IntKind.max .i64) (ha1 : IntKind.min .i64 ≤ a1 ∧ a1 ≤ IntKind.max .i64) (hb0 : IntKind.min .i64 ≤ b0 ∧ b0 ≤ IntKind.max .i64) (hb1 : IntKind.min .i64 ≤ b1 ∧ b1 ≤ IntKind.max .i64) (hp : σ.prot ≤ σ.objs.length) :
    ∃ σ', Runs Try.prog 10 [.slice h, .agg [.int .i64 a0, .int .i64 a1], .agg [.int .i64 b0, .int .i64 b1]] σ (.bool true) σ' := by
  have ll := hT.ilen
  obtain ⟨σ1, h1⟩ : ∃ s, s = (σ.push [.int .i64 a0, .int .i64 a1] 2).push [.int .i64 b0, .int .i64 b1] 2 := ⟨_, rfl⟩
  have K1 : Kp σ.objs.length σ σ1 := by rw [h1]; exact (Kp.push _ _ (Nat.le_refl _)).push' (by simp)
  have R1 : σ1.Row σ.objs.length 2 [.int .i64 a0, .int .i64 a1] := by rw [h1]; exact Store.Row.new.push
  have Q1 : σ1.Row (σ.objs.length + 1) 2 [.int .i64 b0, .int .i64 b1] := by
    rw [h1]; have := (Store.Row.new : ((σ.push [.int .i64 a0, .int .i64 a1] 2).push [.int .i64 b0, .int .i64 b1] 2).Row _ 2 _); simpa using this
  have lpush : (σ.push [.int .i64 a0, .int .i64 a1] 2).objs.length = σ.objs.length + 1 := by simp
  have hp1 : σ1.prot ≤ σ1.objs.length := by rw [K1.prot]; have := K1.len; omega
  have hT1 : σ1.Ints h l := Store.Sl.kp hT K1
  obtain ⟨k0, r0⟩ := first13_told σ1
  by_cases c0 : (300 : Int) < h.len
  · refine ⟨σ1, Runs.intro (fn := Try.f10) (by kernel_rfl) (by kernel_rfl) ⟨k0, fun k hk => ?_⟩⟩
    have r0 := r0 k hk
    simp only at r0
    simp only [f10_eq]
    simp only [Option.bind_some, decide_eq_true_eq, decide_eq_false_iff_not, Bool.not_eq_true', Bool.not_true, Bool.not_false, Bool.false_eq_true, Bool.true_eq_false, Bool.not_eq_eq_eq_not, beq_self_eq_true, beqFT, beqTF, decide_true, decide_false, not_false_eq_true, not_true_eq_false, ne_eq, true_and, and_true, false_and, and_false, and_self, if_true, if_false, ite_true, ite_false, Bool.and_true, Bool.and_false, Bool.true_and, Bool.false_and, Bool.or_true, Bool.true_or, Bool.or_false, Bool.false_or, or_true, true_or, or_false, false_or, or_self, AV.asInt, AV.asBool, AV.asSl, AV.asPtr, AV.asFn, AV.asStr, AV.asMap, AV.asIfc, AV.item, List.length_cons, List.length_nil, List.getElem?_cons_zero, List.getElem?_cons_succ, Nat.zero_add, ← h1, r0, c0]
  have ln : l.length ≤ 300 := by omega
  obtain ⟨k1, r1⟩ := right13_run (al := 300) hT1 (by omega)
  cases hok : okW l 300 with
  | false =>
    rw [hok] at r1
    refine ⟨σ1, Runs.intro (fn := Try.f10) (by kernel_rfl) (by kernel_rfl) ⟨k0 + k1, fun k hk => ?_⟩⟩
    have r0 := r0 k (by omega)
    have r1 := r1 k (by omega)
    simp only at r0 r1
    simp only [f10_eq]
    simp only [Option.bind_some, decide_eq_true_eq, decide_eq_false_iff_not, Bool.not_eq_true', Bool.not_true, Bool.not_false, Bool.false_eq_true, Bool.true_eq_false, Bool.not_eq_eq_eq_not, beq_self_eq_true, beqFT, beqTF, decide_true, decide_false, not_false_eq_true, not_true_eq_false, ne_eq, true_and, and_true, false_and, and_false, and_self, if_true, if_false, ite_true, ite_false, Bool.and_true, Bool.and_false, Bool.true_and, Bool.false_and, Bool.or_true, Bool.true_or, Bool.or_false, Bool.false_or, or_true, true_or, or_false, false_or, or_self, AV.asInt, AV.asBool, AV.asSl, AV.asPtr, AV.asFn, AV.asStr, AV.asMap, AV.asIfc, AV.item, List.length_cons, List.length_nil, List.getElem?_cons_zero, List.getElem?_cons_succ, Nat.zero_add, ← h1, r0, c0, r1]
  | true =>
  rw [hok] at r1
  obtain ⟨p, w, σ2, ⟨k2, r2⟩, K2, M, W, pn⟩ := made_run (most := 300) hT1 hp1 hok
  have hp2 : σ2.prot ≤ σ2.objs.length := by rw [K2.prot]; have := K2.len; omega
  have p24 : 2 ^ w ≤ 2 ^ 24 := Nat.pow_le_pow_right (by omega) M.wid.2
  have R2 := R1.kp K2 R1.lt
  have Q2 := Q1.kp K2 Q1.lt
  have e0 := row_int R2 (o := 0) rfl
  have e1 := row_int R2 (o := 1) rfl
  obtain ⟨s, hs⟩ : ∃ s, s = seg l a0 a1 := ⟨_, rfl⟩
  obtain ⟨hq, σ3, ⟨k3, r3⟩, K3, G3⟩ := part13_run (show σ2.Ints h l from Store.Sl.kp hT1 K2) hp2 (by omega) a0 a1
  rw [← hs] at G3
  have sl : s.length ≤ l.length := by rw [hs]; unfold seg; simp; omega
  have hp3 : σ3.prot ≤ σ3.objs.length := by rw [K3.prot]; have := K3.len; omega
  obtain ⟨ht, σ4, ⟨k4, r4⟩, K4, G4⟩ := sorted13_run G3.ints hp3 (by omega)
  have hp4 : σ4.prot ≤ σ4.objs.length := by rw [K4.prot]; have := K4.len; omega
  have G34 : σ4.Ints hq s := Store.Sl.kp G3.ints K4
  have M4 := (M.kp K3).kp K4
  have R4 := (R2.kp K3 R2.lt).kp K4 (R2.kp K3 R2.lt).lt
  have Q4 := (Q2.kp K3 Q2.lt).kp K4 (Q2.kp K3 Q2.lt).lt
  have q0 := row_int Q4 (o := 0) rfl
  have q1 := row_int Q4 (o := 1) rfl
  have lq := G34.ilen
  have lt := G4.ints.ilen
  rw [srt_length] at lt
  obtain ⟨sp, sc⟩ := srt_spec s
  obtain ⟨v, ⟨n5, r5⟩, v1, v2⟩ := quantile_run M4 a0 a1 b0
  rw [← hs] at v1 v2
  -- the number wanted
  obtain ⟨u, hu⟩ : ∃ u : Int, u = if 0 ≤ b0 ∧ b0 < s.length then rd (srt s) b0 else -1 := ⟨_, rfl⟩
  have ev : v = u := by
    by_cases hk : 0 ≤ b0 ∧ b0 < s.length
    · rw [if_pos hk] at hu
      obtain ⟨g0, g1, g2⟩ := v1 hk
      obtain ⟨t1, t2⟩ := srt_kth sp (k := b0.toNat) (by rw [srt_length]; omega)
      rw [show ((b0.toNat : Nat) : Int) = b0 by omega, ← hu] at t1 t2
      simp only [sc] at t1 t2
      exact quant_uniq g1 g2 (by omega) (by omega)
    · rw [if_neg hk] at hu; rw [v2 hk, hu]
  subst ev
  obtain ⟨n6, r6⟩ := below_run M4 a0 a1 b1
  rw [← hs] at r6
  obtain ⟨h7, σ7, ⟨n7, r7⟩, K7, G7⟩ := matDistinct_run M4 hp4 a0 a1
  rw [← hs] at G7
  have hp7 : σ7.prot ≤ σ7.objs.length := by rw [K7.prot]; have := K7.len; omega
  have sr : ∀ x ∈ s, 0 ≤ x ∧ x < (2 ^ w : Nat) := fun x hx => by
    have := M.rng x (seg_mem (hs ▸ hx))
    have e : ((2 : Int) ^ w) = ((2 ^ w : Nat) : Int) := by simp
    omega
  obtain ⟨h8, σ8, ⟨n8, r8⟩, K8, G8⟩ := pairs13_run (N := 2 ^ w) (show σ7.Ints hq s from Store.Sl.kp G34 K7) hp7 (by omega) (by omega) sr
  obtain ⟨n9, r9⟩ := same13_run (G7.sl.kp K8) G8.sl (by have := dis_length s 0 (2 ^ w); omega)
  obtain ⟨r, e, rfl⟩ := EvI.up (f := fun k s => stepF Try.prog (gm Try.prog k) drawn k Try.f10 [1, 1, 1, 1, 1, 1, 1, 1, 1, 1, 0, 1, 0] [58, 57, 56, 14, 13, 12, 11, 9, 7, 4] s) s.length
    (fun i st => st = ([.int .i64 i, .int .i64 s.length, .slice hq, .int .i64 (Bs.cnt (fun x => decide (x < b1)) (s.take i) : Nat), .int .i64 v, .int .i64 b1, .int .i64 b0, .slice hq, .ptr p, .ptr (some (σ.objs.length, 0))], σ4))
    (fun r => r = (AX.exit 0, [(14, .int .i64 (Bs.cnt (fun x => decide (x < b1)) s : Nat)), (13, .int .i64 v), (12, .int .i64 b1), (11, .int .i64 b0), (9, .slice hq), (7, .ptr p), (4, .ptr (some (σ.objs.length, 0)))], σ4))
    (by
      rintro i st hi rfl
      have i0 : (0 : Int) ≤ i := by omega
      have i1 : (i : Int) < s.length := by omega
      have i2 : (i : Int) < hq.len := by omega
      have w1 := wsucc hi (by omega)
      have rx := G34.rd i0 i1
      have s1 := cnt_take_succ (fun x => decide (x < b1)) hi
      have cl := cnt_le (fun x => decide (x < b1)) (s.take i)
      rw [List.length_take] at cl
      refine ⟨_, Ev.of fun k => ?_, rfl⟩
      simp only [f10_L1111111111010]
      by_cases c : rd s i < b1
      · rw [if_pos (by simpa using c)] at s1
        have w2 : IntKind.wrap .i64 ((Bs.cnt (fun x => decide (x < b1)) (s.take i) : Nat) + 1) = (Bs.cnt (fun x => decide (x < b1)) (s.take i) + 1 : Nat) := by rw [wrap64 (by omega) (by omega)]; omega
        simp only [Option.bind_some, decide_eq_true_eq, decide_eq_false_iff_not, Bool.not_eq_true', Bool.not_true, Bool.not_false, Bool.false_eq_true, Bool.true_eq_false, Bool.not_eq_eq_eq_not, beq_self_eq_true, beqFT, beqTF, decide_true, decide_false, not_false_eq_true, not_true_eq_false, ne_eq, true_and, and_true, false_and, and_false, and_self, if_true, if_false, ite_true, ite_false, Bool.and_true, Bool.and_false, Bool.true_and, Bool.false_and, Bool.or_true, Bool.true_or, Bool.or_false, Bool.false_or, or_true, true_or, or_false, false_or, or_self, AV.asInt, AV.asBool, AV.asSl, AV.asPtr, AV.asFn, AV.asStr, AV.asMap, AV.asIfc, AV.item, List.length_cons, List.length_nil, List.getElem?_cons_zero, List.getElem?_cons_succ, Nat.zero_add, i0, i1, i2, rx, c, w1, w2, s1]
      · rw [if_neg (by simpa using c)] at s1
        simp only [Option.bind_some, decide_eq_true_eq, decide_eq_false_iff_not, Bool.not_eq_true', Bool.not_true, Bool.not_false, Bool.false_eq_true, Bool.true_eq_false, Bool.not_eq_eq_eq_not, beq_self_eq_true, beqFT, beqTF, decide_true, decide_false, not_false_eq_true, not_true_eq_false, ne_eq, true_and, and_true, false_and, and_false, and_self, if_true, if_false, ite_true, ite_false, Bool.and_true, Bool.and_false, Bool.true_and, Bool.false_and, Bool.or_true, Bool.true_or, Bool.or_false, Bool.false_or, or_true, true_or, or_false, false_or, or_self, AV.asInt, AV.asBool, AV.asSl, AV.asPtr, AV.asFn, AV.asStr, AV.asMap, AV.asIfc, AV.item, List.length_cons, List.length_nil, List.getElem?_cons_zero, List.getElem?_cons_succ, Nat.zero_add, i0, i1, i2, rx, c, w1, s1, Nat.add_zero])
    (by
      rintro st rfl
      rw [List.take_length]
      exact ⟨_, Ev.of fun k => by simp only [f10_L1111111111010]; simp only [Option.bind_some, decide_eq_true_eq, decide_eq_false_iff_not, Bool.not_eq_true', Bool.not_true, Bool.not_false, Bool.false_eq_true, Bool.true_eq_false, Bool.not_eq_eq_eq_not, beq_self_eq_true, beqFT, beqTF, decide_true, decide_false, not_false_eq_true, not_true_eq_false, ne_eq, true_and, and_true, false_and, and_false, and_self, if_true, if_false, ite_true, ite_false, Bool.and_true, Bool.and_false, Bool.true_and, Bool.false_and, Bool.or_true, Bool.true_or, Bool.or_false, Bool.false_or, or_true, true_or, or_false, false_or, or_self, AV.asInt, AV.asBool, AV.asSl, AV.asPtr, AV.asFn, AV.asStr, AV.asMap, AV.asIfc, AV.item, List.length_cons, List.length_nil, List.getElem?_cons_zero, List.getElem?_cons_succ, Nat.zero_add, Int.lt_irrefl], rfl⟩)
    (s := ([.int .i64 0, .int .i64 s.length, .slice hq, .int .i64 0, .int .i64 v, .int .i64 b1, .int .i64 b0, .slice hq, .ptr p, .ptr (some (σ.objs.length, 0))], σ4)) (by simp [Bs.cnt])
  obtain ⟨n10, e⟩ := loopF_ev e
  refine ⟨σ8, Runs.intro (fn := Try.f10) (by kernel_rfl) (by kernel_rfl) ⟨k0 + k1 + k2 + k3 + k4 + n5 + n6 + n7 + n8 + n9 + n10, fun k hk => ?_⟩⟩
  have r0 := r0 k (by omega)
  have r1 := r1 k (by omega)
  have r2 := r2 k (by omega)
  have r3 := r3 k (by omega)
  have r4 := r4 k (by omega)
  have r5 := r5 k (by omega)
  have r6 := r6 k (by omega)
  have r7 := r7 k (by omega)
  have r8 := r8 k (by omega)
  have r9 := r9 k (by omega)
  have e := e k (by omega)
  simp only at r0 r1 r2 r3 r4 r5 r6 r7 r8 r9 e
  have e04 := row_int R4 (o := 0) rfl
  have e14 := row_int R4 (o := 1) rfl
  simp only [f10_eq]
  have fin : contF Try.prog (gm Try.prog k) drawn k Try.f10 [1, 1, 1, 1, 1, 1, 1, 1, 1, 1, 0, 1, 0] (AX.exit 0, [(14, .int .i64 (Bs.cnt (fun x => decide (x < b1)) s : Nat)), (13, .int .i64 v), (12, .int .i64 b1), (11, .int .i64 b0), (9, .slice hq), (7, .ptr p), (4, .ptr (some (σ.objs.length, 0)))], σ4) = some (.bool true, σ8) := by
    rw [f10_X1111111111010_1]
    simp only [Option.bind_some, decide_eq_true_eq, decide_eq_false_iff_not, Bool.not_eq_true', Bool.not_true, Bool.not_false, Bool.false_eq_true, Bool.true_eq_false, Bool.not_eq_eq_eq_not, beq_self_eq_true, beqFT, beqTF, decide_true, decide_false, not_false_eq_true, not_true_eq_false, ne_eq, true_and, and_true, false_and, and_false, and_self, if_true, if_false, ite_true, ite_false, Bool.and_true, Bool.and_false, Bool.true_and, Bool.false_and, Bool.or_true, Bool.true_or, Bool.or_false, Bool.false_or, or_true, true_or, or_false, false_or, or_self, AV.asInt, AV.asBool, AV.asSl, AV.asPtr, AV.asFn, AV.asStr, AV.asMap, AV.asIfc, AV.item, List.length_cons, List.length_nil, List.getElem?_cons_zero, List.getElem?_cons_succ, Nat.zero_add, e04, e14, r5, r6, r7, r8, r9]
  by_cases c1 : 0 ≤ b0
  · by_cases c2 : b0 < s.length
    · have c2' : b0 < ht.len := by omega
      have rx := G4.ints.rd c1 (by rw [srt_length]; exact c2)
      rw [if_pos ⟨c1, c2⟩] at hu
      rw [← hu] at rx
      simp only [Option.bind_some, decide_eq_true_eq, decide_eq_false_iff_not, Bool.not_eq_true', Bool.not_true, Bool.not_false, Bool.false_eq_true, Bool.true_eq_false, Bool.not_eq_eq_eq_not, beq_self_eq_true, beqFT, beqTF, decide_true, decide_false, not_false_eq_true, not_true_eq_false, ne_eq, true_and, and_true, false_and, and_false, and_self, if_true, if_false, ite_true, ite_false, Bool.and_true, Bool.and_false, Bool.true_and, Bool.false_and, Bool.or_true, Bool.true_or, Bool.or_false, Bool.false_or, or_true, true_or, or_false, false_or, or_self, AV.asInt, AV.asBool, AV.asSl, AV.asPtr, AV.asFn, AV.asStr, AV.asMap, AV.asIfc, AV.item, List.length_cons, List.length_nil, List.getElem?_cons_zero, List.getElem?_cons_succ, Nat.zero_add, ← h1, lpush, r0, c0, r1, r2, e0, e1, r3, r4, q0, q1, c1, c2', rx, lq, e, fin]
    · have c2' : ¬ b0 < ht.len := by omega
      rw [if_neg (fun h => c2 h.2)] at hu
      subst hu
      simp only [Option.bind_some, decide_eq_true_eq, decide_eq_false_iff_not, Bool.not_eq_true', Bool.not_true, Bool.not_false, Bool.false_eq_true, Bool.true_eq_false, Bool.not_eq_eq_eq_not, beq_self_eq_true, beqFT, beqTF, decide_true, decide_false, not_false_eq_true, not_true_eq_false, ne_eq, true_and, and_true, false_and, and_false, and_self, if_true, if_false, ite_true, ite_false, Bool.and_true, Bool.and_false, Bool.true_and, Bool.false_and, Bool.or_true, Bool.true_or, Bool.or_false, Bool.false_or, or_true, true_or, or_false, false_or, or_self, AV.asInt, AV.asBool, AV.asSl, AV.asPtr, AV.asFn, AV.asStr, AV.asMap, AV.asIfc, AV.item, List.length_cons, List.length_nil, List.getElem?_cons_zero, List.getElem?_cons_succ, Nat.zero_add, ← h1, lpush, r0, c0, r1, r2, e0, e1, r3, r4, q0, q1, c1, c2', lq, e, fin]
  · rw [if_neg (fun h => c1 h.1)] at hu
    subst hu
    simp only [Option.bind_some, decide_eq_true_eq, decide_eq_false_iff_not, Bool.not_eq_true', Bool.not_true, Bool.not_false, Bool.false_eq_true, Bool.true_eq_false, Bool.not_eq_eq_eq_not, beq_self_eq_true, beqFT, beqTF, decide_true, decide_false, not_false_eq_true, not_true_eq_false, ne_eq, true_and, and_true, false_and, and_false, and_self, if_true, if_false, ite_true, ite_false, Bool.and_true, Bool.and_false, Bool.true_and, Bool.false_and, Bool.or_true, Bool.true_or, Bool.or_false, Bool.false_or, or_true, true_or, or_false, false_or, or_self, AV.asInt, AV.asBool, AV.asSl, AV.asPtr, AV.asFn, AV.asStr, AV.asMap, AV.asIfc, AV.item, List.length_cons, List.length_nil, List.getElem?_cons_zero, List.getElem?_cons_succ, Nat.zero_add, ← h1, lpush, r0, c0, r1, r2, e0, e1, r3, r4, q0, q1, c1, lq, e, fin]
end Go.Ab

/- What is told of first holds. -/
namespace Go.Ab
open Go Go.Proofs
theorem toldOk (hm : Try.prog.follows .mixedOrders = true) : SpS Try.prog (Told.sp Try.prog) ∧ SpK (Told.sp Try.prog) :=
  tell_sound hm fun g hg => by
    simp only [List.mem_cons, List.not_mem_nil, or_false] at hg
    rcases hg with rfl | rfl
    · exact ⟨Try.f15, 60, by kernel_rfl, by kernel_rfl, by kernel_rfl, by kernel_rfl⟩
    · exact ⟨Try.f26, 60, by kernel_rfl, by kernel_rfl, by kernel_rfl, by kernel_rfl⟩
end Go.Ab

/- An array of whole numbers that came in by value. -/
namespace Go.Ab
open Go
theorem vr_ints {μ : Mu} {k : IntKind} (zs : List Int) : VR μ (.agg (zs.map (AV.int k))) (.agg (zs.map (Value.int k)).toArray) := by
  refine .agg (by simp) fun i x y hx hy => ?_
  simp only [List.getElem?_map, List.getElem?_toArray] at hx hy
  cases h : zs[i]? with
  | none => rw [h] at hx; cases hx
  | some z => rw [h] at hx hy; injection hx with hx; injection hy with hy; subst hx hy; exact .int ..
section
variable {H : Type} {enc : TypeId × Value → H} {P : Program} {w : World} {base : Nat} {spare : Nat → Bool} {held : Bool}
theorem ints_of {k : IntKind} : ∀ {l : List Value}, (∀ i (h : i < l.length), ∃ z : Int, l[i] = .int k z ∧ (Lit.int k z).wf = true) → ∃ zs : List Int, l = zs.map (Value.int k) ∧ ∀ z ∈ zs, (Lit.int k z).wf = true
  | [], _ => ⟨[], rfl, by simp⟩
  | v :: l, h => by
    obtain ⟨z, hz, hw⟩ := h 0 (by simp)
    obtain ⟨zs, hzs, hws⟩ := ints_of (l := l) fun i hi => h (i + 1) (by simp; omega)
    refine ⟨z :: zs, ?_, ?_⟩
    · rw [List.map_cons, ← hzs]
      simp at hz
      rw [hz]
    · intro y hy
      rcases List.mem_cons.1 hy with rfl | hy
      · exact hw
      · exact hws y hy
theorem open_arr {n : Nat} {t e : TypeId} {k : IntKind} {r : Reach} {b0 : Nat} {v : Value} {d : DataW H} {p : List MemPlace} (ht : P.underlying t = some (.array n e)) (he : P.underlying e = some (.int k)) (hC : P.cellsOf e = 1 ∧ P.cellsOf t = n)
    (hv : Value.okWide P w r b0 t v) (h : DataW.Trod enc P w base spare held t v d p) :
    ∃ zs : List Int, zs.length = n ∧ v = .agg (zs.map (Value.int k)).toArray ∧ ∀ z ∈ zs, (Lit.int k z).wf = true := by
  simp only [Value.okWide, ht] at hv
  obtain ⟨cs, rfl, hsz, _⟩ := hv
  obtain ⟨fuel, hf⟩ := h
  obtain ⟨xs, m, rfl, _, hl, hn, hg⟩ := DataW.trod_array ht hf
  simp only [Value.cells] at hl hg
  have hlen : cs.toList.length = n := by simpa [hC.2] using hsz
  obtain ⟨zs, hzs, hws⟩ := ints_of (k := k) (l := cs.toList) fun i hi => by
    have := hg i (by omega)
    rw [hC.1, Nat.mul_one, List.getElem?_eq_getElem (by omega)] at this
    obtain ⟨z, hz, _, hw⟩ := DataW.trod_int he this
    refine ⟨z, ?_, hw⟩
    rw [List.drop_eq_getElem_cons hi] at hz
    simp at hz
    simpa using hz
  refine ⟨zs, by rw [← hlen, hzs]; simp, ?_, hws⟩
  rw [← hzs]
theorem list1 {l : List Int} (h : l.length = 1) : ∃ a, l = [a] := by match l, h with | [a], _ => exact ⟨a, rfl⟩
theorem list2 {l : List Int} (h : l.length = 2) : ∃ a b, l = [a, b] := by match l, h with | [a, b], _ => exact ⟨a, b, rfl⟩
theorem list3 {l : List Int} (h : l.length = 3) : ∃ a b c, l = [a, b, c] := by match l, h with | [a, b, c], _ => exact ⟨a, b, c, rfl⟩
theorem list4 {l : List Int} (h : l.length = 4) : ∃ a b c d, l = [a, b, c, d] := by match l, h with | [a, b, c, d], _ => exact ⟨a, b, c, d, rfl⟩
end
end Go.Ab
