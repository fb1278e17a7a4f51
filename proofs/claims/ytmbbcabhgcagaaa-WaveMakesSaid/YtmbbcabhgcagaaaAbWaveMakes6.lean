/- A part of the proof of the law WaveMakes: lemmas alone; what each says stands at it. No conditions. -/
import Derived.Test.YtmbbcabhgcagaaaAbWaveMakes2
import Derived.Test.YtmbbcabhgcagaaaAbWaveMakes5
import Derived.Test.YtmbbcabhgcagaaaAbWaveMakes1
import Derived.OpenShut
import Derived.WideShapes
set_option maxRecDepth 100000
set_option linter.unusedVariables false
namespace Go.Ab
open Go Go.Proofs
theorem f37b_eq : ∀ (Γ : Gam) (k : Nat) (σ : Store) (p0 : Ptr) (i1 i2 : Int),
  evBody Try.prog Γ drawn k Try.f37 [AV.ptr p0, AV.int IntKind.i64 i1, AV.int IntKind.i64 i2] σ =
    Option.bind (Store.ldPtr (Store.push (Store.push σ [AV.ptr p0] 1) [AV.int IntKind.i64 i1] 1) (some (List.length (Store.objs σ), 0))) fun x3 ↦
      Option.bind (Store.ldInt (Store.push (Store.push σ [AV.ptr p0] 1) [AV.int IntKind.i64 i1] 1) IntKind.i64 (some (List.length (Store.objs (Store.push σ [AV.ptr p0] 1)), 0))) fun x4 ↦
        Option.bind (Γ (Fun.fn 59) [AV.ptr x3, AV.int IntKind.i64 x4] (Store.push (Store.push σ [AV.ptr p0] 1) [AV.int IntKind.i64 i1] 1)) fun x5 ↦
          Option.bind (AV.asBool (Prod.fst x5)) fun x6 ↦
            if (!x6) = true then some (AV.int IntKind.i64 (-1), Prod.snd x5)
            else
              if decide (i2 < 0) = true then some (AV.int IntKind.i64 (-1), Prod.snd x5)
              else
                Option.bind (Store.ldPtr (Prod.snd x5) (some (List.length (Store.objs σ), 0))) fun x7 ↦
                  Option.bind (Store.ldInt (Prod.snd x5) IntKind.i64 (some (List.length (Store.objs (Store.push σ [AV.ptr p0] 1)), 0))) fun x8 ↦
                    Option.bind (Store.ldPtr (Prod.snd x5) (some (List.length (Store.objs σ), 0))) fun x9 ↦
                      Option.bind x9 fun x10 ↦
                        Option.bind (Store.ldInt (Prod.snd x5) IntKind.i64 (Ptr.add (some x10) 0)) fun x11 ↦
                          Option.bind (Γ (Fun.fn 35) [AV.ptr x7, AV.int IntKind.i64 x8, AV.int IntKind.i64 x11] (Prod.snd x5)) fun x12 ↦
                            Option.bind (AV.asInt IntKind.i64 (Prod.fst x12)) fun x13 ↦
                              if decide (x13 ≤ i2) = true then some (AV.int IntKind.i64 (-1), Prod.snd x12)
                              else
                                Option.bind (Store.ldPtr (Prod.snd x12) (some (List.length (Store.objs σ), 0))) fun x14 ↦
                                  Option.bind (Store.ldInt (Prod.snd x12) IntKind.i64 (some (List.length (Store.objs (Store.push σ [AV.ptr p0] 1)), 0))) fun x15 ↦
                                    Option.bind (Γ (Fun.fn 60) [AV.ptr x14, AV.int IntKind.i64 x15, AV.int IntKind.i64 0] (Prod.snd x12)) fun x16 ↦
                                      Option.bind (AV.item 0 2 (Prod.fst x16)) fun x17 ↦
                                        Option.bind (AV.asInt IntKind.i64 x17) fun x18 ↦
                                          Option.bind (AV.item 1 2 (Prod.fst x16)) fun x19 ↦
                                            Option.bind (AV.asInt IntKind.i64 x19) fun x20 ↦
                                              Option.bind (Store.stL (Store.push (Prod.snd x16) [AV.int IntKind.i64 0] 1) (some (List.length (Store.objs (Prod.snd x16)), 0)) [AV.int IntKind.i64 (IntKind.wrap IntKind.i64 (x18 + i2))] 0) fun x21 ↦
                                                Option.bind (Store.ldPtr x21 (some (List.length (Store.objs σ), 0))) fun x22 ↦
                                                  Option.bind x22 fun x23 ↦
                                                    Option.bind (Store.ldSl x21 (Ptr.add (some x23) 2)) fun x24 ↦
                                                      Option.bind (Γ (Fun.fn 61) [AV.slice x24] x21) fun x25 ↦
                                                        Option.bind (AV.asFn (Prod.fst x25)) fun x26 ↦
                                                          Option.bind
                                                            (rangeV Γ (Prod.fst x26) (Prod.fst (Prod.snd x26)) (Prod.snd (Prod.snd x26))
                                                              (AObj.loop [(9, AV.ptr (some (List.length (Store.objs (Prod.snd x16)), 0))), (4, AV.ptr (some (List.length (Store.objs (Store.push σ [AV.ptr p0] 1)), 0))), (3, AV.ptr (some (List.length (Store.objs σ), 0)))] (Array.toList #[45, 46]) (codeAt (fnCode Try.f37) [1, 1, 1, 1, 0, 1, 0, 0]) (codeAt (fnCode Try.f37) [1, 1, 1, 1, 0, 1, 0, 1])
                                                                (Func.ntmps Try.f37) LSt.ready)
                                                              (Prod.snd x25))
                                                            fun x27 ↦ contF Try.prog Γ drawn k Try.f37 [1, 1, 1, 1, 0, 1, 0] (Prod.fst x27, [(9, AV.ptr (some (List.length (Store.objs (Prod.snd x16)), 0))), (6, AV.int IntKind.i64 0)], Prod.snd x27) := by intros; kernel_rfl

theorem f37b_RX1111010 : ∀ (Γ : Gam) (k : Nat) (σ : Store) (p28 p29 p30 : Ptr) (i31 : Int) (p32 : Ptr),
  roundX Try.prog Γ drawn k Try.f37 [1, 1, 1, 1, 0, 1, 0] [(46, AV.ptr p32), (45, AV.int IntKind.i64 i31), (9, AV.ptr p28), (4, AV.ptr p29), (3, AV.ptr p30)] σ = some (AX.normal, [(11, AV.ptr p32), (10, AV.int IntKind.i64 i31), (46, AV.ptr p32), (45, AV.int IntKind.i64 i31), (9, AV.ptr p28), (4, AV.ptr p29), (3, AV.ptr p30)], σ) := by intros; kernel_rfl

theorem f37b_RY1111010 : ∀ (Γ : Gam) (k : Nat) (σ : Store) (p33 : Ptr) (i34 : Int) (p35 p36 p37 : Ptr),
  roundY Try.prog Γ drawn k Try.f37 [1, 1, 1, 1, 0, 1, 0] [(11, AV.ptr p33), (10, AV.int IntKind.i64 i34), (9, AV.ptr p35), (4, AV.ptr p36), (3, AV.ptr p37)] σ =
    Option.bind (Store.ldInt σ IntKind.i64 p36) fun x38 ↦
      Option.bind (Store.ldPtr σ p37) fun x39 ↦
        Option.bind x39 fun x40 ↦
          Option.bind (Store.ldInt σ IntKind.i64 (Ptr.add (some x40) 1)) fun x41 ↦
            if 0 ≤ IntKind.wrap IntKind.i64 (IntKind.wrap IntKind.i64 (x41 - 1) - i34) then
              if decide (bitOp BinOp.and IntKind.i64 (shrI IntKind.i64 x38 (IntKind.wrap IntKind.i64 (IntKind.wrap IntKind.i64 (x41 - 1) - i34))) 1 = 1) = true then
                Option.bind (Store.ldInt σ IntKind.i64 p35) fun x42 ↦
                  Option.bind (callG Γ true (Fun.fn 32) [AV.ptr p33] σ) fun x43 ↦
                    Option.bind (AV.asInt IntKind.i64 (Prod.fst x43)) fun x44 ↦
                      Option.bind (callG Γ true (Fun.fn 63) [AV.ptr p33, AV.int IntKind.i64 x44] (Prod.snd x43)) fun x45 ↦
                        Option.bind (AV.asInt IntKind.i64 (Prod.fst x45)) fun x46 ↦ Option.bind (Γ (Fun.fn 62) [AV.ptr p33, AV.int IntKind.i64 (IntKind.wrap IntKind.i64 (x42 - x46))] (Prod.snd x45)) fun x47 ↦ Option.bind (AV.asInt IntKind.i64 (Prod.fst x47)) fun x48 ↦ Option.bind (Store.stL (Prod.snd x47) p35 [AV.int IntKind.i64 x48] 0) fun x49 ↦ some (AX.normal, x49)
              else Option.bind (Store.ldInt σ IntKind.i64 p35) fun x50 ↦ Option.bind (Γ (Fun.fn 64) [AV.ptr p33, AV.int IntKind.i64 x50] σ) fun x51 ↦ Option.bind (AV.asInt IntKind.i64 (Prod.fst x51)) fun x52 ↦ Option.bind (Store.stL (Prod.snd x51) p35 [AV.int IntKind.i64 x52] 0) fun x53 ↦ some (AX.normal, x53)
            else none := by intros; kernel_rfl

theorem f37b_RC1111010 : ∀ (Γ : Gam) (k : Nat) (σ : Store) (p54 : Ptr) (i55 : Int), contF Try.prog Γ drawn k Try.f37 [1, 1, 1, 1, 0, 1, 0] (AX.normal, [(9, AV.ptr p54), (6, AV.int IntKind.i64 i55)], σ) = Option.bind (Store.ldInt σ IntKind.i64 p54) fun x56 ↦ some (AV.int IntKind.i64 x56, σ) := by intros; kernel_rfl

end Go.Ab

/- Where a number stands: Select of a matrix. -/
namespace Go.Ab
open Go Go.Proofs Go.Ab.Wd Go.Ab.Bs Go.Ab.Sai
set_option linter.unusedVariables false
set_option linter.unusedSimpArgs false
/-- The way of a place down the levels. -/
def ppath (w : Nat) (l : List Int) (c : Int) (P : Nat) : Nat → Nat
  | 0 => P
  | j + 1 => goto (lev w l j) (ppath w l c P j) (bitb (w - j - 1) c)
theorem ppath_eq {w : Nat} {l : List Int} {c : Int} {P : Nat} (hl : ∀ x ∈ l, x.toNat < 2 ^ w) (cw : c.toNat < 2 ^ w) (hP : P ≤ l.length) : ∀ j, j ≤ w →
    Part (Bs.rowAt w l (w - j)) (apath w l c j) ((l.take P).filter (pre (w - j) (c.toNat / 2 ^ (w - j)))) ∧ ppath w l c P j = apath w l c j + ((l.take P).filter (pre (w - j) (c.toNat / 2 ^ (w - j)))).length
  | 0, _ => by
    have PT := Part.top (w := w) (l := l) hl (a := 0) (b := P) (by omega) hP
    have ef : (l.take P).filter (pre w 0) = l.take P := List.filter_eq_self.2 fun x hx => pre_top (hl x (List.mem_of_mem_take hx))
    rw [Nat.sub_zero, Nat.div_eq_of_lt cw]
    refine ⟨by simpa [apath] using PT, ?_⟩
    rw [ef, List.length_take, Nat.min_eq_left hP, apath, ppath, Nat.zero_add]
  | j + 1, hj => by
    obtain ⟨P1, e1⟩ := ppath_eq hl cw hP j (by omega)
    obtain ⟨k, hk⟩ : ∃ k, w = j + (k + 1) := ⟨w - j - 1, by omega⟩
    rw [show w - j = k + 1 by omega] at P1 e1
    rw [show w - (j + 1) = k by omega]
    have st := P1.step (by omega) (bitb k c)
    rw [← lev_eq l hk, ← div_bit c k] at st
    have ea : apath w l c (j + 1) = goto (lev w l j) (apath w l c j) (bitb k c) := by rw [apath, show w - j - 1 = k by omega]
    have ep : ppath w l c P (j + 1) = goto (lev w l j) (ppath w l c P j) (bitb k c) := by rw [ppath, show w - j - 1 = k by omega]
    rw [ea, ep, e1]
    exact st
/-- The number stands at its place on all levels. -/
theorem ppath_part {w : Nat} {l : List Int} {c : Int} {P : Nat} (hP : P < l.length) (hc : rd l P = c) : ∀ j, j ≤ w → Part (Bs.rowAt w l (w - j)) (ppath w l c P j) [c]
  | 0, _ => by
    rw [Nat.sub_zero, rowAt_top, ppath]
    have h1 := Part.of_take (r := l) (a := P) (b := P + 1) (by omega) (by omega)
    have h2 : (l.take (P + 1)).drop P = [c] := by
      rw [List.drop_take, show P + 1 - P = 1 by omega, drop_rd hP]; simp [hc]
    rw [h2] at h1; exact h1
  | j + 1, hj => by
    have P1 := ppath_part (w := w) hP hc j (by omega)
    obtain ⟨k, hk⟩ : ∃ k, w = j + (k + 1) := ⟨w - j - 1, by omega⟩
    rw [show w - j = k + 1 by omega] at P1
    rw [show w - (j + 1) = k by omega, ppath, show w - j - 1 = k by omega]
    have st := P1.down k (bitb k c)
    have e1 : ([c].filter fun y => bitb k y == bitb k c) = [c] := by simp
    rw [e1, ← rowAt_step w l k (show k < w by omega), ← lev_eq l hk] at st
    exact st.1
noncomputable abbrev sx : Code := codeAt (fnCode Try.f37) ([1, 1, 1, 1, 0, 1, 0] ++ [0])
noncomputable abbrev sy : Code := codeAt (fnCode Try.f37) ([1, 1, 1, 1, 0, 1, 0] ++ [1])
noncomputable abbrev sobj (N : Nat) (st : LSt) : AObj := .loop [(9, .ptr (some (N + 2, 0))), (4, .ptr (some (N + 1, 0))), (3, .ptr (some (N, 0)))] [45, 46] sx sy (Func.ntmps Try.f37) st
/-- What holds between rounds. -/
structure SelI (σ : Store) (p : Ptr) (hl : Hdl) (c : Int) (w : Nat) (l : List Int) (P : Nat) (m : Nat) (st : LSt) (s : Store) : Prop where
  kk : Kp σ.objs.length σ s
  r0 : s.Row σ.objs.length 1 [.ptr p]
  r1 : s.Row (σ.objs.length + 1) 1 [.int .i64 c]
  r2 : s.Row (σ.objs.length + 2) 1 [.int .i64 (ppath w l c P m)]
  r3 : s.Row (σ.objs.length + 3) 1 [.slice hl]
  r4 : s.objs[σ.objs.length + 4]? = some (sobj σ.objs.length st)
theorem SelI.set {σ : Store} {p : Ptr} {hl : Hdl} {c : Int} {w : Nat} {l : List Int} {P m : Nat} {st st' : LSt} {s : Store} (I : SelI σ p hl c w l P m st s) : SelI σ p hl c w l P m st' (s.setO (σ.objs.length + 4) (sobj σ.objs.length st')) := by
  have hlt : σ.objs.length + 4 < s.objs.length := (List.getElem?_eq_some_iff.1 I.r4).1
  exact ⟨I.kk.setO (by omega), I.r0.setO_ne (by omega), I.r1.setO_ne (by omega), I.r2.setO_ne (by omega), I.r3.setO_ne (by omega), by rw [setO_get _ _ _ hlt, if_pos rfl]⟩
theorem sel_round {σ : Store} {p : Ptr} {hl : Hdl} {c : Int} {w : Nat} {l : List Int} {P m : Nat} {s : Store} {q : Ptr} (M : Mat σ p l w) (hp : σ.prot ≤ σ.objs.length) (hm : m < w) (hP : P < l.length) (hc : rd l P = c) (hq : Vec σ q (lev w l m)) (I : SelI σ p hl c w l P (m + 1) .ready s) :
    ∃ s', RunsY Try.prog (σ.objs.length + 4) [.int .i64 m, .ptr q] s (.bool true) s' ∧ SelI σ p hl c w l P m .ready s' := by
  obtain ⟨N, hN⟩ : ∃ N, N = σ.objs.length := ⟨_, rfl⟩
  obtain ⟨k, hk⟩ : ∃ k, w = m + (k + 1) := ⟨w - m - 1, by omega⟩
  have hcl : c ∈ l := by rw [← hc]; exact rd_mem (by omega) (by omega)
  have c0 := (M.rng c hcl).1
  have cw := M.nat c hcl
  have hw := M.wid
  have sm := M.small
  have p24 : 2 ^ w ≤ 2 ^ 24 := Nat.pow_le_pow_right (by omega) hw.2
  have Ib := I.set (st' := .busy)
  obtain ⟨sb, hsb⟩ : ∃ x, x = s.setO (σ.objs.length + 4) (sobj σ.objs.length .busy) := ⟨_, rfl⟩
  rw [← hsb] at Ib
  have Mb : Mat sb p l w := M.kp Ib.kk
  have Vb : Vec sb q (lev w l m) := hq.kp Ib.kk
  obtain ⟨b, hl_, rfl, e0, e1, e2, ln, _⟩ := Mb.facts
  have f0 : sb.ldPtr (some (σ.objs.length, 0)) = some (some (b, 0)) := by simp only [Store.ldPtr, Ib.r0.cell]; simp
  have f1 : sb.ldInt .i64 (some (σ.objs.length + 1, 0)) = some c := by simp only [Store.ldInt, Ib.r1.cell]; simp
  have f2 : sb.ldInt .i64 (some (σ.objs.length + 2, 0)) = some ((ppath w l c P (m + 1) : Nat) : Int) := by simp only [Store.ldInt, Ib.r2.cell]; simp
  have pt := ppath_part (w := w) hP hc m (by omega)
  rw [show w - m = k + 1 by omega] at pt
  have bt := bitAt_lev hk pt
  have ple := pt.le
  rw [rowAt_length] at ple
  simp only [List.length_cons, List.length_nil] at ple
  have ll := lev_length w l m
  have ep : ppath w l c P (m + 1) = goto (lev w l m) (ppath w l c P m) (bitb k c) := by rw [ppath, show w - m - 1 = k by omega]
  have wk : IntKind.wrap .i64 (IntKind.wrap .i64 ((w : Int) - 1) - m) = (k : Nat) := by rw [wrap64 (x := (w : Int) - 1) (by omega) (by omega), wrap64 (by omega) (by omega)]; omega
  have k0 : (0 : Int) ≤ (k : Nat) := by omega
  have hpb : sb.prot ≤ σ.objs.length := by rw [Ib.kk.prot]; exact hp
  have lb : σ.objs.length + 4 < sb.objs.length := (List.getElem?_eq_some_iff.1 Ib.r4).1
  -- the place found
  have found : ∃ sc, Ev (fun kk => roundY Try.prog (gm Try.prog kk) drawn kk Try.f37 [1, 1, 1, 1, 0, 1, 0] [(11, .ptr q), (10, .int .i64 m), (9, .ptr (some (σ.objs.length + 2, 0))), (4, .ptr (some (σ.objs.length + 1, 0))), (3, .ptr (some (σ.objs.length, 0)))] sb)
      (.normal, sc) ∧ SelI σ (some (b, 0)) hl c w l P m .busy sc := by
    have fin : ∀ s2 : Store, Kp sb.objs.length sb s2 → ∃ sc, s2.stL (some (σ.objs.length + 2, 0)) [.int .i64 (ppath w l c P m : Nat)] 0 = some sc ∧ SelI σ (some (b, 0)) hl c w l P m .busy sc := fun s2 K2 => by
      have R2 := Ib.r2.kp K2 (by omega)
      have t := st_cell R2 (by rw [K2.prot]; omega) (o := 0) (by simp) (v := .int .i64 (ppath w l c P m : Nat)) rfl
      refine ⟨_, t, ⟨(Ib.kk.trans (K2.mono (by omega))).setO (by omega), (Ib.r0.kp K2 (by omega)).setO_ne (by omega), (Ib.r1.kp K2 (by omega)).setO_ne (by omega), Store.Row.setO_eq R2.lt, (Ib.r3.kp K2 (by omega)).setO_ne (by omega), ?_⟩⟩
      show (s2.objs.set (σ.objs.length + 2) _)[σ.objs.length + 4]? = _
      rw [List.getElem?_set, if_neg (by omega), K2.keep _ lb]; exact Ib.r4
    cases hb : bitb k c with
    | true =>
      have bt' := bit_on c0 (by omega) (by omega) hb
      have btd := decide_eq_true bt'
      rw [hb] at bt ep
      obtain ⟨s2, ⟨n1, r1⟩, K2⟩ := select1_run Vb (i := ppath w l c P m) (by omega) bt
      obtain ⟨n2, r2⟩ := vec_len (Vb.keep (σ' := { sb with prot := sb.objs.length }) fun _ _ => rfl)
      obtain ⟨n3, r3⟩ := vec_zeros (Vb.keep (σ' := { sb with prot := sb.objs.length }) fun _ _ => rfl) ((lev w l m).length : Nat)
      rw [Int.toNat_natCast] at r3
      obtain ⟨sc, ts, Isc⟩ := fin s2 K2
      have gl := goto_le (lev w l m) (ppath w l c P m) true
      have wz : IntKind.wrap .i64 ((ppath w l c P (m + 1) : Nat) - (zerosTo (lev w l m) (lev w l m).length : Nat)) = (onesTo (lev w l m) (ppath w l c P m) : Nat) := by
        rw [ep]; unfold goto at gl ⊢; simp only [if_true] at gl ⊢
        rw [wrap64 (by omega) (by omega)]; omega
      refine ⟨sc, ⟨n1 + n2 + n3, fun kk hkk => ?_⟩, Isc⟩
      have r1 := r1 kk (by omega)
      have r2 := r2 kk (by omega)
      have r3 := r3 kk (by omega)
      simp only at r1 r2 r3
      have r2 := callG_same r2
      have r3 := callG_same r3
      simp only [f37b_RY1111010]
      simp only [Option.bind_some, decide_eq_true_eq, decide_eq_false_iff_not, Bool.not_eq_true', Bool.not_true, Bool.not_false, Bool.false_eq_true, Bool.true_eq_false, Bool.not_eq_eq_eq_not, beq_self_eq_true, beqFT, beqTF, decide_true, decide_false, not_false_eq_true, not_true_eq_false, ne_eq, true_and, and_true, false_and, and_false, and_self, if_true, if_false, ite_true, ite_false, Bool.and_true, Bool.and_false, Bool.true_and, Bool.false_and, Bool.or_true, Bool.true_or, Bool.or_false, Bool.false_or, or_true, true_or, or_false, false_or, or_self, AV.asInt, AV.asBool, AV.asSl, AV.asPtr, AV.asFn, AV.asStr, AV.asMap, AV.asIfc, AV.item, List.length_cons, List.length_nil, List.getElem?_cons_zero, List.getElem?_cons_succ, Nat.zero_add, f1, f0, e1, wk, k0, btd, bt', f2, r2, r3, wz, r1, ts]
    | false =>
      have bt' := bit_off c0 (by omega) (by omega) hb
      have btd := decide_eq_false bt'
      rw [hb] at bt ep
      obtain ⟨s2, ⟨n1, r1⟩, K2⟩ := select0_run Vb (i := ppath w l c P m) (by omega) bt
      obtain ⟨sc, ts, Isc⟩ := fin s2 K2
      have ez : (ppath w l c P (m + 1)) = zerosTo (lev w l m) (ppath w l c P m) := by rw [ep]; simp [goto]
      rw [ez] at f2
      refine ⟨sc, ⟨n1, fun kk hkk => ?_⟩, Isc⟩
      have r1 := r1 kk (by omega)
      simp only at r1
      simp only [f37b_RY1111010]
      simp only [Option.bind_some, decide_eq_true_eq, decide_eq_false_iff_not, Bool.not_eq_true', Bool.not_true, Bool.not_false, Bool.false_eq_true, Bool.true_eq_false, Bool.not_eq_eq_eq_not, beq_self_eq_true, beqFT, beqTF, decide_true, decide_false, not_false_eq_true, not_true_eq_false, ne_eq, true_and, and_true, false_and, and_false, and_self, if_true, if_false, ite_true, ite_false, Bool.and_true, Bool.and_false, Bool.true_and, Bool.false_and, Bool.or_true, Bool.true_or, Bool.or_false, Bool.false_or, or_true, true_or, or_false, false_or, or_self, AV.asInt, AV.asBool, AV.asSl, AV.asPtr, AV.asFn, AV.asStr, AV.asMap, AV.asIfc, AV.item, List.length_cons, List.length_nil, List.getElem?_cons_zero, List.getElem?_cons_succ, Nat.zero_add, f1, f0, e1, wk, k0, btd, bt', f2, r1, ts]
  obtain ⟨sc, ev, Isc⟩ := found
  have hx : ∀ k, evCode Try.prog (gm Try.prog k) drawn k (Func.ntmps Try.f37) false sx ⟨liveC sy ⟨0, 0, []⟩, 0, []⟩ (roundFr [45, 46] [.int .i64 m, .ptr q] [(9, .ptr (some (σ.objs.length + 2, 0))), (4, .ptr (some (σ.objs.length + 1, 0))), (3, .ptr (some (σ.objs.length, 0)))]) s (fun e φ1 σ1 => some ((e, φ1, σ1) : LX)) =
      some (.normal, [(11, .ptr q), (10, .int .i64 m), (46, .ptr q), (45, .int .i64 m), (9, .ptr (some (σ.objs.length + 2, 0))), (4, .ptr (some (σ.objs.length + 1, 0))), (3, .ptr (some (σ.objs.length, 0)))], s) := fun k => f37b_RX1111010 (gm Try.prog k) k s _ _ _ _ _
  refine ⟨sc.setO (σ.objs.length + 4) (sobj σ.objs.length .ready), RunsY.intro I.r4 (by rw [I.kk.prot]; omega) rfl (by kernel_rfl) hx ?_ Isc.r4, Isc.set⟩
  obtain ⟨n, ev⟩ := ev
  refine ⟨n, fun kk hkk => ?_⟩
  have ev := ev kk hkk
  simp only at ev
  have hsel : Fr.sel [(11, AV.ptr q), (10, AV.int .i64 m), (46, AV.ptr q), (45, AV.int .i64 m), (9, AV.ptr (some (σ.objs.length + 2, 0))), (4, AV.ptr (some (σ.objs.length + 1, 0))), (3, AV.ptr (some (σ.objs.length, 0)))] (liveC sy ⟨0, 0, []⟩) (Func.ntmps Try.f37) = [(11, .ptr q), (10, .int .i64 m), (9, .ptr (some (σ.objs.length + 2, 0))), (4, .ptr (some (σ.objs.length + 1, 0))), (3, .ptr (some (σ.objs.length, 0)))] := by kernel_rfl
  rw [hsel]
  rw [hsb] at ev
  exact ev
end Go.Ab

/- Where a number stands: Select of a matrix, whole. -/
namespace Go.Ab
open Go Go.Proofs Go.Ab.Wd Go.Ab.Bs Go.Ab.Sai
set_option linter.unusedVariables false
set_option linter.unusedSimpArgs false
theorem exists_kth (p : Int → Bool) : ∀ (l : List Int) (k : Nat), k < Bs.cnt p l → ∃ P : Nat, P < l.length ∧ p (rd l P) = true ∧ Bs.cnt p (l.take P) = k
  | [], k, h => by simp [Bs.cnt] at h
  | x :: l, k, h => by
    rw [Bs.cnt_cons] at h
    have e : ∀ P : Nat, P < l.length → rd (x :: l) ((P + 1 : Nat) : Int) = rd l (P : Int) := fun P hP => by rw [rd_getElem (by simp; omega), rd_getElem hP]; simp
    by_cases hx : p x = true
    · rw [if_pos hx] at h
      cases k with
      | zero => exact ⟨0, by simp, by rw [rd_getElem (by simp)]; simpa using hx, by simp [Bs.cnt]⟩
      | succ k =>
        obtain ⟨P, h1, h2, h3⟩ := exists_kth p l k (by omega)
        refine ⟨P + 1, by simp; omega, by rw [e P h1]; exact h2, ?_⟩
        rw [List.take_succ_cons, Bs.cnt_cons, if_pos hx, h3]; omega
    · rw [if_neg hx] at h
      obtain ⟨P, h1, h2, h3⟩ := exists_kth p l k (by omega)
      refine ⟨P + 1, by simp; omega, by rw [e P h1]; exact h2, ?_⟩
      rw [List.take_succ_cons, Bs.cnt_cons, if_neg hx, h3]; omega
theorem kth_uniq {p : Int → Bool} {l : List Int} {P Q : Nat} (hP : P < l.length) (hQ : Q < l.length) (h1 : p (rd l P) = true) (h2 : p (rd l Q) = true) (h : Bs.cnt p (l.take P) = Bs.cnt p (l.take Q)) : P = Q := by
  have mono : ∀ {i j : Nat}, i ≤ j → Bs.cnt p (l.take i) ≤ Bs.cnt p (l.take j) := fun {i j} hij => by
    rw [show l.take j = l.take i ++ (l.drop i).take (j - i) by rw [← List.take_add]; congr 1; omega, cnt_append]; omega
  have sP := cnt_take_succ p hP
  have sQ := cnt_take_succ p hQ
  rw [if_pos h1] at sP
  rw [if_pos h2] at sQ
  rcases Nat.lt_trichotomy P Q with c | c | c
  · have := mono (i := P + 1) (j := Q) (by omega); omega
  · exact c
  · have := mono (i := Q + 1) (j := P) (by omega); omega
section
variable {σ : Store} {p : Ptr} {l : List Int} {w : Nat}
theorem sel_back {hl : Hdl} {ps : List Ptr} {c : Int} {P : Nat} {s : Store} (M : Mat σ p l w) (hp : σ.prot ≤ σ.objs.length) (S : σ.Sl hl 1 (ptrsL ps)) (lp : ps.length = w) (V : ∀ j, j < w → ∃ q, ps[j]? = some q ∧ Vec σ q (lev w l j)) (hP : P < l.length) (hc : rd l P = c) (I : SelI σ p hl c w l P w .ready s) :
    ∃ s', Runs Try.prog 78 [.yld (σ.objs.length + 4), .ptr (some (σ.objs.length + 3, 0))] s (.tuple []) s' ∧ SelI σ p hl c w l P 0 .ready s' := by
  have hw := M.wid
  have hll : hl.len = w := by have := S.len; simp at this; omega
  have e3 : ∀ {m : Nat} {s1 : Store}, SelI σ p hl c w l P m .ready s1 → s1.ldSl (some (σ.objs.length + 3, 0)) = some hl := fun {m s1} I => by simp only [Store.ldSl, I.r3.cell]; simp
  obtain ⟨r, e, s', rfl, I'⟩ := EvI.downX (f := fun k s => stepF Try.prog (gm Try.prog k) drawn k Try.f78 [1, 0] [3, 1, 0] s)
    (fun m st => ∃ s1, st = ([.int .i64 ((m : Int) - 1), .ptr (some (σ.objs.length + 3, 0)), .yld (σ.objs.length + 4)], s1) ∧ m ≤ w ∧ SelI σ p hl c w l P m .ready s1)
    (fun r => ∃ s1, r = (AX.exit 0, [], s1) ∧ SelI σ p hl c w l P 0 .ready s1)
    (by
      rintro m st ⟨s1, rfl, hm, I1⟩
      have em : ((m + 1 : Nat) : Int) - 1 = m := by omega
      rw [em]
      obtain ⟨q, hq, vq⟩ := V m (by omega)
      obtain ⟨s2, ⟨n1, r1⟩, I2⟩ := sel_round M hp (by omega) hP hc vq I1
      have g := ptrs_rd (Store.Sl.kp S I1.kk) hq
      have i0 : (0 : Int) ≤ m := by omega
      have i1 : (m : Int) < hl.len := by omega
      have w1 : IntKind.wrap .i64 ((m : Int) - 1) = m - 1 := wrap64 (by omega) (by omega)
      refine .inl ⟨_, ⟨n1, fun k hk => ?_⟩, s2, rfl, by omega, I2⟩
      have r1 := r1 k hk
      simp only at r1
      simp only [f78_L10]
      simp only [Option.bind_some, decide_eq_true_eq, decide_eq_false_iff_not, Bool.not_eq_true', Bool.not_true, Bool.not_false, Bool.false_eq_true, Bool.true_eq_false, Bool.not_eq_eq_eq_not, beq_self_eq_true, beqFT, beqTF, decide_true, decide_false, not_false_eq_true, not_true_eq_false, ne_eq, true_and, and_true, false_and, and_false, and_self, if_true, if_false, ite_true, ite_false, Bool.and_true, Bool.and_false, Bool.true_and, Bool.false_and, Bool.or_true, Bool.true_or, Bool.or_false, Bool.false_or, or_true, true_or, or_false, false_or, or_self, AV.asInt, AV.asBool, AV.asSl, AV.asPtr, AV.asFn, AV.asStr, AV.asMap, AV.asIfc, AV.item, List.length_cons, List.length_nil, List.getElem?_cons_zero, List.getElem?_cons_succ, Nat.zero_add, i0, e3 I1, i1, g, r1, w1])
    (by
      rintro st ⟨s1, rfl, _, I1⟩
      have c1 : ¬ (0 : Int) ≤ ((0 : Nat) : Int) - 1 := by omega
      exact ⟨(AX.exit 0, [], s1), Ev.of fun k => by simp only [f78_L10]; simp only [Option.bind_some, decide_eq_true_eq, decide_eq_false_iff_not, Bool.not_eq_true', Bool.not_true, Bool.not_false, Bool.false_eq_true, Bool.true_eq_false, Bool.not_eq_eq_eq_not, beq_self_eq_true, beqFT, beqTF, decide_true, decide_false, not_false_eq_true, not_true_eq_false, ne_eq, true_and, and_true, false_and, and_false, and_self, if_true, if_false, ite_true, ite_false, Bool.and_true, Bool.and_false, Bool.true_and, Bool.false_and, Bool.or_true, Bool.true_or, Bool.or_false, Bool.false_or, or_true, true_or, or_false, false_or, or_self, AV.asInt, AV.asBool, AV.asSl, AV.asPtr, AV.asFn, AV.asStr, AV.asMap, AV.asIfc, AV.item, List.length_cons, List.length_nil, List.getElem?_cons_zero, List.getElem?_cons_succ, Nat.zero_add, c1], s1, rfl, I1⟩)
    w (s := ([.int .i64 ((w : Int) - 1), .ptr (some (σ.objs.length + 3, 0)), .yld (σ.objs.length + 4)], s)) ⟨s, rfl, Nat.le_refl _, I⟩
  refine ⟨s', Runs.intro (fn := Try.f78) (by kernel_rfl) (by kernel_rfl) ?_, I'⟩
  have w1 : IntKind.wrap .i64 ((hl.len : Int) - 1) = (w : Int) - 1 := by rw [hll, wrap64 (by omega) (by omega)]
  refine (Ev.bind (loopF_ev e) (Ev.of fun k => f78_X10_2 (gm Try.prog k) k s')).congr fun k => ?_
  simp only [f78_eq]
  simp only [Option.bind_some, decide_eq_true_eq, decide_eq_false_iff_not, Bool.not_eq_true', Bool.not_true, Bool.not_false, Bool.false_eq_true, Bool.true_eq_false, Bool.not_eq_eq_eq_not, beq_self_eq_true, beqFT, beqTF, decide_true, decide_false, not_false_eq_true, not_true_eq_false, ne_eq, true_and, and_true, false_and, and_false, and_self, if_true, if_false, ite_true, ite_false, Bool.and_true, Bool.and_false, Bool.true_and, Bool.false_and, Bool.or_true, Bool.true_or, Bool.or_false, Bool.false_or, or_true, true_or, or_false, false_or, or_self, AV.asInt, AV.asBool, AV.asSl, AV.asPtr, AV.asFn, AV.asStr, AV.asMap, AV.asIfc, AV.item, List.length_cons, List.length_nil, List.getElem?_cons_zero, List.getElem?_cons_succ, Nat.zero_add, e3 I, w1]
theorem matSelect_run (M : Mat σ p l w) (hp : σ.prot ≤ σ.objs.length) (c k : Int) :
    ∃ (r : Int) (σ' : Store), Runs Try.prog 37 [.ptr p, .int .i64 c, .int .i64 k] σ (.int .i64 r) σ' ∧ Kp σ.objs.length σ σ' ∧ (∀ P : Nat, P < l.length → rd l P = c → k = (Bs.cnt (fun x => decide (x = c)) (l.take P) : Nat) → r = P) ∧ (¬ (0 ≤ k ∧ k < Bs.cnt (fun x => decide (x = c)) l) → r = -1) := by
  have hw := M.wid
  have sm := M.small
  obtain ⟨σ1, h1⟩ : ∃ s, s = (σ.push [.ptr p] 1).push [.int .i64 c] 1 := ⟨_, rfl⟩
  have K1 : Kp σ.objs.length σ σ1 := by rw [h1]; exact (Kp.push _ _ (Nat.le_refl _)).push' (by simp)
  have len1 : σ1.objs.length = σ.objs.length + 2 := by rw [h1]; simp
  have lpush : (σ.push [.ptr p] 1).objs.length = σ.objs.length + 1 := by simp
  have R0 : σ1.Row σ.objs.length 1 [.ptr p] := by rw [h1]; exact Store.Row.new.push
  have R1 : σ1.Row (σ.objs.length + 1) 1 [.int .i64 c] := by
    rw [h1]; have := (Store.Row.new : ((σ.push [.ptr p] 1).push [.int .i64 c] 1).Row _ 1 _); simpa using this
  have f0 : σ1.ldPtr (some (σ.objs.length, 0)) = some p := by simp only [Store.ldPtr, R0.cell]; simp
  have f1 : σ1.ldInt .i64 (some (σ.objs.length + 1, 0)) = some c := by simp only [Store.ldInt, R1.cell]; simp
  have M1 := M.kp K1
  obtain ⟨n1, r1⟩ := has_run M1 c
  have exP : ∀ P : Nat, P < l.length → rd l P = c → Bs.cnt (fun x => decide (x = c)) (l.take P) < Bs.cnt (fun x => decide (x = c)) l := fun P hP hc => by
    have s1 := cnt_take_succ (fun x => decide (x = c)) hP
    rw [if_pos (by simpa using hc)] at s1
    have := cnt_take_le (fun x => decide (x = c)) l (P + 1)
    omega
  by_cases hh : 0 ≤ c ∧ c.toNat < 2 ^ w
  case neg =>
    rw [decide_eq_false hh] at r1
    have hno : ∀ P : Nat, P < l.length → rd l P ≠ c := fun P hP e => by
      have hx : rd l P ∈ l := rd_mem (by omega) (by omega)
      rw [e] at hx
      exact hh ⟨(M.rng c hx).1, M.nat c hx⟩
    refine ⟨-1, σ1, Runs.intro (fn := Try.f37) (by kernel_rfl) (by kernel_rfl) ⟨n1, fun m hm => ?_⟩, K1, fun P hP hc => absurd hc (hno P hP), fun _ => rfl⟩
    have r1 := r1 m hm
    simp only at r1
    simp only [f37b_eq]
    simp only [Option.bind_some, decide_eq_true_eq, decide_eq_false_iff_not, Bool.not_eq_true', Bool.not_true, Bool.not_false, Bool.false_eq_true, Bool.true_eq_false, Bool.not_eq_eq_eq_not, beq_self_eq_true, beqFT, beqTF, decide_true, decide_false, not_false_eq_true, not_true_eq_false, ne_eq, true_and, and_true, false_and, and_false, and_self, if_true, if_false, ite_true, ite_false, Bool.and_true, Bool.and_false, Bool.true_and, Bool.false_and, Bool.or_true, Bool.true_or, Bool.or_false, Bool.false_or, or_true, true_or, or_false, false_or, or_self, AV.asInt, AV.asBool, AV.asSl, AV.asPtr, AV.asFn, AV.asStr, AV.asMap, AV.asIfc, AV.item, List.length_cons, List.length_nil, List.getElem?_cons_zero, List.getElem?_cons_succ, Nat.zero_add, ← h1, lpush, f0, f1, r1]
  rw [decide_eq_true hh] at r1
  by_cases c1 : k < 0
  · refine ⟨-1, σ1, Runs.intro (fn := Try.f37) (by kernel_rfl) (by kernel_rfl) ⟨n1, fun m hm => ?_⟩, K1, fun P hP hc hk => by omega, fun _ => rfl⟩
    have r1 := r1 m hm
    simp only at r1
    simp only [f37b_eq]
    simp only [Option.bind_some, decide_eq_true_eq, decide_eq_false_iff_not, Bool.not_eq_true', Bool.not_true, Bool.not_false, Bool.false_eq_true, Bool.true_eq_false, Bool.not_eq_eq_eq_not, beq_self_eq_true, beqFT, beqTF, decide_true, decide_false, not_false_eq_true, not_true_eq_false, ne_eq, true_and, and_true, false_and, and_false, and_self, if_true, if_false, ite_true, ite_false, Bool.and_true, Bool.and_false, Bool.true_and, Bool.false_and, Bool.or_true, Bool.true_or, Bool.or_false, Bool.false_or, or_true, true_or, or_false, false_or, or_self, AV.asInt, AV.asBool, AV.asSl, AV.asPtr, AV.asFn, AV.asStr, AV.asMap, AV.asIfc, AV.item, List.length_cons, List.length_nil, List.getElem?_cons_zero, List.getElem?_cons_succ, Nat.zero_add, ← h1, lpush, f0, f1, r1, c1]
  obtain ⟨b, hl, rfl, e0, e1, e2, ln, _⟩ := M1.facts
  obtain ⟨n2, r2⟩ := matRank_run M1 c l.length
  rw [Int.toNat_natCast, List.take_length] at r2
  by_cases c2 : (Bs.cnt (fun x => decide (x = c)) l : Int) ≤ k
  · refine ⟨-1, σ1, Runs.intro (fn := Try.f37) (by kernel_rfl) (by kernel_rfl) ⟨n1 + n2, fun m hm => ?_⟩, K1, fun P hP hc hk => by have := exP P hP hc; omega, fun _ => rfl⟩
    have r1 := r1 m (by omega)
    have r2 := r2 m (by omega)
    simp only at r1 r2
    simp only [f37b_eq]
    simp only [Option.bind_some, decide_eq_true_eq, decide_eq_false_iff_not, Bool.not_eq_true', Bool.not_true, Bool.not_false, Bool.false_eq_true, Bool.true_eq_false, Bool.not_eq_eq_eq_not, beq_self_eq_true, beqFT, beqTF, decide_true, decide_false, not_false_eq_true, not_true_eq_false, ne_eq, true_and, and_true, false_and, and_false, and_self, if_true, if_false, ite_true, ite_false, Bool.and_true, Bool.and_false, Bool.true_and, Bool.false_and, Bool.or_true, Bool.true_or, Bool.or_false, Bool.false_or, or_true, true_or, or_false, false_or, or_self, AV.asInt, AV.asBool, AV.asSl, AV.asPtr, AV.asFn, AV.asStr, AV.asMap, AV.asIfc, AV.item, List.length_cons, List.length_nil, List.getElem?_cons_zero, List.getElem?_cons_succ, Nat.zero_add, ← h1, lpush, f0, f1, r1, c1, e0, r2, c2]
  obtain ⟨P, hP, hPc, hPk⟩ := exists_kth (fun x => decide (x = c)) l k.toNat (by omega)
  have hPc : rd l P = c := by simpa using hPc
  obtain ⟨⟨n3, r3⟩, _⟩ := span_run M1 hh.1 hh.2 (i := 0) (by omega)
  obtain ⟨_, ppe⟩ := ppath_eq (c := c) (P := P) M.nat hh.2 (by omega) w (Nat.le_refl _)
  rw [Nat.sub_self, Nat.pow_zero, Nat.div_one, filt_nat (fun x hx => (M.rng x (List.mem_of_mem_take hx)).1) hh.1, hPk] at ppe
  have pl := (ppath_part (w := w) hP hPc w (Nat.le_refl _)).le
  rw [rowAt_length] at pl
  simp only [List.length_cons, List.length_nil] at pl
  have wa : IntKind.wrap .i64 (((apath w l c w : Nat) : Int) + k) = (ppath w l c P w : Nat) := by rw [wrap64 (by omega) (by omega)]; omega
  -- the cell of the place
  have R2n : (σ1.push [.int .i64 0] 1).Row (σ.objs.length + 2) 1 [.int .i64 0] := by
    have := (Store.Row.new : (σ1.push [.int .i64 0] 1).Row _ 1 _); rwa [len1] at this
  have t3 := st_cell R2n (by simp only [push_prot]; rw [K1.prot]; omega) (o := 0) (by simp) (v := .int .i64 (ppath w l c P w : Nat)) rfl
  obtain ⟨σ3, h3⟩ : ∃ s, s = (σ1.push [.int .i64 0] 1).setO (σ.objs.length + 2) (.cells ([.int .i64 0].set 0 (.int .i64 (ppath w l c P w : Nat))) true 1) := ⟨_, rfl⟩
  rw [← h3] at t3
  have K3 : Kp (σ.objs.length + 2) σ1 σ3 := by rw [h3, ← len1]; exact (Kp.push _ _ (Nat.le_refl _)).setO (by omega)
  have len3 : σ3.objs.length = σ.objs.length + 3 := by rw [h3]; simp [len1]
  have R23 : σ3.Row (σ.objs.length + 2) 1 [.int .i64 (ppath w l c P w : Nat)] := by rw [h3]; exact Store.Row.setO_eq R2n.lt
  have R03 := R0.kp K3 (by omega)
  have R13 := R1.kp K3 (by omega)
  have f03 : σ3.ldPtr (some (σ.objs.length, 0)) = some (some (b, 0)) := by simp only [Store.ldPtr, R03.cell]; simp
  obtain ⟨bb, hlx, ps, eb, RM, S, lp, V⟩ := M.ex
  injection eb with eb; injection eb with eb _; subst eb
  have K03 : Kp σ.objs.length σ σ3 := K1.trans (K3.mono (by omega))
  have e23 := row_sl (RM.kp K03 RM.lt) (o := 2) rfl
  -- Backward
  obtain ⟨σ4, h4⟩ : ∃ s, s = σ3.push [.slice hlx] 1 := ⟨_, rfl⟩
  have K4 : Kp σ3.objs.length σ3 σ4 := by rw [h4]; exact Kp.push _ _ (Nat.le_refl _)
  have len4 : σ4.objs.length = σ.objs.length + 4 := by rw [h4]; simp [len3]
  have rB : Runs Try.prog 61 [.slice hlx] σ3 (.func 78 [] [.ptr (some (σ.objs.length + 3, 0))]) σ4 :=
    Runs.intro (fn := Try.f61) (by kernel_rfl) (by kernel_rfl) (Ev.of fun m => by rw [f61_eq, h4, len3])
  obtain ⟨n4, r4⟩ := rB
  obtain ⟨σ5, h5⟩ : ∃ s : Store, s = { σ4 with objs := σ4.objs ++ [sobj σ.objs.length .ready] } := ⟨_, rfl⟩
  have g5 : ∀ x, x < σ4.objs.length → σ5.objs[x]? = σ4.objs[x]? := fun x hx => by rw [h5]; exact List.getElem?_append_left hx
  have K5 : Kp σ4.objs.length σ4 σ5 := ⟨by rw [h5], by rw [h5]; simp, g5⟩
  have I5 : SelI σ (some (b, 0)) hlx c w l P w .ready σ5 := by
    have K35 : Kp σ3.objs.length σ3 σ5 := K4.all K5
    refine ⟨K03.trans (K35.mono (by omega)), R03.kp K35 (by omega), R13.kp K35 (by omega), R23.kp K35 (by omega), ?_, ?_⟩
    · have : σ4.Row σ3.objs.length 1 [.slice hlx] := by rw [h4]; exact Store.Row.new
      rw [len3] at this
      exact this.kp K5 (by omega)
    · rw [h5, ← len4]; simp
  obtain ⟨σ6, r6, I6⟩ := sel_back M hp S lp V hP hPc I5
  obtain ⟨n6, g6⟩ := range_ev (P := Try.prog) (g := 78) (a := []) (b := [.ptr (some (σ.objs.length + 3, 0))]) (φ := [(9, .ptr (some (σ.objs.length + 2, 0))), (4, .ptr (some (σ.objs.length + 1, 0))), (3, .ptr (some (σ.objs.length, 0)))]) (ps := [45, 46]) (x := sx) (y := sy) (nt := Func.ntmps Try.f37) (σ := σ4) (σ' := σ6) (by rw [len4, ← h5]; exact r6) (by rw [len4]; exact I6.r4)
  rw [len4] at g6
  have hlt6 : σ.objs.length + 4 < σ6.objs.length := (List.getElem?_eq_some_iff.1 I6.r4).1
  obtain ⟨σ7, h7⟩ : ∃ s, s = σ6.setO (σ.objs.length + 4) .dead := ⟨_, rfl⟩
  rw [← h7] at g6
  have R27 : σ7.Row (σ.objs.length + 2) 1 [.int .i64 (P : Nat)] := by rw [h7]; exact I6.r2.setO_ne (by omega)
  have f27 : σ7.ldInt .i64 (some (σ.objs.length + 2, 0)) = some (P : Int) := by simp only [Store.ldInt, R27.cell]; simp
  refine ⟨P, σ7, Runs.intro (fn := Try.f37) (by kernel_rfl) (by kernel_rfl) ⟨n1 + n2 + n3 + n4 + n6, fun m hm => ?_⟩, by rw [h7]; exact I6.kk.setO (by omega), fun Q hQ hQc hk => ?_, fun h => by omega⟩
  · have r1 := r1 m (by omega)
    have r2 := r2 m (by omega)
    have r3 := r3 m (by omega)
    have r4 := r4 m (by omega)
    have g6 := g6 m (by omega)
    simp only [Int.natCast_zero] at r1 r2 r3 r4 g6
    simp only [f37b_eq]
    simp only [Option.bind_some, decide_eq_true_eq, decide_eq_false_iff_not, Bool.not_eq_true', Bool.not_true, Bool.not_false, Bool.false_eq_true, Bool.true_eq_false, Bool.not_eq_eq_eq_not, beq_self_eq_true, beqFT, beqTF, decide_true, decide_false, not_false_eq_true, not_true_eq_false, ne_eq, true_and, and_true, false_and, and_false, and_self, if_true, if_false, ite_true, ite_false, Bool.and_true, Bool.and_false, Bool.true_and, Bool.false_and, Bool.or_true, Bool.true_or, Bool.or_false, Bool.false_or, or_true, true_or, or_false, false_or, or_self, AV.asInt, AV.asBool, AV.asSl, AV.asPtr, AV.asFn, AV.asStr, AV.asMap, AV.asIfc, AV.item, List.length_cons, List.length_nil, List.getElem?_cons_zero, List.getElem?_cons_succ, Nat.zero_add, ← h1, lpush, f0, f1, r1, c1, e0, r2, c2, r3, len1, wa, t3, f03, e23, r4]
    refine Eq.trans (congrArg (fun z => Option.bind z _) g6) ?_
    simp only [Option.bind_some, f37b_RC1111010, f27]
  · have := kth_uniq (p := fun x => decide (x = c)) hP hQ (by simpa using hPc) (by simpa using hQc) (by omega)
    omega
end
end Go.Ab

/- The law WaveRanks. -/
namespace Go.Ab
open Go Go.Proofs Go.Ab.Wd Go.Ab.Bs Go.Ab.Sai
set_option linter.unusedVariables false
set_option linter.unusedSimpArgs false
theorem count12_run {σ : Store} {h : Hdl} {l : List Int} (hT : σ.Ints h l) (hn : l.length < 2 ^ 40) (c b : Int) : Runs Try.prog 36 [.slice h, .int .i64 c, .int .i64 0, .int .i64 b] σ (.int .i64 (Bs.cnt (fun x => decide (x = c)) (l.take b.toNat) : Nat)) σ := by
  have ll := hT.ilen
  obtain ⟨r, e, rfl⟩ := EvI.up (f := fun k s => stepF Try.prog (gm Try.prog k) drawn k Try.f36 [1, 1, 0, 1, 0] [14, 13, 12, 9, 3, 2, 1] s) l.length
    (fun i s => s = ([.int .i64 i, .int .i64 l.length, .slice h, .int .i64 (Bs.cnt (fun x => decide (x = c)) (l.take (min i b.toNat)) : Nat), .int .i64 b, .int .i64 0, .int .i64 c], σ))
    (fun r => r = (AX.exit 0, [(9, .int .i64 (Bs.cnt (fun x => decide (x = c)) (l.take b.toNat) : Nat))], σ))
    (by
      rintro i s hi rfl
      have i0 : (0 : Int) ≤ i := by omega
      have i1 : (i : Int) < l.length := by omega
      have w := wsucc hi (by omega)
      have rx := hT.rd i0 i1
      have s1 := cnt_take_succ (fun x => decide (x = c)) hi
      have cl := cnt_le (fun x => decide (x = c)) (l.take (min i b.toNat))
      rw [List.length_take] at cl
      refine ⟨_, Ev.of fun k => ?_, rfl⟩
      simp only [f36_L11010]
      by_cases c1 : (i : Int) < b
      · rw [show min (i + 1) b.toNat = i + 1 by omega, show min i b.toNat = i by omega] at *
        by_cases c2 : rd l i = c
        · rw [if_pos (by simpa using c2)] at s1
          have w2 : IntKind.wrap .i64 ((Bs.cnt (fun x => decide (x = c)) (l.take i) : Nat) + 1) = (Bs.cnt (fun x => decide (x = c)) (l.take i) + 1 : Nat) := by rw [wrap64 (by omega) (by omega)]; omega
          simp only [Option.bind_some, decide_eq_true_eq, decide_eq_false_iff_not, Bool.not_eq_true', Bool.not_true, Bool.not_false, Bool.false_eq_true, Bool.true_eq_false, Bool.not_eq_eq_eq_not, beq_self_eq_true, beqFT, beqTF, decide_true, decide_false, not_false_eq_true, not_true_eq_false, ne_eq, true_and, and_true, false_and, and_false, and_self, if_true, if_false, ite_true, ite_false, Bool.and_true, Bool.and_false, Bool.true_and, Bool.false_and, Bool.or_true, Bool.true_or, Bool.or_false, Bool.false_or, or_true, true_or, or_false, false_or, or_self, AV.asInt, AV.asBool, AV.asSl, AV.asPtr, AV.asFn, AV.asStr, AV.asMap, AV.asIfc, AV.item, List.length_cons, List.length_nil, List.getElem?_cons_zero, List.getElem?_cons_succ, Nat.zero_add, ll, i0, i1, rx, c2, c1, w2, s1, w]
        · rw [if_neg (by simpa using c2)] at s1
          simp only [Option.bind_some, decide_eq_true_eq, decide_eq_false_iff_not, Bool.not_eq_true', Bool.not_true, Bool.not_false, Bool.false_eq_true, Bool.true_eq_false, Bool.not_eq_eq_eq_not, beq_self_eq_true, beqFT, beqTF, decide_true, decide_false, not_false_eq_true, not_true_eq_false, ne_eq, true_and, and_true, false_and, and_false, and_self, if_true, if_false, ite_true, ite_false, Bool.and_true, Bool.and_false, Bool.true_and, Bool.false_and, Bool.or_true, Bool.true_or, Bool.or_false, Bool.false_or, or_true, true_or, or_false, false_or, or_self, AV.asInt, AV.asBool, AV.asSl, AV.asPtr, AV.asFn, AV.asStr, AV.asMap, AV.asIfc, AV.item, List.length_cons, List.length_nil, List.getElem?_cons_zero, List.getElem?_cons_succ, Nat.zero_add, ll, i0, i1, rx, c2, s1, w, Nat.add_zero]
      · rw [show min (i + 1) b.toNat = min i b.toNat by omega]
        by_cases c2 : rd l i = c
        · simp only [Option.bind_some, decide_eq_true_eq, decide_eq_false_iff_not, Bool.not_eq_true', Bool.not_true, Bool.not_false, Bool.false_eq_true, Bool.true_eq_false, Bool.not_eq_eq_eq_not, beq_self_eq_true, beqFT, beqTF, decide_true, decide_false, not_false_eq_true, not_true_eq_false, ne_eq, true_and, and_true, false_and, and_false, and_self, if_true, if_false, ite_true, ite_false, Bool.and_true, Bool.and_false, Bool.true_and, Bool.false_and, Bool.or_true, Bool.true_or, Bool.or_false, Bool.false_or, or_true, true_or, or_false, false_or, or_self, AV.asInt, AV.asBool, AV.asSl, AV.asPtr, AV.asFn, AV.asStr, AV.asMap, AV.asIfc, AV.item, List.length_cons, List.length_nil, List.getElem?_cons_zero, List.getElem?_cons_succ, Nat.zero_add, ll, i0, i1, rx, c2, c1, w]
        · simp only [Option.bind_some, decide_eq_true_eq, decide_eq_false_iff_not, Bool.not_eq_true', Bool.not_true, Bool.not_false, Bool.false_eq_true, Bool.true_eq_false, Bool.not_eq_eq_eq_not, beq_self_eq_true, beqFT, beqTF, decide_true, decide_false, not_false_eq_true, not_true_eq_false, ne_eq, true_and, and_true, false_and, and_false, and_self, if_true, if_false, ite_true, ite_false, Bool.and_true, Bool.and_false, Bool.true_and, Bool.false_and, Bool.or_true, Bool.true_or, Bool.or_false, Bool.false_or, or_true, true_or, or_false, false_or, or_self, AV.asInt, AV.asBool, AV.asSl, AV.asPtr, AV.asFn, AV.asStr, AV.asMap, AV.asIfc, AV.item, List.length_cons, List.length_nil, List.getElem?_cons_zero, List.getElem?_cons_succ, Nat.zero_add, ll, i0, i1, rx, c2, w])
    (by
      rintro s rfl
      have : l.take (min l.length b.toNat) = l.take b.toNat := by
        by_cases c : b.toNat ≤ l.length
        · rw [Nat.min_eq_right c]
        · rw [Nat.min_eq_left (by omega), List.take_length, List.take_of_length_le (by omega)]
      exact ⟨_, Ev.of fun k => by simp only [f36_L11010]; simp only [Option.bind_some, decide_eq_true_eq, decide_eq_false_iff_not, Bool.not_eq_true', Bool.not_true, Bool.not_false, Bool.false_eq_true, Bool.true_eq_false, Bool.not_eq_eq_eq_not, beq_self_eq_true, beqFT, beqTF, decide_true, decide_false, not_false_eq_true, not_true_eq_false, ne_eq, true_and, and_true, false_and, and_false, and_self, if_true, if_false, ite_true, ite_false, Bool.and_true, Bool.and_false, Bool.true_and, Bool.false_and, Bool.or_true, Bool.true_or, Bool.or_false, Bool.false_or, or_true, true_or, or_false, false_or, or_self, AV.asInt, AV.asBool, AV.asSl, AV.asPtr, AV.asFn, AV.asStr, AV.asMap, AV.asIfc, AV.item, List.length_cons, List.length_nil, List.getElem?_cons_zero, List.getElem?_cons_succ, Nat.zero_add, Int.lt_irrefl, this], rfl⟩)
    (s := ([.int .i64 0, .int .i64 l.length, .slice h, .int .i64 0, .int .i64 b, .int .i64 0, .int .i64 c], σ)) (by simp [Bs.cnt])
  refine Runs.intro (fn := Try.f36) (by kernel_rfl) (by kernel_rfl) ?_
  exact (Ev.bind (loopF_ev e) (Ev.of fun k => f36_X11010_1 (gm Try.prog k) k σ _)).congr fun k => by rw [f36_eq, ll]
theorem law_WaveRanks {σ : Store} {h : Hdl} {l : List Int} {c a0 a1 : Int} (hT : σ.Ints h l) (hH : σ.Has h) (hn : l.length < 2 ^ 44) (hw : ∀ n ∈ l, IntKind.min .i64 ≤ n ∧ n ≤ IntKind.max .i64)
    (hc : IntKind.min .i64 ≤ c ∧ c ≤ IntKind.max .i64) (ha0 : IntKind.min .i64 ≤ a0 ∧ a0 ≤ IntKind.max .i64) (ha1 : IntKind.min .i64 ≤ a1 ∧ a1 ≤ IntKind.max .i64) (hp : σ.prot ≤ σ.objs.length) :
    ∃ σ', Runs Try.prog 9 [.slice h, .int .i64 c, .agg [.int .i64 a0, .int .i64 a1]] σ (.bool true) σ' := by
  have ll := hT.ilen
  obtain ⟨σ1, h1⟩ : ∃ s, s = σ.push [.int .i64 a0, .int .i64 a1] 2 := ⟨_, rfl⟩
  have K1 : Kp σ.objs.length σ σ1 := by rw [h1]; exact Kp.push _ _ (Nat.le_refl _)
  have R1 : σ1.Row σ.objs.length 2 [.int .i64 a0, .int .i64 a1] := by rw [h1]; exact Store.Row.new
  have hp1 : σ1.prot ≤ σ1.objs.length := by rw [K1.prot]; have := K1.len; omega
  have hT1 := Store.Sl.kp hT K1
  obtain ⟨k0, r0⟩ := first13_told σ1
  by_cases c0 : (1000 : Int) < h.len
  · refine ⟨σ1, Runs.intro (fn := Try.f9) (by kernel_rfl) (by kernel_rfl) ⟨k0, fun k hk => ?_⟩⟩
    have r0 := r0 k hk
    simp only at r0
    simp only [f9_eq]
    simp only [Option.bind_some, decide_eq_true_eq, decide_eq_false_iff_not, Bool.not_eq_true', Bool.not_true, Bool.not_false, Bool.false_eq_true, Bool.true_eq_false, Bool.not_eq_eq_eq_not, beq_self_eq_true, beqFT, beqTF, decide_true, decide_false, not_false_eq_true, not_true_eq_false, ne_eq, true_and, and_true, false_and, and_false, and_self, if_true, if_false, ite_true, ite_false, Bool.and_true, Bool.and_false, Bool.true_and, Bool.false_and, Bool.or_true, Bool.true_or, Bool.or_false, Bool.false_or, or_true, true_or, or_false, false_or, or_self, AV.asInt, AV.asBool, AV.asSl, AV.asPtr, AV.asFn, AV.asStr, AV.asMap, AV.asIfc, AV.item, List.length_cons, List.length_nil, List.getElem?_cons_zero, List.getElem?_cons_succ, Nat.zero_add, ← h1, r0, c0]
  have ln : l.length ≤ 1000 := by omega
  obtain ⟨k1, r1⟩ := right13_run (al := 300) hT1 (by omega)
  cases hok : okW l 300 with
  | false =>
    rw [hok] at r1
    refine ⟨σ1, Runs.intro (fn := Try.f9) (by kernel_rfl) (by kernel_rfl) ⟨k0 + k1, fun k hk => ?_⟩⟩
    have r0 := r0 k (by omega)
    have r1 := r1 k (by omega)
    simp only at r0 r1
    simp only [f9_eq]
    simp only [Option.bind_some, decide_eq_true_eq, decide_eq_false_iff_not, Bool.not_eq_true', Bool.not_true, Bool.not_false, Bool.false_eq_true, Bool.true_eq_false, Bool.not_eq_eq_eq_not, beq_self_eq_true, beqFT, beqTF, decide_true, decide_false, not_false_eq_true, not_true_eq_false, ne_eq, true_and, and_true, false_and, and_false, and_self, if_true, if_false, ite_true, ite_false, Bool.and_true, Bool.and_false, Bool.true_and, Bool.false_and, Bool.or_true, Bool.true_or, Bool.or_false, Bool.false_or, or_true, true_or, or_false, false_or, or_self, AV.asInt, AV.asBool, AV.asSl, AV.asPtr, AV.asFn, AV.asStr, AV.asMap, AV.asIfc, AV.item, List.length_cons, List.length_nil, List.getElem?_cons_zero, List.getElem?_cons_succ, Nat.zero_add, ← h1, r0, c0, r1]
  | true =>
  rw [hok] at r1
  obtain ⟨p, w, σ2, ⟨k2, r2⟩, K2, M, W, pn⟩ := made_run (most := 300) hT1 hp1 hok
  have hp2 : σ2.prot ≤ σ2.objs.length := by rw [K2.prot]; have := K2.len; omega
  have R2 := R1.kp K2 R1.lt
  have e0 := row_int R2 (o := 0) rfl
  have e1 := row_int R2 (o := 1) rfl
  have hT2 : σ2.Ints h l := Store.Sl.kp hT1 K2
  obtain ⟨r, σ3, ⟨k3, r3⟩, K3, S1, S2⟩ := matSelect_run M hp2 c a1
  obtain ⟨v, hv⟩ : ∃ v : Int, v = if 0 ≤ a0 ∧ a0 < l.length then rd l a0 else -1 := ⟨_, rfl⟩
  obtain ⟨q, e, rfl⟩ := EvI.up (f := fun k s => stepF Try.prog (gm Try.prog k) drawn k Try.f9 [1, 1, 1, 1, 1, 1, 1, 1, 0, 1, 0] [49, 48, 47, 13, 12, 11, 10, 9, 7, 1, 0] s) l.length
    (fun i st => ∃ s : Int, st = ([.int .i64 i, .int .i64 l.length, .slice h, .int .i64 (Bs.cnt (fun x => decide (x = c)) (l.take i) : Nat), .int .i64 s, .int .i64 v, .int .i64 a1, .int .i64 a0, .ptr p, .int .i64 c, .slice h], σ2) ∧
      (∀ P : Nat, P < i → rd l P = c → a1 = (Bs.cnt (fun x => decide (x = c)) (l.take P) : Nat) → s = P) ∧ ((∀ P : Nat, P < i → rd l P = c → a1 ≠ (Bs.cnt (fun x => decide (x = c)) (l.take P) : Nat)) → s = -1))
    (fun q => q = (AX.exit 0, [(12, .int .i64 r), (11, .int .i64 v), (10, .int .i64 a1), (9, .int .i64 a0), (7, .ptr p), (1, .int .i64 c), (0, .slice h)], σ2))
    (by
      rintro i st hi ⟨s, rfl, I1, I2⟩
      have i0 : (0 : Int) ≤ i := by omega
      have i1 : (i : Int) < l.length := by omega
      have w1 := wsucc hi (by omega)
      have rx := hT2.rd i0 i1
      have s1 := cnt_take_succ (fun x => decide (x = c)) hi
      have cl := cnt_le (fun x => decide (x = c)) (l.take i)
      rw [List.length_take] at cl
      by_cases c1 : rd l i = c
      · rw [if_pos (by simpa using c1)] at s1
        have w2 : IntKind.wrap .i64 ((Bs.cnt (fun x => decide (x = c)) (l.take i) : Nat) + 1) = (Bs.cnt (fun x => decide (x = c)) (l.take i) + 1 : Nat) := by rw [wrap64 (by omega) (by omega)]; omega
        by_cases c2 : ((Bs.cnt (fun x => decide (x = c)) (l.take i) : Nat) : Int) = a1
        · refine ⟨_, Ev.of fun k => ?_, (i : Int), rfl, fun P hP hPc hPa => ?_, fun hno => absurd c2.symm (hno i (Nat.lt_succ_self i) c1)⟩
          · simp only [f9_L11111111010]
            simp only [Option.bind_some, decide_eq_true_eq, decide_eq_false_iff_not, Bool.not_eq_true', Bool.not_true, Bool.not_false, Bool.false_eq_true, Bool.true_eq_false, Bool.not_eq_eq_eq_not, beq_self_eq_true, beqFT, beqTF, decide_true, decide_false, not_false_eq_true, not_true_eq_false, ne_eq, true_and, and_true, false_and, and_false, and_self, if_true, if_false, ite_true, ite_false, Bool.and_true, Bool.and_false, Bool.true_and, Bool.false_and, Bool.or_true, Bool.true_or, Bool.or_false, Bool.false_or, or_true, true_or, or_false, false_or, or_self, AV.asInt, AV.asBool, AV.asSl, AV.asPtr, AV.asFn, AV.asStr, AV.asMap, AV.asIfc, AV.item, List.length_cons, List.length_nil, List.getElem?_cons_zero, List.getElem?_cons_succ, Nat.zero_add, ll, i0, i1, rx, c1, c2, w2, s1, w1]
            rw [← c2, w2]
          · have := kth_uniq (p := fun x => decide (x = c)) (l := l) (P := P) (Q := i) (by omega) hi (by simpa using hPc) (by simpa using c1) (by omega)
            omega
        · refine ⟨_, Ev.of fun k => ?_, s, rfl, fun P hP hPc hPa => ?_, fun hno => I2 fun P hP hPc => hno P (by omega) hPc⟩
          · simp only [f9_L11111111010]
            simp only [Option.bind_some, decide_eq_true_eq, decide_eq_false_iff_not, Bool.not_eq_true', Bool.not_true, Bool.not_false, Bool.false_eq_true, Bool.true_eq_false, Bool.not_eq_eq_eq_not, beq_self_eq_true, beqFT, beqTF, decide_true, decide_false, not_false_eq_true, not_true_eq_false, ne_eq, true_and, and_true, false_and, and_false, and_self, if_true, if_false, ite_true, ite_false, Bool.and_true, Bool.and_false, Bool.true_and, Bool.false_and, Bool.or_true, Bool.true_or, Bool.or_false, Bool.false_or, or_true, true_or, or_false, false_or, or_self, AV.asInt, AV.asBool, AV.asSl, AV.asPtr, AV.asFn, AV.asStr, AV.asMap, AV.asIfc, AV.item, List.length_cons, List.length_nil, List.getElem?_cons_zero, List.getElem?_cons_succ, Nat.zero_add, ll, i0, i1, rx, c1, c2, w2, s1, w1]
          · by_cases e : P = i
            · subst e; exact absurd hPa.symm c2
            · exact I1 P (by omega) hPc hPa
      · rw [if_neg (by simpa using c1)] at s1
        refine ⟨_, Ev.of fun k => ?_, s, rfl, fun P hP hPc hPa => ?_, fun hno => I2 fun P hP hPc => hno P (by omega) hPc⟩
        · simp only [f9_L11111111010]
          simp only [Option.bind_some, decide_eq_true_eq, decide_eq_false_iff_not, Bool.not_eq_true', Bool.not_true, Bool.not_false, Bool.false_eq_true, Bool.true_eq_false, Bool.not_eq_eq_eq_not, beq_self_eq_true, beqFT, beqTF, decide_true, decide_false, not_false_eq_true, not_true_eq_false, ne_eq, true_and, and_true, false_and, and_false, and_self, if_true, if_false, ite_true, ite_false, Bool.and_true, Bool.and_false, Bool.true_and, Bool.false_and, Bool.or_true, Bool.true_or, Bool.or_false, Bool.false_or, or_true, true_or, or_false, false_or, or_self, AV.asInt, AV.asBool, AV.asSl, AV.asPtr, AV.asFn, AV.asStr, AV.asMap, AV.asIfc, AV.item, List.length_cons, List.length_nil, List.getElem?_cons_zero, List.getElem?_cons_succ, Nat.zero_add, ll, i0, i1, rx, c1, s1, w1, Nat.add_zero]
        · by_cases e : P = i
          · subst e; exact absurd hPc c1
          · exact I1 P (by omega) hPc hPa)
    (by
      rintro st ⟨s, rfl, I1, I2⟩
      have er : s = r := by
        by_cases ex : ∃ P : Nat, P < l.length ∧ rd l P = c ∧ a1 = (Bs.cnt (fun x => decide (x = c)) (l.take P) : Nat)
        · obtain ⟨P, h1, h2, h3⟩ := ex
          rw [I1 P h1 h2 h3, S1 P h1 h2 h3]
        · rw [I2 fun P h1 h2 h3 => ex ⟨P, h1, h2, h3⟩, S2]
          rintro ⟨g1, g2⟩
          obtain ⟨P, h1, h2, h3⟩ := exists_kth (fun x => decide (x = c)) l a1.toNat (by omega)
          exact ex ⟨P, h1, by simpa using h2, by omega⟩
      subst er
      exact ⟨_, Ev.of fun k => by simp only [f9_L11111111010]; simp only [Option.bind_some, decide_eq_true_eq, decide_eq_false_iff_not, Bool.not_eq_true', Bool.not_true, Bool.not_false, Bool.false_eq_true, Bool.true_eq_false, Bool.not_eq_eq_eq_not, beq_self_eq_true, beqFT, beqTF, decide_true, decide_false, not_false_eq_true, not_true_eq_false, ne_eq, true_and, and_true, false_and, and_false, and_self, if_true, if_false, ite_true, ite_false, Bool.and_true, Bool.and_false, Bool.true_and, Bool.false_and, Bool.or_true, Bool.true_or, Bool.or_false, Bool.false_or, or_true, true_or, or_false, false_or, or_self, AV.asInt, AV.asBool, AV.asSl, AV.asPtr, AV.asFn, AV.asStr, AV.asMap, AV.asIfc, AV.item, List.length_cons, List.length_nil, List.getElem?_cons_zero, List.getElem?_cons_succ, Nat.zero_add, Int.lt_irrefl], rfl⟩)
    (s := ([.int .i64 0, .int .i64 l.length, .slice h, .int .i64 0, .int .i64 (-1), .int .i64 v, .int .i64 a1, .int .i64 a0, .ptr p, .int .i64 c, .slice h], σ2))
    ⟨-1, by simp [Bs.cnt], fun P hP => by omega, fun _ => rfl⟩
  obtain ⟨n3, e⟩ := loopF_ev e
  obtain ⟨n4, q4⟩ := matAt_run M a0
  rw [← hv] at q4
  obtain ⟨n5, q5⟩ := matRank_run M c a0
  obtain ⟨n6, q6⟩ := count12_run hT2 (by omega) c a0
  refine ⟨σ3, Runs.intro (fn := Try.f9) (by kernel_rfl) (by kernel_rfl) ⟨k0 + k1 + k2 + k3 + n3 + n4 + n5 + n6, fun k hk => ?_⟩⟩
  have r0 := r0 k (by omega)
  have r1 := r1 k (by omega)
  have r2 := r2 k (by omega)
  have r3 := r3 k (by omega)
  have e := e k (by omega)
  have q4 := q4 k (by omega)
  have q5 := q5 k (by omega)
  have q6 := q6 k (by omega)
  simp only at r0 r1 r2 r3 e q4 q5 q6
  rw [ll] at c0
  simp only [f9_eq]
  have fin : Option.bind (contF Try.prog (gm Try.prog k) drawn k Try.f9 [1, 1, 1, 1, 1, 1, 1, 1, 0, 1, 0] (AX.exit 0, [(12, .int .i64 r), (11, .int .i64 v), (10, .int .i64 a1), (9, .int .i64 a0), (7, .ptr p), (1, .int .i64 c), (0, .slice h)], σ2)) some = some (.bool true, σ3) := by
    rw [f9_X11111111010_1]
    simp only [Option.bind_some, decide_eq_true_eq, decide_eq_false_iff_not, Bool.not_eq_true', Bool.not_true, Bool.not_false, Bool.false_eq_true, Bool.true_eq_false, Bool.not_eq_eq_eq_not, beq_self_eq_true, beqFT, beqTF, decide_true, decide_false, not_false_eq_true, not_true_eq_false, ne_eq, true_and, and_true, false_and, and_false, and_self, if_true, if_false, ite_true, ite_false, Bool.and_true, Bool.and_false, Bool.true_and, Bool.false_and, Bool.or_true, Bool.true_or, Bool.or_false, Bool.false_or, or_true, true_or, or_false, false_or, or_self, AV.asInt, AV.asBool, AV.asSl, AV.asPtr, AV.asFn, AV.asStr, AV.asMap, AV.asIfc, AV.item, List.length_cons, List.length_nil, List.getElem?_cons_zero, List.getElem?_cons_succ, Nat.zero_add, q4, q5, q6, r3]
  rw [Option.bind_fun_some] at fin
  by_cases c1 : 0 ≤ a0
  · by_cases c2 : a0 < l.length
    · have rx := hT2.rd c1 c2
      rw [if_pos ⟨c1, c2⟩] at hv
      simp only [Option.bind_some, decide_eq_true_eq, decide_eq_false_iff_not, Bool.not_eq_true', Bool.not_true, Bool.not_false, Bool.false_eq_true, Bool.true_eq_false, Bool.not_eq_eq_eq_not, beq_self_eq_true, beqFT, beqTF, decide_true, decide_false, not_false_eq_true, not_true_eq_false, ne_eq, true_and, and_true, false_and, and_false, and_self, if_true, if_false, ite_true, ite_false, Bool.and_true, Bool.and_false, Bool.true_and, Bool.false_and, Bool.or_true, Bool.true_or, Bool.or_false, Bool.false_or, or_true, true_or, or_false, false_or, or_self, AV.asInt, AV.asBool, AV.asSl, AV.asPtr, AV.asFn, AV.asStr, AV.asMap, AV.asIfc, AV.item, List.length_cons, List.length_nil, List.getElem?_cons_zero, List.getElem?_cons_succ, Nat.zero_add, ← h1, r0, ll, c0, r1, r2, e0, e1, c1, c2, rx, ← hv, e, fin]
    · rw [if_neg (fun h => c2 h.2)] at hv
      subst hv
      simp only [Option.bind_some, decide_eq_true_eq, decide_eq_false_iff_not, Bool.not_eq_true', Bool.not_true, Bool.not_false, Bool.false_eq_true, Bool.true_eq_false, Bool.not_eq_eq_eq_not, beq_self_eq_true, beqFT, beqTF, decide_true, decide_false, not_false_eq_true, not_true_eq_false, ne_eq, true_and, and_true, false_and, and_false, and_self, if_true, if_false, ite_true, ite_false, Bool.and_true, Bool.and_false, Bool.true_and, Bool.false_and, Bool.or_true, Bool.true_or, Bool.or_false, Bool.false_or, or_true, true_or, or_false, false_or, or_self, AV.asInt, AV.asBool, AV.asSl, AV.asPtr, AV.asFn, AV.asStr, AV.asMap, AV.asIfc, AV.item, List.length_cons, List.length_nil, List.getElem?_cons_zero, List.getElem?_cons_succ, Nat.zero_add, ← h1, r0, ll, c0, r1, r2, e0, e1, c1, c2, e, fin]
  · rw [if_neg (fun h => c1 h.1)] at hv
    subst hv
    simp only [Option.bind_some, decide_eq_true_eq, decide_eq_false_iff_not, Bool.not_eq_true', Bool.not_true, Bool.not_false, Bool.false_eq_true, Bool.true_eq_false, Bool.not_eq_eq_eq_not, beq_self_eq_true, beqFT, beqTF, decide_true, decide_false, not_false_eq_true, not_true_eq_false, ne_eq, true_and, and_true, false_and, and_false, and_self, if_true, if_false, ite_true, ite_false, Bool.and_true, Bool.and_false, Bool.true_and, Bool.false_and, Bool.or_true, Bool.true_or, Bool.or_false, Bool.false_or, or_true, true_or, or_false, false_or, or_self, AV.asInt, AV.asBool, AV.asSl, AV.asPtr, AV.asFn, AV.asStr, AV.asMap, AV.asIfc, AV.item, List.length_cons, List.length_nil, List.getElem?_cons_zero, List.getElem?_cons_succ, Nat.zero_add, ← h1, r0, ll, c0, r1, r2, e0, e1, c1, e, fin]
end Go.Ab

/- The law WaveAdds. -/
namespace Go.Ab
open Go Go.Proofs Go.Ab.Wd Go.Ab.Bs Go.Ab.Sai
set_option linter.unusedVariables false
set_option linter.unusedSimpArgs false
theorem dis_one (s : List Int) (v : Nat) : dis s v 1 = if 0 < Bs.cnt (fun x => decide (x = (v : Int))) s then [((v : Int), ((Bs.cnt (fun x => decide (x = (v : Int))) s : Nat) : Int))] else [] := by
  unfold dis
  rw [List.range'_one]
  split
  · rename_i h; rw [List.filter_cons_of_pos (by simpa using h)]; rfl
  · rename_i h; rw [List.filter_cons_of_neg (by simpa using h)]; rfl
def sum2 (L : List (Int × Int)) : Int := (L.map (·.2)).sum
theorem sum2_append (a b : List (Int × Int)) : sum2 (a ++ b) = sum2 a + sum2 b := by simp [sum2]
theorem dis_sum (s : List Int) (lo : Nat) : ∀ n, sum2 (dis s lo n) = (Bs.cnt (fun x => decide ((lo : Int) ≤ x ∧ x < lo + n)) s : Nat)
  | 0 => by
    have : Bs.cnt (fun x => decide ((lo : Int) ≤ x ∧ x < lo + (0 : Nat))) s = 0 := by
      unfold Bs.cnt; rw [List.filter_eq_nil_iff.2]
      · rfl
      · intro x _; simp <;> omega
    rw [this]; simp [dis, sum2]
  | n + 1 => by
    rw [dis_split, sum2_append, dis_sum s lo n, dis_one]
    have := cnt_or (p := fun x => decide ((lo : Int) ≤ x ∧ x < lo + n)) (q := fun x => decide (x = ((lo + n : Nat) : Int))) s (fun x _ => by simp; omega)
    have e : Bs.cnt (fun x => decide ((lo : Int) ≤ x ∧ x < lo + n) || decide (x = ((lo + n : Nat) : Int))) s = Bs.cnt (fun x => decide ((lo : Int) ≤ x ∧ x < lo + (n + 1 : Nat))) s := cnt_congr fun x _ => by
      rw [Bool.eq_iff_iff]; simp; omega
    rw [e] at this
    rw [this]
    split
    · simp [sum2]
    · rw [show sum2 ([] : List (Int × Int)) = 0 from rfl]; omega
theorem dis_get {s : List Int} {lo n i : Nat} {u v : Int} (h : (dis s lo n)[i]? = some (u, v)) : 0 ≤ u ∧ v = (Bs.cnt (fun x => decide (x = u)) s : Nat) := by
  unfold dis at h
  rw [List.getElem?_map] at h
  cases hh : ((List.range' lo n).filter fun v : Nat => decide (0 < Bs.cnt (fun x => decide (x = (v : Int))) s))[i]? with
  | none => rw [hh] at h; cases h
  | some z => rw [hh] at h; injection h with h; injection h with h1 h2; subst h1 h2; exact ⟨by omega, rfl⟩
theorem sum2_le {s : List Int} {L : List (Int × Int)} (h : ∀ q ∈ L, 0 ≤ q.2) : ∀ i, 0 ≤ sum2 (L.take i) ∧ sum2 (L.take i) ≤ sum2 L := by
  have nn : ∀ {M : List (Int × Int)}, (∀ q ∈ M, 0 ≤ q.2) → 0 ≤ sum2 M := fun {M} hM => by
    induction M with
    | nil => simp [sum2]
    | cons x M ih =>
      have := ih (fun q hq => hM q (by simp [hq]))
      have := hM x (by simp)
      simp [sum2] at *; omega
  intro i
  have e : sum2 L = sum2 (L.take i) + sum2 (L.drop i) := by rw [← sum2_append, List.take_append_drop]
  have h1 := nn (M := L.take i) (fun q hq => h q (List.mem_of_mem_take hq))
  have h2 := nn (M := L.drop i) (fun q hq => h q (List.mem_of_mem_drop hq))
  omega
theorem sum2_succ {L : List (Int × Int)} {i : Nat} {u v : Int} (h : L[i]? = some (u, v)) : sum2 (L.take (i + 1)) = sum2 (L.take i) + v := by
  rw [List.take_add_one, h, sum2_append]; simp [sum2]
theorem umod {a : Int} {n : Nat} (hn : n < 2 ^ 40) : IntKind.wrap .u64 (IntKind.wrap .i64 ((n : Int) + 1)) = (n : Int) + 1 ∧ ∃ k : Nat, IntKind.wrap .i64 (Int.tmod (IntKind.wrap .u64 a) ((n : Int) + 1)) = (k : Int) ∧ k ≤ n := by
  have wu : ∀ x : Int, IntKind.wrap .u64 x = x % 18446744073709551616 := fun x => by
    unfold IntKind.wrap
    have e2 : (2 : Int) ^ IntKind.u64.bits = 18446744073709551616 := by decide
    simp [e2, IntKind.signed]
  refine ⟨by rw [wrap64 (by omega) (by omega), wu]; omega, ?_⟩
  rw [wu, Int.tmod_eq_emod_of_nonneg (by omega)]
  have h1 := Int.emod_nonneg (a % 18446744073709551616) (show ((n : Int) + 1) ≠ 0 by omega)
  have h2 := Int.emod_lt_of_pos (a % 18446744073709551616) (show 0 < ((n : Int) + 1) by omega)
  exact ⟨(a % 18446744073709551616 % ((n : Int) + 1)).toNat, by rw [wrap64 (by omega) (by omega)]; omega, by omega⟩
theorem law_WaveAdds {σ : Store} {h : Hdl} {l : List Int} {a0 a1 a2 c : Int} (hT : σ.Ints h l) (hH : σ.Has h) (hn : l.length < 2 ^ 44) (hw : ∀ n ∈ l, IntKind.min .i64 ≤ n ∧ n ≤ IntKind.max .i64)
    (ha0 : IntKind.min .i64 ≤ a0 ∧ a0 ≤ IntKind.max .i64) (ha1 : IntKind.min .i64 ≤ a1 ∧ a1 ≤ IntKind.max .i64) (ha2 : IntKind.min .i64 ≤ a2 ∧ a2 ≤ IntKind.max .i64) (hc : IntKind.min .i64 ≤ c ∧ c ≤ IntKind.max .i64) (hp : σ.prot ≤ σ.objs.length) :
    ∃ σ', Runs Try.prog 13 [.slice h, .agg [.int .i64 a0, .int .i64 a1, .int .i64 a2], .int .i64 c] σ (.bool true) σ' := by
  have ll := hT.ilen
  obtain ⟨σ1, h1⟩ : ∃ s, s = σ.push [.int .i64 a0, .int .i64 a1, .int .i64 a2] 3 := ⟨_, rfl⟩
  have K1 : Kp σ.objs.length σ σ1 := by rw [h1]; exact Kp.push _ _ (Nat.le_refl _)
  have R1 : σ1.Row σ.objs.length 3 [.int .i64 a0, .int .i64 a1, .int .i64 a2] := by rw [h1]; exact Store.Row.new
  have hp1 : σ1.prot ≤ σ1.objs.length := by rw [K1.prot]; have := K1.len; omega
  have hT1 := Store.Sl.kp hT K1
  obtain ⟨k0, r0⟩ := first13_told σ1
  by_cases c0 : (300 : Int) < h.len
  · refine ⟨σ1, Runs.intro (fn := Try.f13) (by kernel_rfl) (by kernel_rfl) ⟨k0, fun k hk => ?_⟩⟩
    have r0 := r0 k hk
    simp only at r0
    simp only [f13_eq]
    simp only [Option.bind_some, decide_eq_true_eq, decide_eq_false_iff_not, Bool.not_eq_true', Bool.not_true, Bool.not_false, Bool.false_eq_true, Bool.true_eq_false, Bool.not_eq_eq_eq_not, beq_self_eq_true, beqFT, beqTF, decide_true, decide_false, not_false_eq_true, not_true_eq_false, ne_eq, true_and, and_true, false_and, and_false, and_self, if_true, if_false, ite_true, ite_false, Bool.and_true, Bool.and_false, Bool.true_and, Bool.false_and, Bool.or_true, Bool.true_or, Bool.or_false, Bool.false_or, or_true, true_or, or_false, false_or, or_self, AV.asInt, AV.asBool, AV.asSl, AV.asPtr, AV.asFn, AV.asStr, AV.asMap, AV.asIfc, AV.item, List.length_cons, List.length_nil, List.getElem?_cons_zero, List.getElem?_cons_succ, Nat.zero_add, ← h1, r0, c0]
  have ln : l.length ≤ 300 := by omega
  obtain ⟨k1, r1⟩ := right13_run (al := 300) hT1 (by omega)
  cases hok : okW l 300 with
  | false =>
    rw [hok] at r1
    refine ⟨σ1, Runs.intro (fn := Try.f13) (by kernel_rfl) (by kernel_rfl) ⟨k0 + k1, fun k hk => ?_⟩⟩
    have r0 := r0 k (by omega)
    have r1 := r1 k (by omega)
    simp only at r0 r1
    simp only [f13_eq]
    simp only [Option.bind_some, decide_eq_true_eq, decide_eq_false_iff_not, Bool.not_eq_true', Bool.not_true, Bool.not_false, Bool.false_eq_true, Bool.true_eq_false, Bool.not_eq_eq_eq_not, beq_self_eq_true, beqFT, beqTF, decide_true, decide_false, not_false_eq_true, not_true_eq_false, ne_eq, true_and, and_true, false_and, and_false, and_self, if_true, if_false, ite_true, ite_false, Bool.and_true, Bool.and_false, Bool.true_and, Bool.false_and, Bool.or_true, Bool.true_or, Bool.or_false, Bool.false_or, or_true, true_or, or_false, false_or, or_self, AV.asInt, AV.asBool, AV.asSl, AV.asPtr, AV.asFn, AV.asStr, AV.asMap, AV.asIfc, AV.item, List.length_cons, List.length_nil, List.getElem?_cons_zero, List.getElem?_cons_succ, Nat.zero_add, ← h1, r0, c0, r1]
  | true =>
  rw [hok] at r1
  obtain ⟨p, w, σ2, ⟨k2, r2⟩, K2, M, W, pn⟩ := made_run (most := 300) hT1 hp1 hok
  have hp2 : σ2.prot ≤ σ2.objs.length := by rw [K2.prot]; have := K2.len; omega
  have R2 := R1.kp K2 R1.lt
  have e0 := row_int R2 (o := 0) rfl
  have e1 := row_int R2 (o := 1) rfl
  have e2 := row_int R2 (o := 2) rfl
  obtain ⟨un, x', ex, hx'⟩ := umod (a := a0) (n := l.length) (by omega)
  obtain ⟨_, y', ey, hy'⟩ := umod (a := a1) (n := l.length) (by omega)
  obtain ⟨_, z', ez, hz'⟩ := umod (a := a2) (n := l.length) (by omega)
  obtain ⟨x, hx⟩ : ∃ x, x = min x' z' := ⟨_, rfl⟩
  obtain ⟨z, hz⟩ : ∃ z, z = max x' z' := ⟨_, rfl⟩
  obtain ⟨y, hy⟩ : ∃ y, y = max x (min y' z) := ⟨_, rfl⟩
  have mx : mn2 (x' : Int) z' = (x : Int) := by rw [mn2_eq]; omega
  have mz : mx2 (x' : Int) z' = (z : Int) := by rw [mx2_eq]; omega
  have my : mx2 (x : Int) (mn2 (y' : Int) z) = (y : Int) := by rw [mx2_eq, mn2_eq]; omega
  have u0 : ¬ (l.length : Int) + 1 = 0 := by omega
  obtain ⟨s, hs⟩ : ∃ s, s = seg l x z := ⟨_, rfl⟩
  have sl : s.length = z - x := by rw [hs, (seg_self (by omega) (by omega)).1]; simp; omega
  have tk : l.take z = l.take x ++ s := by rw [hs]; exact take_seg (by omega) (by omega)
  have s0 : ∀ q ∈ s, 0 ≤ q ∧ q < 2 ^ w := fun q hq => M.rng q (seg_mem (hs ▸ hq))
  obtain ⟨hd, σ3, ⟨k3, r3⟩, K3, G3⟩ := matDistinct_run M hp2 x z
  rw [← hs] at G3
  obtain ⟨L, hL⟩ : ∃ L, L = dis s 0 (2 ^ w) := ⟨_, rfl⟩
  rw [← hL] at G3
  have hp3 : σ3.prot ≤ σ3.objs.length := by rw [K3.prot]; have := K3.len; omega
  have M3 := M.kp K3
  have hld := pairs_len G3.sl
  have sumL : sum2 L = s.length := by
    rw [hL, dis_sum]
    unfold Bs.cnt
    rw [List.filter_eq_self.2]
    intro q hq
    have := s0 q hq
    have e : ((2 : Int) ^ w) = ((2 ^ w : Nat) : Int) := by simp
    simp; omega
  have Lnn : ∀ q ∈ L, 0 ≤ q.2 := fun q hq => by
    obtain ⟨i, hi, e⟩ := List.mem_iff_getElem.1 hq
    have := dis_get (s := s) (lo := 0) (n := 2 ^ w) (i := i) (u := q.1) (v := q.2) (by rw [← hL, List.getElem?_eq_getElem hi, e])
    omega
  have lL : L.length ≤ 2 ^ w := by rw [hL]; exact dis_length _ _ _
  have p24 : 2 ^ w ≤ 2 ^ 24 := Nat.pow_le_pow_right (by omega) M.wid.2
  obtain ⟨r, e, σ4, rfl, K4⟩ := EvI.up (f := fun k s => stepF Try.prog (gm Try.prog k) drawn k Try.f13 [1, 1, 1, 1, 1, 1, 1, 1, 1, 0, 1, 0] [69, 68, 67, 13, 12, 11, 10, 7, 2] s) L.length
    (fun i st => ∃ s1, st = ([.int .i64 i, .int .i64 L.length, .slice hd, .int .i64 (sum2 (L.take i)), .int .i64 z, .int .i64 y, .int .i64 x, .ptr p, .int .i64 c], s1) ∧ Kp σ3.objs.length σ3 s1)
    (fun r => ∃ s1, r = (AX.exit 0, [(13, .int .i64 (sum2 L)), (12, .int .i64 z), (11, .int .i64 y), (10, .int .i64 x), (7, .ptr p), (2, .int .i64 c)], s1) ∧ Kp σ3.objs.length σ3 s1)
    (by
      rintro i st hi ⟨s1, rfl, kk⟩
      have i0 : (0 : Int) ≤ i := by omega
      have i1 : (i : Int) < L.length := by omega
      have i2 : (i : Int) < hd.len := by omega
      have w1 := wsucc hi (by omega)
      obtain ⟨⟨u, v⟩, huv⟩ : ∃ q, L[i]? = some q := ⟨_, List.getElem?_eq_getElem hi⟩
      obtain ⟨g0, g1⟩ := pairs_rd (G3.sl.kp kk) huv
      rw [hL] at huv
      obtain ⟨v0, v1⟩ := dis_get huv
      rw [← hL] at huv
      have hps : s1.prot ≤ s1.objs.length := by rw [kk.prot]; have := kk.len; omega
      obtain ⟨s2, t2, k2, R2⟩ := take2 (σ := s1) (u := u) (v := v) hps
      have f0 := row_int R2 (o := 0) rfl
      have f1 := row_int R2 (o := 1) rfl
      have M2 : Mat s2 p l w := (M3.kp kk).kp k2
      obtain ⟨n3, q3⟩ := matRank_run (M2.quiet s2.objs.length) u z
      obtain ⟨n4, q4⟩ := matRank_run (M2.quiet s2.objs.length) u x
      rw [Int.toNat_natCast] at q3 q4
      have ec : Bs.cnt (fun q => decide (q = u)) (l.take z) = Bs.cnt (fun q => decide (q = u)) (l.take x) + Bs.cnt (fun q => decide (q = u)) s := by rw [tk, cnt_append]
      have cl := cnt_le (fun q => decide (q = u)) (l.take z)
      rw [List.length_take] at cl
      have w2 : IntKind.wrap .i64 ((Bs.cnt (fun q => decide (q = u)) (l.take z) : Nat) - (Bs.cnt (fun q => decide (q = u)) (l.take x) : Nat)) = v := by rw [wrap64 (by omega) (by omega)]; omega
      have sm := sum2_succ huv
      obtain ⟨b1, b2⟩ := sum2_le (s := s) Lnn (i + 1)
      have w3 : IntKind.wrap .i64 (sum2 (L.take i) + v) = sum2 (L.take (i + 1)) := by rw [sm, wrap64 (by omega) (by omega)]
      refine ⟨_, ⟨n3 + n4, fun k hk => ?_⟩, s2, rfl, kk.trans (k2.mono kk.len)⟩
      have q3 := q3 k (by omega)
      have q4 := q4 k (by omega)
      simp only at q3 q4
      have q3 := callG_same q3
      have q4 := callG_same q4
      simp only [f13_L111111111010]
      simp only [Option.bind_some, decide_eq_true_eq, decide_eq_false_iff_not, Bool.not_eq_true', Bool.not_true, Bool.not_false, Bool.false_eq_true, Bool.true_eq_false, Bool.not_eq_eq_eq_not, beq_self_eq_true, beqFT, beqTF, decide_true, decide_false, not_false_eq_true, not_true_eq_false, ne_eq, true_and, and_true, false_and, and_false, and_self, if_true, if_false, ite_true, ite_false, Bool.and_true, Bool.and_false, Bool.true_and, Bool.false_and, Bool.or_true, Bool.true_or, Bool.or_false, Bool.false_or, or_true, true_or, or_false, false_or, or_self, AV.asInt, AV.asBool, AV.asSl, AV.asPtr, AV.asFn, AV.asStr, AV.asMap, AV.asIfc, AV.item, List.length_cons, List.length_nil, List.getElem?_cons_zero, List.getElem?_cons_succ, Nat.zero_add, i0, i1, i2, g0, g1, t2, f0, f1, q3, q4, w2, w3, w1])
    (by
      rintro st ⟨s1, rfl, kk⟩
      rw [List.take_length]
      exact ⟨(AX.exit 0, [(13, .int .i64 (sum2 L)), (12, .int .i64 z), (11, .int .i64 y), (10, .int .i64 x), (7, .ptr p), (2, .int .i64 c)], s1), Ev.of fun k => by simp only [f13_L111111111010]; simp only [Option.bind_some, decide_eq_true_eq, decide_eq_false_iff_not, Bool.not_eq_true', Bool.not_true, Bool.not_false, Bool.false_eq_true, Bool.true_eq_false, Bool.not_eq_eq_eq_not, beq_self_eq_true, beqFT, beqTF, decide_true, decide_false, not_false_eq_true, not_true_eq_false, ne_eq, true_and, and_true, false_and, and_false, and_self, if_true, if_false, ite_true, ite_false, Bool.and_true, Bool.and_false, Bool.true_and, Bool.false_and, Bool.or_true, Bool.true_or, Bool.or_false, Bool.false_or, or_true, true_or, or_false, false_or, or_self, AV.asInt, AV.asBool, AV.asSl, AV.asPtr, AV.asFn, AV.asStr, AV.asMap, AV.asIfc, AV.item, List.length_cons, List.length_nil, List.getElem?_cons_zero, List.getElem?_cons_succ, Nat.zero_add, Int.lt_irrefl], s1, rfl, kk⟩)
    (s := ([.int .i64 0, .int .i64 L.length, .slice hd, .int .i64 0, .int .i64 z, .int .i64 y, .int .i64 x, .ptr p, .int .i64 c], σ3)) ⟨σ3, rfl, Kp.refl _ _⟩
  obtain ⟨n3, e⟩ := loopF_ev e
  have M4 := M3.kp K4
  obtain ⟨n5, q5⟩ := below_run M4 x z c
  obtain ⟨n6, q6⟩ := below_run M4 x y c
  obtain ⟨n7, q7⟩ := below_run M4 y z c
  have sx : seg l x z = seg l x y ++ seg l y z := by
    rw [(seg_self (l := l) (a := x) (b := z) (by omega) (by omega)).1, (seg_self (l := l) (a := x) (b := y) (by omega) (by omega)).1, (seg_self (l := l) (a := y) (b := z) (by omega) (by omega)).1]
    rw [show l.take y = (l.take z).take y by rw [List.take_take, Nat.min_eq_left (by omega)]]
    generalize l.take z = t
    rw [List.drop_take]
    conv => lhs; rw [← List.take_append_drop (y - x) (t.drop x)]
    rw [List.drop_drop, show x + (y - x) = y by omega]
  have ca : Bs.cnt (fun q => decide (q < c)) (seg l x z) = Bs.cnt (fun q => decide (q < c)) (seg l x y) + Bs.cnt (fun q => decide (q < c)) (seg l y z) := by rw [sx, cnt_append]
  have cl := cnt_le (fun q => decide (q < c)) (seg l x z)
  rw [← hs, sl] at cl
  rw [← hs] at ca
  have w2 : IntKind.wrap .i64 ((Bs.cnt (fun q => decide (q < c)) (seg l x y) : Nat) + (Bs.cnt (fun q => decide (q < c)) (seg l y z) : Nat)) = (Bs.cnt (fun q => decide (q < c)) s : Nat) := by rw [wrap64 (by omega) (by omega)]; omega
  rw [← hs] at q5
  have w3 : IntKind.wrap .i64 ((z : Int) - x) = sum2 L := by rw [sumL, sl, wrap64 (by omega) (by omega)]; omega
  refine ⟨σ4, Runs.intro (fn := Try.f13) (by kernel_rfl) (by kernel_rfl) ⟨k0 + k1 + k2 + k3 + n3 + n5 + n6 + n7, fun k hk => ?_⟩⟩
  have r0 := r0 k (by omega)
  have r1 := r1 k (by omega)
  have r2 := r2 k (by omega)
  have r3 := r3 k (by omega)
  have e := e k (by omega)
  have q5 := q5 k (by omega)
  have q6 := q6 k (by omega)
  have q7 := q7 k (by omega)
  simp only at r0 r1 r2 r3 e q5 q6 q7
  rw [ll] at c0
  simp only [f13_eq]
  simp only [Option.bind_some, decide_eq_true_eq, decide_eq_false_iff_not, Bool.not_eq_true', Bool.not_true, Bool.not_false, Bool.false_eq_true, Bool.true_eq_false, Bool.not_eq_eq_eq_not, beq_self_eq_true, beqFT, beqTF, decide_true, decide_false, not_false_eq_true, not_true_eq_false, ne_eq, true_and, and_true, false_and, and_false, and_self, if_true, if_false, ite_true, ite_false, Bool.and_true, Bool.and_false, Bool.true_and, Bool.false_and, Bool.or_true, Bool.true_or, Bool.or_false, Bool.false_or, or_true, true_or, or_false, false_or, or_self, AV.asInt, AV.asBool, AV.asSl, AV.asPtr, AV.asFn, AV.asStr, AV.asMap, AV.asIfc, AV.item, List.length_cons, List.length_nil, List.getElem?_cons_zero, List.getElem?_cons_succ, Nat.zero_add, ← h1, r0, ll, c0, r1, r2, e0, e1, e2, un, u0, ex, ey, ez, mx, mz, my, r3, hld, e]
  rw [f13_X111111111010_2]
  simp only [Option.bind_some, decide_eq_true_eq, decide_eq_false_iff_not, Bool.not_eq_true', Bool.not_true, Bool.not_false, Bool.false_eq_true, Bool.true_eq_false, Bool.not_eq_eq_eq_not, beq_self_eq_true, beqFT, beqTF, decide_true, decide_false, not_false_eq_true, not_true_eq_false, ne_eq, true_and, and_true, false_and, and_false, and_self, if_true, if_false, ite_true, ite_false, Bool.and_true, Bool.and_false, Bool.true_and, Bool.false_and, Bool.or_true, Bool.true_or, Bool.or_false, Bool.false_or, or_true, true_or, or_false, false_or, or_self, AV.asInt, AV.asBool, AV.asSl, AV.asPtr, AV.asFn, AV.asStr, AV.asMap, AV.asIfc, AV.item, List.length_cons, List.length_nil, List.getElem?_cons_zero, List.getElem?_cons_succ, Nat.zero_add, q5, q6, q7, w2, w3]
end Go.Ab

/- The law WaveWidths. -/
namespace Go.Ab
open Go Go.Proofs Go.Ab.Wd Go.Ab.Bs Go.Ab.Sai
set_option linter.unusedVariables false
set_option linter.unusedSimpArgs false
theorem callG_q {Γ : Gam} {g : Fun} {args : List AV} {v : AV} {σ σ' : Store} (h : Γ g args { σ with prot := σ.objs.length } = some (v, σ')) : callG Γ true g args σ = some (v, { σ' with prot := σ.prot }) := by
  unfold callG; simp only []; rw [h]; rfl
theorem kp_q {σ σ' : Store} {n m : Nat} (k : Kp n { σ with prot := m } σ') : Kp n σ { σ' with prot := σ.prot } := ⟨rfl, k.len, k.keep⟩
theorem same13_run {σ : Store} {h h' : Hdl} {L : List (Int × Int)} (a : σ.Sl h 2 (pairsL L)) (b : σ.Sl h' 2 (pairsL L)) (hn : L.length < 2 ^ 60) : Runs Try.prog 42 [.slice h, .slice h'] σ (.bool true) σ := by
  have la := pairs_len a
  have lb := pairs_len b
  obtain ⟨r, e, rfl⟩ := EvI.up (f := fun k s => stepF Try.prog (gm Try.prog k) drawn k Try.f42 [1, 1, 0, 1, 0] [13, 12, 1, 0] s) L.length
    (fun i s => s = ([.int .i64 i, .int .i64 L.length, .slice h', .slice h], σ)) (fun r => r = (AX.exit 0, [], σ))
    (by
      rintro i s hi rfl
      have i0 : (0 : Int) ≤ i := by omega
      have i1 : (i : Int) < L.length := by omega
      have i2 : (i : Int) < h.len := by omega
      have i3 : (i : Int) < h'.len := by omega
      have w := wsucc hi (by omega)
      obtain ⟨⟨u, v⟩, huv⟩ : ∃ q, L[i]? = some q := ⟨_, List.getElem?_eq_getElem hi⟩
      obtain ⟨g0, g1⟩ := pairs_rd a huv
      obtain ⟨g2, g3⟩ := pairs_rd b huv
      exact ⟨_, Ev.of fun k => by simp only [f42_L11010]; simp only [Option.bind_some, decide_eq_true_eq, decide_eq_false_iff_not, Bool.not_eq_true', Bool.not_true, Bool.not_false, Bool.false_eq_true, Bool.true_eq_false, Bool.not_eq_eq_eq_not, beq_self_eq_true, beqFT, beqTF, decide_true, decide_false, not_false_eq_true, not_true_eq_false, ne_eq, true_and, and_true, false_and, and_false, and_self, if_true, if_false, ite_true, ite_false, Bool.and_true, Bool.and_false, Bool.true_and, Bool.false_and, Bool.or_true, Bool.true_or, Bool.or_false, Bool.false_or, or_true, true_or, or_false, false_or, or_self, AV.asInt, AV.asBool, AV.asSl, AV.asPtr, AV.asFn, AV.asStr, AV.asMap, AV.asIfc, AV.item, List.length_cons, List.length_nil, List.getElem?_cons_zero, List.getElem?_cons_succ, Nat.zero_add, i0, i1, i2, i3, g0, g1, g2, g3, w], rfl⟩)
    (by
      rintro s rfl
      exact ⟨_, Ev.of fun k => by simp only [f42_L11010]; simp only [Option.bind_some, decide_eq_true_eq, decide_eq_false_iff_not, Bool.not_eq_true', Bool.not_true, Bool.not_false, Bool.false_eq_true, Bool.true_eq_false, Bool.not_eq_eq_eq_not, beq_self_eq_true, beqFT, beqTF, decide_true, decide_false, not_false_eq_true, not_true_eq_false, ne_eq, true_and, and_true, false_and, and_false, and_self, if_true, if_false, ite_true, ite_false, Bool.and_true, Bool.and_false, Bool.true_and, Bool.false_and, Bool.or_true, Bool.true_or, Bool.or_false, Bool.false_or, or_true, true_or, or_false, false_or, or_self, AV.asInt, AV.asBool, AV.asSl, AV.asPtr, AV.asFn, AV.asStr, AV.asMap, AV.asIfc, AV.item, List.length_cons, List.length_nil, List.getElem?_cons_zero, List.getElem?_cons_succ, Nat.zero_add, Int.lt_irrefl], rfl⟩)
    (s := ([.int .i64 0, .int .i64 L.length, .slice h', .slice h], σ)) rfl
  refine Runs.intro (fn := Try.f42) (by kernel_rfl) (by kernel_rfl) ?_
  refine (Ev.bind (loopF_ev e) (Ev.of fun k => f42_X11010_2 (gm Try.prog k) k σ)).congr fun k => ?_
  rw [f42_eq]
  have : (h.len : Int) = h'.len := by omega
  have la' : (h'.len : Int) = L.length := by omega
  simp only [Option.bind_some, decide_eq_true_eq, decide_eq_false_iff_not, Bool.not_eq_true', Bool.not_true, Bool.not_false, Bool.false_eq_true, Bool.true_eq_false, Bool.not_eq_eq_eq_not, beq_self_eq_true, beqFT, beqTF, decide_true, decide_false, not_false_eq_true, not_true_eq_false, ne_eq, true_and, and_true, false_and, and_false, and_self, if_true, if_false, ite_true, ite_false, Bool.and_true, Bool.and_false, Bool.true_and, Bool.false_and, Bool.or_true, Bool.true_or, Bool.or_false, Bool.false_or, or_true, true_or, or_false, false_or, or_self, AV.asInt, AV.asBool, AV.asSl, AV.asPtr, AV.asFn, AV.asStr, AV.asMap, AV.asIfc, AV.item, List.length_cons, List.length_nil, List.getElem?_cons_zero, List.getElem?_cons_succ, Nat.zero_add, this, la']
theorem levels_run {σ : Store} {p : Ptr} {l : List Int} {w : Nat} (M : Mat σ p l w) (hp : σ.prot ≤ σ.objs.length) :
    ∃ ho σ' ps, Runs Try.prog 30 [.ptr p] σ (.slice ho) σ' ∧ Kp σ.objs.length σ σ' ∧ Grow σ' σ.objs.length ho 1 (ptrsL ps) ∧ ps.length = w ∧ ∀ j, j < w → ∃ q, ps[j]? = some q ∧ Vec σ q (lev w l j) := by
  obtain ⟨b, hl, ps, rfl, R, S, lp, V⟩ := M.ex
  have e2 := row_sl R (o := 2) rfl
  obtain ⟨ho, σ', ⟨k1, r1⟩, K, G⟩ := cloneP_run S hp (by have := M.wid; omega)
  refine ⟨ho, σ', ps, Runs.intro (fn := Try.f30) (by kernel_rfl) (by kernel_rfl) ⟨k1, fun k hk => ?_⟩, K, G, lp, V⟩
  have r1 := r1 k hk
  simp only at r1
  simp only [f30_eq]
  simp only [Option.bind_some, decide_eq_true_eq, decide_eq_false_iff_not, Bool.not_eq_true', Bool.not_true, Bool.not_false, Bool.false_eq_true, Bool.true_eq_false, Bool.not_eq_eq_eq_not, beq_self_eq_true, beqFT, beqTF, decide_true, decide_false, not_false_eq_true, not_true_eq_false, ne_eq, true_and, and_true, false_and, and_false, and_self, if_true, if_false, ite_true, ite_false, Bool.and_true, Bool.and_false, Bool.true_and, Bool.false_and, Bool.or_true, Bool.true_or, Bool.or_false, Bool.false_or, or_true, true_or, or_false, false_or, or_self, AV.asInt, AV.asBool, AV.asSl, AV.asPtr, AV.asFn, AV.asStr, AV.asMap, AV.asIfc, AV.item, List.length_cons, List.length_nil, List.getElem?_cons_zero, List.getElem?_cons_succ, Nat.zero_add, Option.isNone_some, e2, r1]
theorem quant_uniq {s : List Int} {u v : Int} {k : Int} (h1 : (Bs.cnt (fun x => decide (x < u)) s : Int) ≤ k) (h2 : k < (Bs.cnt (fun x => decide (x < u)) s : Int) + (Bs.cnt (fun x => decide (x = u)) s : Int)) (g1 : (Bs.cnt (fun x => decide (x < v)) s : Int) ≤ k) (g2 : k < (Bs.cnt (fun x => decide (x < v)) s : Int) + (Bs.cnt (fun x => decide (x = v)) s : Int)) : u = v := by
  rcases Int.lt_trichotomy u v with c | c | c
  · have := cnt_lt_le c s; omega
  · exact c
  · have := cnt_lt_le c s; omega
theorem law_WaveWidths {σ : Store} {h : Hdl} {l : List Int} {a0 a1 c : Int} (hT : σ.Ints h l) (hH : σ.Has h) (hn : l.length < 2 ^ 44) (hw : ∀ n ∈ l, IntKind.min .i64 ≤ n ∧ n ≤ IntKind.max .i64)
    (ha0 : IntKind.min .i64 ≤ a0 ∧ a0 ≤ IntKind.max .i64) (ha1 : IntKind.min .i64 ≤ a1 ∧ a1 ≤ IntKind.max .i64) (hc : IntKind.min .i64 ≤ c ∧ c ≤ IntKind.max .i64) (hp : σ.prot ≤ σ.objs.length) :
    ∃ σ', Runs Try.prog 14 [.slice h, .agg [.int .i64 a0, .int .i64 a1], .int .i64 c] σ (.bool true) σ' := by
  have ll := hT.ilen
  obtain ⟨σ1, h1⟩ : ∃ s, s = σ.push [.int .i64 a0, .int .i64 a1] 2 := ⟨_, rfl⟩
  have K1 : Kp σ.objs.length σ σ1 := by rw [h1]; exact Kp.push _ _ (Nat.le_refl _)
  have R1 : σ1.Row σ.objs.length 2 [.int .i64 a0, .int .i64 a1] := by rw [h1]; exact Store.Row.new
  have hp1 : σ1.prot ≤ σ1.objs.length := by rw [K1.prot]; have := K1.len; omega
  have hT1 : σ1.Ints h l := Store.Sl.kp hT K1
  obtain ⟨k0, r0⟩ := first13_told σ1
  by_cases c0 : (200 : Int) < h.len
  · refine ⟨σ1, Runs.intro (fn := Try.f14) (by kernel_rfl) (by kernel_rfl) ⟨k0, fun k hk => ?_⟩⟩
    have r0 := r0 k hk
    simp only at r0
    simp only [f14_eq]
    simp only [Option.bind_some, decide_eq_true_eq, decide_eq_false_iff_not, Bool.not_eq_true', Bool.not_true, Bool.not_false, Bool.false_eq_true, Bool.true_eq_false, Bool.not_eq_eq_eq_not, beq_self_eq_true, beqFT, beqTF, decide_true, decide_false, not_false_eq_true, not_true_eq_false, ne_eq, true_and, and_true, false_and, and_false, and_self, if_true, if_false, ite_true, ite_false, Bool.and_true, Bool.and_false, Bool.true_and, Bool.false_and, Bool.or_true, Bool.true_or, Bool.or_false, Bool.false_or, or_true, true_or, or_false, false_or, or_self, AV.asInt, AV.asBool, AV.asSl, AV.asPtr, AV.asFn, AV.asStr, AV.asMap, AV.asIfc, AV.item, List.length_cons, List.length_nil, List.getElem?_cons_zero, List.getElem?_cons_succ, Nat.zero_add, ← h1, r0, c0]
  have ln : l.length ≤ 200 := by omega
  obtain ⟨k1, r1⟩ := right13_run (al := 20) hT1 (by omega)
  cases hok : okW l 20 with
  | false =>
    rw [hok] at r1
    refine ⟨σ1, Runs.intro (fn := Try.f14) (by kernel_rfl) (by kernel_rfl) ⟨k0 + k1, fun k hk => ?_⟩⟩
    have r0 := r0 k (by omega)
    have r1 := r1 k (by omega)
    simp only at r0 r1
    simp only [f14_eq]
    simp only [Option.bind_some, decide_eq_true_eq, decide_eq_false_iff_not, Bool.not_eq_true', Bool.not_true, Bool.not_false, Bool.false_eq_true, Bool.true_eq_false, Bool.not_eq_eq_eq_not, beq_self_eq_true, beqFT, beqTF, decide_true, decide_false, not_false_eq_true, not_true_eq_false, ne_eq, true_and, and_true, false_and, and_false, and_self, if_true, if_false, ite_true, ite_false, Bool.and_true, Bool.and_false, Bool.true_and, Bool.false_and, Bool.or_true, Bool.true_or, Bool.or_false, Bool.false_or, or_true, true_or, or_false, false_or, or_self, AV.asInt, AV.asBool, AV.asSl, AV.asPtr, AV.asFn, AV.asStr, AV.asMap, AV.asIfc, AV.item, List.length_cons, List.length_nil, List.getElem?_cons_zero, List.getElem?_cons_succ, Nat.zero_add, ← h1, r0, c0, r1]
  | true =>
  rw [hok] at r1
  have hok2 : okW l 4000 = true := by
    obtain ⟨g1, g2, g3, g4⟩ := okW_iff.1 hok
    exact okW_iff.2 ⟨by omega, by omega, g3, fun x hx => by have := g4 x hx; omega⟩
  have small : ∀ x ∈ l, 0 ≤ x ∧ x ≤ 20 := (okW_iff.1 hok).2.2.2
  obtain ⟨p, w, σ2, ⟨k2, r2⟩, K2, M, W, pn⟩ := made_run (most := 20) hT1 hp1 hok
  have hp2 : σ2.prot ≤ σ2.objs.length := by rw [K2.prot]; have := K2.len; omega
  obtain ⟨p', w', σ3, ⟨k3, r3⟩, K3, M', W', pn'⟩ := made_run (most := 4000) (Store.Sl.kp hT1 K2) hp2 hok2
  have hp3 : σ3.prot ≤ σ3.objs.length := by rw [K3.prot]; have := K3.len; omega
  have ew : w = 5 := W.uniq ⟨by omega, by omega, by decide, .inr (by decide)⟩
  have ew' : w' = 12 := W'.uniq ⟨by omega, by omega, by decide, .inr (by decide)⟩
  have Ma := M.kp K3
  obtain ⟨h4, σ4, ps4, ⟨k4, r4⟩, K4, G4, lp4, _⟩ := levels_run Ma hp3
  have hp4 : σ4.prot ≤ σ4.objs.length := by rw [K4.prot]; have := K4.len; omega
  have Mb := M'.kp K4
  obtain ⟨h5, σ5, ps5, ⟨k5, r5⟩, K5, G5, lp5, _⟩ := levels_run Mb hp4
  have hp5 : σ5.prot ≤ σ5.objs.length := by rw [K5.prot]; have := K5.len; omega
  have l4 : (h4.len : Int) = 5 := by have := G4.sl.len; simp at this; omega
  have l5 : (h5.len : Int) = 12 := by have := G5.sl.len; simp at this; omega
  have N1 : Mat σ5 p l w := (Ma.kp K4).kp K5
  have N2 : Mat σ5 p' l w' := Mb.kp K5
  have R5 : σ5.Row σ.objs.length 2 [.int .i64 a0, .int .i64 a1] := (((R1.kp K2 R1.lt).kp K3 (R1.kp K2 R1.lt).lt).kp K4 ((R1.kp K2 R1.lt).kp K3 (R1.kp K2 R1.lt).lt).lt).kp K5 (((R1.kp K2 R1.lt).kp K3 (R1.kp K2 R1.lt).lt).kp K4 ((R1.kp K2 R1.lt).kp K3 (R1.kp K2 R1.lt).lt).lt).lt
  have e0 := row_int R5 (o := 0) rfl
  have e1 := row_int R5 (o := 1) rfl
  obtain ⟨n1, q1⟩ := matAt_run (N1.quiet σ5.objs.length) a0
  obtain ⟨n2, q2⟩ := matAt_run N2 a0
  obtain ⟨n3, q3⟩ := below_run (N1.quiet σ5.objs.length) a0 a1 c
  obtain ⟨n4, q4⟩ := below_run N2 a0 a1 c
  obtain ⟨v, ⟨n5, q5⟩, v1, v2⟩ := quantile_run (N1.quiet σ5.objs.length) a0 a1 c
  obtain ⟨v', ⟨n6, q6⟩, v1', v2'⟩ := quantile_run N2 a0 a1 c
  have ev : v = v' := by
    by_cases hk : 0 ≤ c ∧ c < (seg l a0 a1).length
    · obtain ⟨_, g1, g2⟩ := v1 hk
      obtain ⟨_, g3, g4⟩ := v1' hk
      exact quant_uniq g1 g2 g3 g4
    · rw [v2 hk, v2' hk]
  subst ev
  -- Distinct
  obtain ⟨h6, σ6q, ⟨n7, q7⟩, K6q, G6⟩ := matDistinct_run (N1.quiet σ5.objs.length) (by exact Nat.le_refl _) a0 a1
  obtain ⟨σ6, hσ6⟩ : ∃ s : Store, s = { σ6q with prot := σ5.prot } := ⟨_, rfl⟩
  have K6 : Kp σ5.objs.length σ5 σ6 := by rw [hσ6]; exact kp_q K6q
  have hp6 : σ6.prot ≤ σ6.objs.length := by rw [K6.prot]; have := K6.len; omega
  have S6 : σ6.Sl h6 2 (pairsL (dis (seg l a0 a1) 0 (2 ^ w))) := by rw [hσ6]; exact G6.sl.keep fun _ _ _ => rfl
  have N26 := N2.kp K6
  obtain ⟨h7, σ7, ⟨n8, q8⟩, K7, G7⟩ := matDistinct_run N26 hp6 a0 a1
  have hp7 : σ7.prot ≤ σ7.objs.length := by rw [K7.prot]; have := K7.len; omega
  have ed : dis (seg l a0 a1) 0 (2 ^ w') = dis (seg l a0 a1) 0 (2 ^ w) := by
    rw [ew, ew', show (2 : Nat) ^ 12 = 2 ^ 5 + 4064 by decide, dis_split, dis_none (lo := 0 + 2 ^ 5) (n := 4064), List.append_nil]
    intro x hx
    have := small x (seg_mem hx)
    omega
  have S7 := G7.sl
  rw [ed] at S7
  obtain ⟨n9, q9⟩ := same13_run (S6.kp K7) S7 (by have := dis_length (seg l a0 a1) 0 (2 ^ w); rw [ew] at this ⊢; omega)
  have K57 : Kp σ5.objs.length σ5 σ7 := K6.all K7
  have R7 := R5.kp K57 R5.lt
  have e07 := row_int R7 (o := 0) rfl
  have N17 := N1.kp K57
  -- Select
  obtain ⟨r, σ8q, ⟨n10, q10⟩, K8q, s1, s2⟩ := matSelect_run (N17.quiet σ7.objs.length) (by exact Nat.le_refl _) c a0
  obtain ⟨σ8, hσ8⟩ : ∃ s : Store, s = { σ8q with prot := σ7.prot } := ⟨_, rfl⟩
  have K8 : Kp σ7.objs.length σ7 σ8 := by rw [hσ8]; exact kp_q K8q
  have hp8 : σ8.prot ≤ σ8.objs.length := by rw [K8.prot]; have := K8.len; omega
  have R8 := R7.kp K8 R7.lt
  have e08 := row_int R8 (o := 0) rfl
  obtain ⟨r', σ9, ⟨n11, q11⟩, K9, t1, t2⟩ := matSelect_run ((N26.kp K7).kp K8) hp8 c a0
  have er : r = r' := by
    by_cases ex : ∃ P : Nat, P < l.length ∧ rd l P = c ∧ a0 = (Bs.cnt (fun x => decide (x = c)) (l.take P) : Nat)
    · obtain ⟨P, g1, g2, g3⟩ := ex
      rw [s1 P g1 g2 g3, t1 P g1 g2 g3]
    · have hno : ¬ (0 ≤ a0 ∧ a0 < Bs.cnt (fun x => decide (x = c)) l) := by
        rintro ⟨g1, g2⟩
        obtain ⟨P, h1, h2, h3⟩ := exists_kth (fun x => decide (x = c)) l a0.toNat (by omega)
        exact ex ⟨P, h1, by simpa using h2, by omega⟩
      rw [s2 hno, t2 hno]
  subst er
  refine ⟨σ9, Runs.intro (fn := Try.f14) (by kernel_rfl) (by kernel_rfl) ⟨k0 + k1 + k2 + k3 + k4 + k5 + n1 + n2 + n3 + n4 + n5 + n6 + n7 + n8 + n9 + n10 + n11, fun k hk => ?_⟩⟩
  have r0 := r0 k (by omega)
  have r1 := r1 k (by omega)
  have r2 := r2 k (by omega)
  have r3 := r3 k (by omega)
  have r4 := r4 k (by omega)
  have r5 := r5 k (by omega)
  have q1 := callG_same (q1 k (by omega))
  have q2 := q2 k (by omega)
  have q3 := callG_same (q3 k (by omega))
  have q4 := q4 k (by omega)
  have q5 := callG_same (q5 k (by omega))
  have q6 := q6 k (by omega)
  have q7 := callG_q (σ := σ5) (q7 k (by omega))
  have q8 := q8 k (by omega)
  have q9 := q9 k (by omega)
  have q10 := callG_q (σ := σ7) (q10 k (by omega))
  have q11 := q11 k (by omega)
  rw [← hσ6] at q7
  rw [← hσ8] at q10
  simp only at r0 r1 r2 r3 r4 r5 q1 q2 q3 q4 q5 q6 q7 q8 q9 q10 q11
  simp only [f14_eq]
  simp only [Option.bind_some, decide_eq_true_eq, decide_eq_false_iff_not, Bool.not_eq_true', Bool.not_true, Bool.not_false, Bool.false_eq_true, Bool.true_eq_false, Bool.not_eq_eq_eq_not, beq_self_eq_true, beqFT, beqTF, decide_true, decide_false, not_false_eq_true, not_true_eq_false, ne_eq, true_and, and_true, false_and, and_false, and_self, if_true, if_false, ite_true, ite_false, Bool.and_true, Bool.and_false, Bool.true_and, Bool.false_and, Bool.or_true, Bool.true_or, Bool.or_false, Bool.false_or, or_true, true_or, or_false, false_or, or_self, AV.asInt, AV.asBool, AV.asSl, AV.asPtr, AV.asFn, AV.asStr, AV.asMap, AV.asIfc, AV.item, List.length_cons, List.length_nil, List.getElem?_cons_zero, List.getElem?_cons_succ, Nat.zero_add, ← h1, r0, c0, r1, r2, r3, r4, l4, r5, l5, e0, e1, q1, q2, q3, q4, q5, q6, q7]
  have R6 := R5.kp K6 R5.lt
  have e06 := row_int R6 (o := 0) rfl
  have e16 := row_int R6 (o := 1) rfl
  simp only [Option.bind_some, decide_eq_true_eq, decide_eq_false_iff_not, Bool.not_eq_true', Bool.not_true, Bool.not_false, Bool.false_eq_true, Bool.true_eq_false, Bool.not_eq_eq_eq_not, beq_self_eq_true, beqFT, beqTF, decide_true, decide_false, not_false_eq_true, not_true_eq_false, ne_eq, true_and, and_true, false_and, and_false, and_self, if_true, if_false, ite_true, ite_false, Bool.and_true, Bool.and_false, Bool.true_and, Bool.false_and, Bool.or_true, Bool.true_or, Bool.or_false, Bool.false_or, or_true, true_or, or_false, false_or, or_self, AV.asInt, AV.asBool, AV.asSl, AV.asPtr, AV.asFn, AV.asStr, AV.asMap, AV.asIfc, AV.item, List.length_cons, List.length_nil, List.getElem?_cons_zero, List.getElem?_cons_succ, Nat.zero_add, e06, e16, q8, q9, e07, q10, e08, q11]
end Go.Ab

/- The reference's levels. -/
namespace Go.Ab
open Go Go.Proofs Go.Ab.Wd Go.Ab.Bs Go.Ab.Sai
set_option linter.unusedVariables false
set_option linter.unusedSimpArgs false
theorem width13_run (σ : Store) {m : Nat} (hm : m < 2 ^ 22) : ∃ w : Nat, Runs Try.prog 56 [.int .i64 m] σ (.int .i64 w) σ ∧ IsWid m w := by
  obtain ⟨r, e, w, rfl, W⟩ := EvI.while (f := fun k s => stepF Try.prog (gm Try.prog k) drawn k Try.f56 [1, 1, 0, 0] [3, 0] s)
    (fun u s => ∃ j : Nat, u = m / 2 ^ j ∧ s = ([.int .i64 (j + 1 : Nat), .int .i64 (m / 2 ^ j : Nat)], σ) ∧ (j = 0 ∨ 1 ≤ m / 2 ^ j) ∧ j ≤ 22)
    (fun r => ∃ w : Nat, r = (AX.exit 0, [(3, .int .i64 w)], σ) ∧ IsWid m w)
    (by
      rintro u s ⟨j, rfl, rfl, hj, hj2⟩
      obtain ⟨v, hv⟩ : ∃ v, v = m / 2 ^ j := ⟨_, rfl⟩
      have hs := div_succ m j
      have hvm : v ≤ m := hv ▸ Nat.div_le_self _ _
      rw [← hv] at hs hj ⊢
      by_cases c : 1 < v
      · have c' : (1 : Int) < v := by omega
        have w1 : IntKind.wrap .i64 (((j + 1 : Nat) : Int) + 1) = ((j + 1 + 1 : Nat) : Int) := by rw [wrap64 (by omega) (by omega)]; omega
        have w2 : IntKind.wrap .i64 (Int.tdiv (v : Int) 2) = ((m / 2 ^ (j + 1) : Nat) : Int) := by rw [hs, Int.tdiv_eq_ediv_of_nonneg (by omega), wrap64 (by omega) (by omega)]; omega
        have j22 : j + 1 ≤ 22 := by
          rcases Nat.lt_or_ge j 22 with h | h
          · omega
          · have : j = 22 := by omega
            subst this
            rw [Nat.div_eq_of_lt hm] at hv; omega
        exact .inl ⟨m / 2 ^ (j + 1), _, by rw [hs]; omega, Ev.of fun k => by simp only [f56_L1100]; simp only [Option.bind_some, decide_eq_true_eq, decide_eq_false_iff_not, Bool.not_eq_true', Bool.not_true, Bool.not_false, Bool.false_eq_true, Bool.true_eq_false, Bool.not_eq_eq_eq_not, beq_self_eq_true, beqFT, beqTF, decide_true, decide_false, not_false_eq_true, not_true_eq_false, ne_eq, true_and, and_true, false_and, and_false, and_self, if_true, if_false, ite_true, ite_false, Bool.and_true, Bool.and_false, Bool.true_and, Bool.false_and, Bool.or_true, Bool.true_or, Bool.or_false, Bool.false_or, or_true, true_or, or_false, false_or, or_self, AV.asInt, AV.asBool, AV.asSl, AV.asPtr, AV.asFn, AV.asStr, AV.asMap, AV.asIfc, AV.item, List.length_cons, List.length_nil, List.getElem?_cons_zero, List.getElem?_cons_succ, Nat.zero_add, c', w1, w2], j + 1, rfl, rfl, .inr (by rw [hs]; omega), j22⟩
      · have c' : ¬ (1 : Int) < v := by omega
        refine .inr ⟨(AX.exit 0, [(3, .int .i64 (j + 1 : Nat))], σ), Ev.of fun k => by simp only [f56_L1100]; simp only [Option.bind_some, decide_eq_true_eq, decide_eq_false_iff_not, Bool.not_eq_true', Bool.not_true, Bool.not_false, Bool.false_eq_true, Bool.true_eq_false, Bool.not_eq_eq_eq_not, beq_self_eq_true, beqFT, beqTF, decide_true, decide_false, not_false_eq_true, not_true_eq_false, ne_eq, true_and, and_true, false_and, and_false, and_self, if_true, if_false, ite_true, ite_false, Bool.and_true, Bool.and_false, Bool.true_and, Bool.false_and, Bool.or_true, Bool.true_or, Bool.or_false, Bool.false_or, or_true, true_or, or_false, false_or, or_self, AV.asInt, AV.asBool, AV.asSl, AV.asPtr, AV.asFn, AV.asStr, AV.asMap, AV.asIfc, AV.item, List.length_cons, List.length_nil, List.getElem?_cons_zero, List.getElem?_cons_succ, Nat.zero_add, c'], j + 1, rfl, by omega, by omega, ?_, ?_⟩
        · have : m / 2 ^ (j + 1) = 0 := by omega
          rcases (Nat.div_eq_zero_iff).1 this with h | h
          · have := Nat.two_pow_pos (j + 1); omega
          · exact h
        · rcases hj with h | h
          · exact .inl (by omega)
          · right
            rw [Nat.add_sub_cancel]
            have := (Nat.le_div_iff_mul_le (Nat.two_pow_pos j)).1 (hv ▸ h)
            omega)
    m ([.int .i64 1, .int .i64 m], σ) ⟨0, by simp, by simp, .inl rfl, by omega⟩
  exact ⟨w, Runs.intro (fn := Try.f56) (by kernel_rfl) (by kernel_rfl) ((Ev.bind (loopF_ev e) (Ev.of fun k => f56_X1100_1 (gm Try.prog k) k σ _)).congr fun k => by rw [f56_eq]), W⟩
/-- A bit as a number. -/
def bv (k : Nat) (x : Int) : Int := ((x.toNat / 2 ^ k % 2 : Nat) : Int)
theorem bv_one {k : Nat} {x : Int} : decide (bv k x = 1) = bitb k x := by unfold bv bitb; congr 1; exact propext (by omega)
theorem bv_zero {k : Nat} {x : Int} : decide (bv k x = 0) = !bitb k x := by
  unfold bv bitb
  rcases Nat.mod_two_eq_zero_or_one (x.toNat / 2 ^ k) with h | h <;> simp [h]
theorem rd_map' {f : Int → Int} {l : List Int} {i : Nat} (h1 : i < l.length) : rd (l.map f) i = f (rd l i) := by
  rw [rd_getElem (by simpa using h1), rd_getElem h1]; simp
section
variable {σ : Store} {r : List Int} {hr ho : Hdl} {k : Nat}
theorem bits13_loop (hR : σ.Ints hr r) (hp : σ.prot ≤ σ.objs.length) (hn : r.length < 2 ^ 30) (hk : k ≤ 60) (hx : ∀ x ∈ r, 0 ≤ x ∧ x < 2 ^ 62) :
    ∃ hb σ', EvI (fun kk s => stepF Try.prog (gm Try.prog kk) drawn kk Try.f29 [1, 1, 1, 0, 1, 0, 0, 1, 0, 0, 1, 1, 0, 1, 0] [25, 24, 23, 9, 8, 7, 6, 5] s)
      ([.int .i64 0, .int .i64 r.length, .slice hr, .slice Hdl.nil, .slice Hdl.nil, .int .i64 k, .slice hr, .slice ho], σ) (AX.exit 2, [(9, .slice Hdl.nil), (8, .slice hb), (7, .int .i64 k), (6, .slice hr), (5, .slice ho)], σ') ∧
      Kp σ.objs.length σ σ' ∧ GrowN .u8 σ' σ.objs.length hb (r.map (bv k)) := by
  have lr := hR.ilen
  obtain ⟨q, e, hb, σ', rfl, h1, h2⟩ := EvI.up (f := fun kk s => stepF Try.prog (gm Try.prog kk) drawn kk Try.f29 [1, 1, 1, 0, 1, 0, 0, 1, 0, 0, 1, 1, 0, 1, 0] [25, 24, 23, 9, 8, 7, 6, 5] s) r.length
    (fun i s => ∃ hb s1, s = ([.int .i64 i, .int .i64 r.length, .slice hr, .slice Hdl.nil, .slice hb, .int .i64 k, .slice hr, .slice ho], s1) ∧ Kp σ.objs.length σ s1 ∧ GrowN .u8 s1 σ.objs.length hb ((r.take i).map (bv k)))
    (fun q => ∃ hb s1, q = (AX.exit 2, [(9, .slice Hdl.nil), (8, .slice hb), (7, .int .i64 k), (6, .slice hr), (5, .slice ho)], s1) ∧ Kp σ.objs.length σ s1 ∧ GrowN .u8 s1 σ.objs.length hb (r.map (bv k)))
    (by
      rintro i s hi ⟨hb, s1, rfl, kk, g⟩
      have i0 : (0 : Int) ≤ i := by omega
      have i1 : (i : Int) < r.length := by omega
      have w := wsucc hi (by omega)
      have hRs : s1.Ints hr r := Store.Sl.kp hR kk
      have rx := hRs.rd i0 i1
      have hxr := hx _ (rd_mem i0 i1)
      have wk : IntKind.wrap .u64 (k : Int) = k := wrapu64 (by omega) (by omega)
      have k0 : (0 : Int) ≤ k := by omega
      have bt := bit_test (k := k) hxr.1 hxr.2 (by omega)
      have wb : IntKind.wrap .u8 ((rd r i).toNat / 2 ^ k % 2 : Nat) = bv k (rd r i) := by unfold bv; rw [wrapu8 (by omega) (by omega)]
      obtain ⟨h', s2, e2, k2, g2⟩ := growN_app (k := .u8) (bs := 1) g (by rw [kk.prot]; exact hp) kk.len (bv k (rd r i)) (by omega) (by omega) (by simp; omega)
      refine ⟨_, Ev.of fun m => ?_, h', s2, rfl, kk.trans k2, ?_⟩
      · simp only [f29_L111010010011010]
        simp only [Option.bind_some, decide_eq_true_eq, decide_eq_false_iff_not, Bool.not_eq_true', Bool.not_true, Bool.not_false, Bool.false_eq_true, Bool.true_eq_false, Bool.not_eq_eq_eq_not, beq_self_eq_true, beqFT, beqTF, decide_true, decide_false, not_false_eq_true, not_true_eq_false, ne_eq, true_and, and_true, false_and, and_false, and_self, if_true, if_false, ite_true, ite_false, Bool.and_true, Bool.and_false, Bool.true_and, Bool.false_and, Bool.or_true, Bool.true_or, Bool.or_false, Bool.false_or, or_true, true_or, or_false, false_or, or_self, AV.asInt, AV.asBool, AV.asSl, AV.asPtr, AV.asFn, AV.asStr, AV.asMap, AV.asIfc, AV.item, List.length_cons, List.length_nil, List.getElem?_cons_zero, List.getElem?_cons_succ, Nat.zero_add, lr, i0, i1, rx, wk, k0, bt, wb, read1, e2, w]
      · rw [take_rd hi, List.map_append]; exact g2)
    (by
      rintro s ⟨hb, s1, rfl, kk, g⟩
      rw [List.take_length] at g
      exact ⟨(AX.exit 2, [(9, .slice Hdl.nil), (8, .slice hb), (7, .int .i64 k), (6, .slice hr), (5, .slice ho)], s1), Ev.of fun m => by simp only [f29_L111010010011010]; simp only [Option.bind_some, decide_eq_true_eq, decide_eq_false_iff_not, Bool.not_eq_true', Bool.not_true, Bool.not_false, Bool.false_eq_true, Bool.true_eq_false, Bool.not_eq_eq_eq_not, beq_self_eq_true, beqFT, beqTF, decide_true, decide_false, not_false_eq_true, not_true_eq_false, ne_eq, true_and, and_true, false_and, and_false, and_self, if_true, if_false, ite_true, ite_false, Bool.and_true, Bool.and_false, Bool.true_and, Bool.false_and, Bool.or_true, Bool.true_or, Bool.or_false, Bool.false_or, or_true, true_or, or_false, false_or, or_self, AV.asInt, AV.asBool, AV.asSl, AV.asPtr, AV.asFn, AV.asStr, AV.asMap, AV.asIfc, AV.item, List.length_cons, List.length_nil, List.getElem?_cons_zero, List.getElem?_cons_succ, Nat.zero_add, Int.lt_irrefl], hb, s1, rfl, kk, g⟩)
    (s := ([.int .i64 0, .int .i64 r.length, .slice hr, .slice Hdl.nil, .slice Hdl.nil, .int .i64 k, .slice hr, .slice ho], σ)) ⟨Hdl.nil, σ, rfl, Kp.refl _ _, Grow.nil _ _ _⟩
  exact ⟨hb, σ', e, h1, h2⟩
theorem pass13_loop {σ0 : Store} {hb hx : Hdl} {b : Int} {nx : List Int} (hR : σ0.Ints hr r) (hB : Store.Nums .u8 σ0 hb (r.map (bv k))) (hp : σ0.prot ≤ σ0.objs.length) (hn : r.length < 2 ^ 30) (hnx : nx.length < 2 ^ 31) (K : Kp σ0.objs.length σ0 σ) (G : GrowI σ σ0.objs.length hx nx) :
    ∃ hx' σ', EvI (fun kk s => stepF Try.prog (gm Try.prog kk) drawn kk Try.f29 [1, 1, 1, 0, 1, 0, 0, 1, 0, 0, 1, 1, 1, 0, 1, 0, 0, 1, 0, 0, 1, 0] [45, 44, 43, 12, 9, 8, 7, 6, 5] s)
      ([.int .i64 0, .int .i64 r.length, .slice hr, .int .u8 b, .slice hx, .slice hb, .int .i64 k, .slice hr, .slice ho], σ) (AX.exit 6, [(12, .int .u8 b), (9, .slice hx'), (8, .slice hb), (7, .int .i64 k), (6, .slice hr), (5, .slice ho)], σ') ∧
      Kp σ0.objs.length σ0 σ' ∧ GrowI σ' σ0.objs.length hx' (nx ++ r.filter fun x => decide (bv k x = b)) := by
  have lr := hR.ilen
  have lb := nums_len hB
  rw [List.length_map] at lb
  obtain ⟨q, e, hx', σ', rfl, h1, h2⟩ := EvI.up (f := fun kk s => stepF Try.prog (gm Try.prog kk) drawn kk Try.f29 [1, 1, 1, 0, 1, 0, 0, 1, 0, 0, 1, 1, 1, 0, 1, 0, 0, 1, 0, 0, 1, 0] [45, 44, 43, 12, 9, 8, 7, 6, 5] s) r.length
    (fun i s => ∃ hx s1, s = ([.int .i64 i, .int .i64 r.length, .slice hr, .int .u8 b, .slice hx, .slice hb, .int .i64 k, .slice hr, .slice ho], s1) ∧ Kp σ0.objs.length σ0 s1 ∧ GrowI s1 σ0.objs.length hx (nx ++ (r.take i).filter fun x => decide (bv k x = b)))
    (fun q => ∃ hx s1, q = (AX.exit 6, [(12, .int .u8 b), (9, .slice hx), (8, .slice hb), (7, .int .i64 k), (6, .slice hr), (5, .slice ho)], s1) ∧ Kp σ0.objs.length σ0 s1 ∧ GrowI s1 σ0.objs.length hx (nx ++ r.filter fun x => decide (bv k x = b)))
    (by
      rintro i s hi ⟨hx, s1, rfl, kk, g⟩
      have i0 : (0 : Int) ≤ i := by omega
      have i1 : (i : Int) < r.length := by omega
      have i2 : (i : Int) < hb.len := by omega
      have w := wsucc hi (by omega)
      have hRs : s1.Ints hr r := Store.Sl.kp hR kk
      have rx := hRs.rd i0 i1
      have rb := nums_rd (Store.Sl.kp hB kk) i0 (by simpa using i1)
      rw [rd_map' hi] at rb
      by_cases c : bv k (rd r i) = b
      · obtain ⟨h', s2, e2, k2, g2⟩ := g.app (by rw [kk.prot]; exact hp) kk.len (rd r i) (by
          have := List.length_filter_le (fun x => decide (bv k x = b)) (r.take i); simp at this ⊢; omega)
        refine ⟨_, Ev.of fun m => ?_, h', s2, rfl, kk.trans k2, ?_⟩
        · simp only [f29_L1110100100111010010010]
          simp only [Option.bind_some, decide_eq_true_eq, decide_eq_false_iff_not, Bool.not_eq_true', Bool.not_true, Bool.not_false, Bool.false_eq_true, Bool.true_eq_false, Bool.not_eq_eq_eq_not, beq_self_eq_true, beqFT, beqTF, decide_true, decide_false, not_false_eq_true, not_true_eq_false, ne_eq, true_and, and_true, false_and, and_false, and_self, if_true, if_false, ite_true, ite_false, Bool.and_true, Bool.and_false, Bool.true_and, Bool.false_and, Bool.or_true, Bool.true_or, Bool.or_false, Bool.false_or, or_true, true_or, or_false, false_or, or_self, AV.asInt, AV.asBool, AV.asSl, AV.asPtr, AV.asFn, AV.asStr, AV.asMap, AV.asIfc, AV.item, List.length_cons, List.length_nil, List.getElem?_cons_zero, List.getElem?_cons_succ, Nat.zero_add, lr, i0, i1, i2, rx, rb, c, read1, e2, w]
        · rw [take_rd hi, List.filter_append, List.filter_cons_of_pos (by simpa using c), ← List.append_assoc]; exact g2
      · refine ⟨_, Ev.of fun m => ?_, hx, s1, rfl, kk, ?_⟩
        · simp only [f29_L1110100100111010010010]
          simp only [Option.bind_some, decide_eq_true_eq, decide_eq_false_iff_not, Bool.not_eq_true', Bool.not_true, Bool.not_false, Bool.false_eq_true, Bool.true_eq_false, Bool.not_eq_eq_eq_not, beq_self_eq_true, beqFT, beqTF, decide_true, decide_false, not_false_eq_true, not_true_eq_false, ne_eq, true_and, and_true, false_and, and_false, and_self, if_true, if_false, ite_true, ite_false, Bool.and_true, Bool.and_false, Bool.true_and, Bool.false_and, Bool.or_true, Bool.true_or, Bool.or_false, Bool.false_or, or_true, true_or, or_false, false_or, or_self, AV.asInt, AV.asBool, AV.asSl, AV.asPtr, AV.asFn, AV.asStr, AV.asMap, AV.asIfc, AV.item, List.length_cons, List.length_nil, List.getElem?_cons_zero, List.getElem?_cons_succ, Nat.zero_add, lr, i0, i1, i2, rx, rb, c, w]
        · rw [take_rd hi, List.filter_append, List.filter_cons_of_neg (by simpa using c), List.filter_nil, List.append_nil]; exact g)
    (by
      rintro s ⟨hx, s1, rfl, kk, g⟩
      rw [List.take_length] at g
      exact ⟨(AX.exit 6, [(12, .int .u8 b), (9, .slice hx), (8, .slice hb), (7, .int .i64 k), (6, .slice hr), (5, .slice ho)], s1), Ev.of fun m => by simp only [f29_L1110100100111010010010]; simp only [Option.bind_some, decide_eq_true_eq, decide_eq_false_iff_not, Bool.not_eq_true', Bool.not_true, Bool.not_false, Bool.false_eq_true, Bool.true_eq_false, Bool.not_eq_eq_eq_not, beq_self_eq_true, beqFT, beqTF, decide_true, decide_false, not_false_eq_true, not_true_eq_false, ne_eq, true_and, and_true, false_and, and_false, and_self, if_true, if_false, ite_true, ite_false, Bool.and_true, Bool.and_false, Bool.true_and, Bool.false_and, Bool.or_true, Bool.true_or, Bool.or_false, Bool.false_or, or_true, true_or, or_false, false_or, or_self, AV.asInt, AV.asBool, AV.asSl, AV.asPtr, AV.asFn, AV.asStr, AV.asMap, AV.asIfc, AV.item, List.length_cons, List.length_nil, List.getElem?_cons_zero, List.getElem?_cons_succ, Nat.zero_add, Int.lt_irrefl], hx, s1, rfl, kk, g⟩)
    (s := ([.int .i64 0, .int .i64 r.length, .slice hr, .int .u8 b, .slice hx, .slice hb, .int .i64 k, .slice hr, .slice ho], σ)) ⟨hx, σ, rfl, K, by simpa using G⟩
  exact ⟨hx', σ', e, h1, h2⟩
theorem two13_loop {hb : Hdl} (hR : σ.Ints hr r) (hB : Store.Nums .u8 σ hb (r.map (bv k))) (hp : σ.prot ≤ σ.objs.length) (hn : r.length < 2 ^ 30) :
    ∃ hx' σ', EvI (fun kk s => stepF Try.prog (gm Try.prog kk) drawn kk Try.f29 [1, 1, 1, 0, 1, 0, 0, 1, 0, 0, 1, 1, 1, 0, 1, 0] [12, 9, 8, 7, 6, 5] s)
      ([.int .u8 0, .slice Hdl.nil, .slice hb, .int .i64 k, .slice hr, .slice ho], σ) (AX.exit 4, [(9, .slice hx'), (8, .slice hb), (7, .int .i64 k), (5, .slice ho)], σ') ∧
      Kp σ.objs.length σ σ' ∧ GrowI σ' σ.objs.length hx' (down k r) := by
  have lr := hR.ilen
  obtain ⟨x1, s1, e1, k1, g1⟩ := pass13_loop (ho := ho) (b := 0) (nx := []) hR hB hp hn (by simp) (Kp.refl _ _) (Grow.nil _ _ _)
  obtain ⟨x2, s2, e2, k2, g2⟩ := pass13_loop (ho := ho) (b := 1) hR hB hp hn (by have := List.length_filter_le (fun x => decide (bv k x = 0)) r; simp at this ⊢; omega) k1 g1
  have eq : ([] ++ (r.filter fun x => decide (bv k x = 0))) ++ (r.filter fun x => decide (bv k x = 1)) = down k r := by
    unfold Bs.down low high
    rw [List.nil_append]
    congr 1
    · congr 1; funext x; exact bv_zero
    · congr 1; funext x; exact bv_one
  rw [eq] at g2
  obtain ⟨n1, e1⟩ := loopF_ev e1
  obtain ⟨n2, e2⟩ := loopF_ev e2
  refine ⟨x2, s2, ?_, k2, g2⟩
  have w0 : IntKind.wrap .u8 (0 + 1) = 1 := by decide
  have w1 : IntKind.wrap .u8 (1 + 1) = 2 := by decide
  have c0 : (0 : Int) < 2 := by omega
  have c1 : (1 : Int) < 2 := by omega
  have c2 : ¬ (2 : Int) < 2 := by omega
  refine EvI.step (s' := ([.int .u8 1, .slice x1, .slice hb, .int .i64 k, .slice hr, .slice ho], s1)) ⟨n1, fun m hm => ?_⟩ (EvI.step (s' := ([.int .u8 2, .slice x2, .slice hb, .int .i64 k, .slice hr, .slice ho], s2)) ⟨n2, fun m hm => ?_⟩ (EvI.done (Ev.of fun m => ?_)))
  · have e1 := e1 m hm
    simp only at e1
    simp only [f29_L1110100100111010]
    simp only [Option.bind_some, decide_eq_true_eq, decide_eq_false_iff_not, Bool.not_eq_true', Bool.not_true, Bool.not_false, Bool.false_eq_true, Bool.true_eq_false, Bool.not_eq_eq_eq_not, beq_self_eq_true, beqFT, beqTF, decide_true, decide_false, not_false_eq_true, not_true_eq_false, ne_eq, true_and, and_true, false_and, and_false, and_self, if_true, if_false, ite_true, ite_false, Bool.and_true, Bool.and_false, Bool.true_and, Bool.false_and, Bool.or_true, Bool.true_or, Bool.or_false, Bool.false_or, or_true, true_or, or_false, false_or, or_self, AV.asInt, AV.asBool, AV.asSl, AV.asPtr, AV.asFn, AV.asStr, AV.asMap, AV.asIfc, AV.item, List.length_cons, List.length_nil, List.getElem?_cons_zero, List.getElem?_cons_succ, Nat.zero_add, c0, lr, e1]
    rw [f29_X1110100100111010010010_1]
    simp only [w0]
  · have e2 := e2 m hm
    simp only at e2
    simp only [f29_L1110100100111010]
    simp only [Option.bind_some, decide_eq_true_eq, decide_eq_false_iff_not, Bool.not_eq_true', Bool.not_true, Bool.not_false, Bool.false_eq_true, Bool.true_eq_false, Bool.not_eq_eq_eq_not, beq_self_eq_true, beqFT, beqTF, decide_true, decide_false, not_false_eq_true, not_true_eq_false, ne_eq, true_and, and_true, false_and, and_false, and_self, if_true, if_false, ite_true, ite_false, Bool.and_true, Bool.and_false, Bool.true_and, Bool.false_and, Bool.or_true, Bool.true_or, Bool.or_false, Bool.false_or, or_true, true_or, or_false, false_or, or_self, AV.asInt, AV.asBool, AV.asSl, AV.asPtr, AV.asFn, AV.asStr, AV.asMap, AV.asIfc, AV.item, List.length_cons, List.length_nil, List.getElem?_cons_zero, List.getElem?_cons_succ, Nat.zero_add, c1, lr, e2]
    rw [f29_X1110100100111010010010_1]
    simp only [w1]
  · simp only [f29_L1110100100111010]
    simp only [Option.bind_some, decide_eq_true_eq, decide_eq_false_iff_not, Bool.not_eq_true', Bool.not_true, Bool.not_false, Bool.false_eq_true, Bool.true_eq_false, Bool.not_eq_eq_eq_not, beq_self_eq_true, beqFT, beqTF, decide_true, decide_false, not_false_eq_true, not_true_eq_false, ne_eq, true_and, and_true, false_and, and_false, and_self, if_true, if_false, ite_true, ite_false, Bool.and_true, Bool.and_false, Bool.true_and, Bool.false_and, Bool.or_true, Bool.true_or, Bool.or_false, Bool.false_or, or_true, true_or, or_false, false_or, or_self, AV.asInt, AV.asBool, AV.asSl, AV.asPtr, AV.asFn, AV.asStr, AV.asMap, AV.asIfc, AV.item, List.length_cons, List.length_nil, List.getElem?_cons_zero, List.getElem?_cons_succ, Nat.zero_add, c2]
end
end Go.Ab

/- The law WaveMakes. -/
namespace Go.Ab
open Go Go.Proofs Go.Ab.Wd Go.Ab.Bs Go.Ab.Sai
set_option linter.unusedVariables false
set_option linter.unusedSimpArgs false
def slcsL (l : List Hdl) : List AV := l.map AV.slice
@[simp] theorem slcsL_length (l : List Hdl) : (slcsL l).length = l.length := by simp [slcsL]
theorem slcs_rd {σ : Store} {h : Hdl} {hs : List Hdl} (s : σ.Sl h 1 (slcsL hs)) {j : Nat} {q : Hdl} (hj : hs[j]? = some q) : σ.ldSl (h.idx (j : Int) 1) = some q := by
  have : σ.cell (h.idx (j : Int) 1) = some (.slice q) := Store.Sl.at s (by omega) (by simp [slcsL, hj])
  simp [Store.ldSl, this]
def blev (w : Nat) (l : List Int) (j : Nat) : List Int := (Bs.rowAt w l (w - j)).map (bv (w - j - 1))
structure LvI (σ0 : Store) (w : Nat) (l : List Int) (m : Nat) (hrow hout : Hdl) (s1 : Store) : Prop where
  kk : Kp σ0.objs.length σ0 s1
  row : s1.Ints hrow (Bs.rowAt w l m)
  ex : ∃ hs, Grow s1 σ0.objs.length hout 1 (slcsL hs) ∧ hs.length = w - m ∧ ∀ j, j < w - m → ∃ hj, hs[j]? = some hj ∧ Store.Nums .u8 s1 hj (blev w l j) ∧ s1.Has hj ∧ ∀ x, hj.row = some x → hout.row ≠ some x
theorem lv_round {σ0 : Store} {w : Nat} {l : List Int} {m : Nat} {hrow hout : Hdl} {s1 : Store} (I : LvI σ0 w l (m + 1) hrow hout s1) (hm : m < w) (hw : w ≤ 24) (hp : σ0.prot ≤ σ0.objs.length) (hl : l.length ≤ 4194304) (hx : ∀ x ∈ l, 0 ≤ x ∧ x < 2 ^ 62) :
    ∃ hrow' hout' s2, Ev (fun k => stepF Try.prog (gm Try.prog k) drawn k Try.f29 [1, 1, 1, 0, 1, 0] [7, 6, 5] ([.int .i64 m, .slice hrow, .slice hout], s1))
      (.inl ([.int .i64 ((m : Int) - 1), .slice hrow', .slice hout'], s2)) ∧ LvI σ0 w l m hrow' hout' s2 := by
  obtain ⟨hs, G, lh, V⟩ := I.ex
  obtain ⟨r, hr⟩ : ∃ r, r = Bs.rowAt w l (m + 1) := ⟨_, rfl⟩
  have lr : r.length = l.length := by rw [hr, rowAt_length]
  have hI := I.row
  rw [← hr] at hI
  have hlen := I.kk.len
  have p1 : s1.prot ≤ σ0.objs.length := by rw [I.kk.prot]; exact hp
  obtain ⟨hb, s2, e2, K2, G2⟩ := bits13_loop (k := m) (ho := hout) hI (by omega) (by omega) (by omega) (fun x hx' => hx x (by rw [hr] at hx'; exact (rowAt_mem _ _ _ _).1 hx'))
  have l2 := K2.len
  have p2 : s2.prot ≤ σ0.objs.length := by rw [K2.prot]; exact p1
  obtain ⟨hx2, s3, e3, K3, G3⟩ := two13_loop (k := m) (ho := hout) (hb := hb) (Store.Sl.kp hI K2) G2.nums (by omega) (by omega)
  have l3 := K3.len
  have p3 : s3.prot ≤ σ0.objs.length := by rw [K3.prot]; exact p2
  have K13 : Kp s1.objs.length s1 s3 := K2.all K3
  have Go3 : Grow s3 σ0.objs.length hout 1 (slcsL hs) := G.kp K13
  obtain ⟨ho', s4, e4, K4, G4, fr, rw4⟩ := Grow.app1X Go3 p3 (by omega) (v := .slice hb) rfl (bs := 24) (by omega) (by simp; omega)
  have hor : ∀ x, hout.row = some x → x < s1.objs.length := fun x hx => G.has x hx
  have l4 := K4.len
  have keep4 : ∀ x, s1.objs.length ≤ x → x < s3.objs.length → s4.objs[x]? = s3.objs[x]? := fun x h1 h2 => fr x h2 fun e => by have := hor x e; omega
  refine ⟨hx2, ho', s4, ?_, ⟨(I.kk.trans (K13.mono (by omega))).trans K4, ?_, hs ++ [hb], ?_, ?_, ?_⟩⟩
  · obtain ⟨n2, e2⟩ := loopF_ev e2
    obtain ⟨n3, e3⟩ := loopF_ev e3
    refine ⟨n2 + n3, fun k hk => ?_⟩
    have e2 := e2 k (by omega)
    have e3 := e3 k (by omega)
    simp only at e2 e3
    have hrl := hI.ilen
    have i0 : (0 : Int) ≤ m := by omega
    have w1 : IntKind.wrap .i64 ((m : Int) - 1) = m - 1 := wrap64 (by omega) (by omega)
    simp only [f29_L111010]
    simp only [Option.bind_some, decide_eq_true_eq, decide_eq_false_iff_not, Bool.not_eq_true', Bool.not_true, Bool.not_false, Bool.false_eq_true, Bool.true_eq_false, Bool.not_eq_eq_eq_not, beq_self_eq_true, beqFT, beqTF, decide_true, decide_false, not_false_eq_true, not_true_eq_false, ne_eq, true_and, and_true, false_and, and_false, and_self, if_true, if_false, ite_true, ite_false, Bool.and_true, Bool.and_false, Bool.true_and, Bool.false_and, Bool.or_true, Bool.true_or, Bool.or_false, Bool.false_or, or_true, true_or, or_false, false_or, or_self, AV.asInt, AV.asBool, AV.asSl, AV.asPtr, AV.asFn, AV.asStr, AV.asMap, AV.asIfc, AV.item, List.length_cons, List.length_nil, List.getElem?_cons_zero, List.getElem?_cons_succ, Nat.zero_add, i0, hrl, e2]
    rw [f29_X111010010011010_1]
    simp only [Option.bind_some, decide_eq_true_eq, decide_eq_false_iff_not, Bool.not_eq_true', Bool.not_true, Bool.not_false, Bool.false_eq_true, Bool.true_eq_false, Bool.not_eq_eq_eq_not, beq_self_eq_true, beqFT, beqTF, decide_true, decide_false, not_false_eq_true, not_true_eq_false, ne_eq, true_and, and_true, false_and, and_false, and_self, if_true, if_false, ite_true, ite_false, Bool.and_true, Bool.and_false, Bool.true_and, Bool.false_and, Bool.or_true, Bool.true_or, Bool.or_false, Bool.false_or, or_true, true_or, or_false, false_or, or_self, AV.asInt, AV.asBool, AV.asSl, AV.asPtr, AV.asFn, AV.asStr, AV.asMap, AV.asIfc, AV.item, List.length_cons, List.length_nil, List.getElem?_cons_zero, List.getElem?_cons_succ, Nat.zero_add, e3]
    rw [f29_X1110100100111010_1]
    simp only [Option.bind_some, decide_eq_true_eq, decide_eq_false_iff_not, Bool.not_eq_true', Bool.not_true, Bool.not_false, Bool.false_eq_true, Bool.true_eq_false, Bool.not_eq_eq_eq_not, beq_self_eq_true, beqFT, beqTF, decide_true, decide_false, not_false_eq_true, not_true_eq_false, ne_eq, true_and, and_true, false_and, and_false, and_self, if_true, if_false, ite_true, ite_false, Bool.and_true, Bool.and_false, Bool.true_and, Bool.false_and, Bool.or_true, Bool.true_or, Bool.or_false, Bool.false_or, or_true, true_or, or_false, false_or, or_self, AV.asInt, AV.asBool, AV.asSl, AV.asPtr, AV.asFn, AV.asStr, AV.asMap, AV.asIfc, AV.item, List.length_cons, List.length_nil, List.getElem?_cons_zero, List.getElem?_cons_succ, Nat.zero_add, read1, e4, w1]
  · rw [rowAt_step w l m hm, ← hr]
    exact (G3.keep fun x o e => keep4 x (by have := G3.rowLt x o e; omega) (G3.rowLt x o e).2).ints
  · rw [show slcsL (hs ++ [hb]) = slcsL hs ++ [.slice hb] by simp [slcsL]]; exact G4
  · simp [lh]; omega
  · intro j hj
    by_cases c : j < w - (m + 1)
    · obtain ⟨q, h1, h2, h3, h4⟩ := V j c
      refine ⟨q, by rw [List.getElem?_append_left (by omega)]; exact h1, ?_, fun x hx => by have := h3 x hx; omega, fun x hx => ?_⟩
      · refine (Store.Sl.kp h2 K13).keep fun x o e => ?_
        have hq : q.row = some x := by simp [Hdl.row, e]
        exact fr x (by have := h3 x hq; omega) (h4 x hq)
      · rcases rw4 with h | h
        · rw [h]; exact h4 x hx
        · intro e; have := h x e; have := h3 x hx; omega
    · have ej : j = w - (m + 1) := by omega
      refine ⟨hb, by rw [List.getElem?_append_right (by omega), lh, ej]; simp, ?_, fun x hx => by have := G2.has x hx; omega, fun x hx => ?_⟩
      · have e : blev w l j = r.map (bv m) := by unfold blev; rw [hr, ej, show w - (w - (m + 1)) = m + 1 by omega]; rfl
        rw [e]
        refine (Store.Sl.kp G2.nums K3).keep fun x o e => keep4 x (G2.rowLt x o e).1 (by have := (G2.rowLt x o e).2; omega)
      · obtain ⟨o, ho⟩ := hasRow hx
        have hge := G2.rowLt x o ho
        rcases rw4 with h | h
        · intro e; rw [h] at e; have := hor x e; omega
        · intro e; have := h x e; omega
theorem levels13_run {σ : Store} {h : Hdl} {l : List Int} {most : Int} (hT : σ.Ints h l) (hp : σ.prot ≤ σ.objs.length) (hok : okW l most = true) :
    ∃ w hout hs σ', Runs Try.prog 29 [.slice h, .int .i64 most] σ (.slice hout) σ' ∧ Kp σ.objs.length σ σ' ∧ IsWid most.toNat w ∧ σ'.Sl hout 1 (slcsL hs) ∧ hs.length = w ∧ ∀ j, j < w → ∃ hj, hs[j]? = some hj ∧ Store.Nums .u8 σ' hj (blev w l j) := by
  obtain ⟨m0, m1, ln, hx⟩ := okW_iff.1 hok
  obtain ⟨w, ⟨k1, r1⟩, W⟩ := width13_run σ (m := most.toNat) (by omega)
  rw [show ((most.toNat : Nat) : Int) = most by omega] at r1
  have hw := W.2.1
  have hw1 := W.1
  obtain ⟨r, e, σ', hout, rfl, hrow, I'⟩ := EvI.downX (f := fun k s => stepF Try.prog (gm Try.prog k) drawn k Try.f29 [1, 1, 1, 0, 1, 0] [7, 6, 5] s)
    (fun m s => ∃ hrow hout s1, s = ([.int .i64 ((m : Int) - 1), .slice hrow, .slice hout], s1) ∧ m ≤ w ∧ LvI σ w l m hrow hout s1)
    (fun r => ∃ s1 hout, r = (AX.exit 0, [(5, .slice hout)], s1) ∧ ∃ hrow, LvI σ w l 0 hrow hout s1)
    (by
      rintro m s ⟨hrow, hout, s1, rfl, hm, I⟩
      have em : ((m + 1 : Nat) : Int) - 1 = m := by omega
      rw [em]
      obtain ⟨h', o', s2, ev, I'⟩ := lv_round I (by omega) hw hp ln (fun x hx' => by have := hx x hx'; omega)
      exact .inl ⟨_, ev, h', o', s2, rfl, by omega, I'⟩)
    (by
      rintro s ⟨hrow, hout, s1, rfl, hm, I⟩
      have c : ¬ (0 : Int) ≤ ((0 : Nat) : Int) - 1 := by omega
      exact ⟨(AX.exit 0, [(5, .slice hout)], s1), Ev.of fun k => by simp only [f29_L111010]; simp only [Option.bind_some, decide_eq_true_eq, decide_eq_false_iff_not, Bool.not_eq_true', Bool.not_true, Bool.not_false, Bool.false_eq_true, Bool.true_eq_false, Bool.not_eq_eq_eq_not, beq_self_eq_true, beqFT, beqTF, decide_true, decide_false, not_false_eq_true, not_true_eq_false, ne_eq, true_and, and_true, false_and, and_false, and_self, if_true, if_false, ite_true, ite_false, Bool.and_true, Bool.and_false, Bool.true_and, Bool.false_and, Bool.or_true, Bool.true_or, Bool.or_false, Bool.false_or, or_true, true_or, or_false, false_or, or_self, AV.asInt, AV.asBool, AV.asSl, AV.asPtr, AV.asFn, AV.asStr, AV.asMap, AV.asIfc, AV.item, List.length_cons, List.length_nil, List.getElem?_cons_zero, List.getElem?_cons_succ, Nat.zero_add, c], s1, hout, rfl, hrow, I⟩)
    w (s := ([.int .i64 ((w : Int) - 1), .slice h, .slice Hdl.nil], σ))
    ⟨h, Hdl.nil, σ, rfl, Nat.le_refl _, Kp.refl _ _, by rw [rowAt_top]; exact hT, [], Grow.nil _ _ _, by simp, fun j hj => by omega⟩
  obtain ⟨n2, e⟩ := loopF_ev e
  obtain ⟨hs, G, lh, V⟩ := I'.ex
  refine ⟨w, hout, hs, σ', Runs.intro (fn := Try.f29) (by kernel_rfl) (by kernel_rfl) ⟨k1 + n2, fun k hk => ?_⟩, I'.kk, W, G.sl, by omega, fun j hj => ?_⟩
  · have r1 := r1 k (by omega)
    have e := e k (by omega)
    simp only at r1 e
    have w1 : IntKind.wrap .i64 ((w : Int) - 1) = w - 1 := wrap64 (by omega) (by omega)
    simp only [f29_eq]
    simp only [Option.bind_some, decide_eq_true_eq, decide_eq_false_iff_not, Bool.not_eq_true', Bool.not_true, Bool.not_false, Bool.false_eq_true, Bool.true_eq_false, Bool.not_eq_eq_eq_not, beq_self_eq_true, beqFT, beqTF, decide_true, decide_false, not_false_eq_true, not_true_eq_false, ne_eq, true_and, and_true, false_and, and_false, and_self, if_true, if_false, ite_true, ite_false, Bool.and_true, Bool.and_false, Bool.true_and, Bool.false_and, Bool.or_true, Bool.true_or, Bool.or_false, Bool.false_or, or_true, true_or, or_false, false_or, or_self, AV.asInt, AV.asBool, AV.asSl, AV.asPtr, AV.asFn, AV.asStr, AV.asMap, AV.asIfc, AV.item, List.length_cons, List.length_nil, List.getElem?_cons_zero, List.getElem?_cons_succ, Nat.zero_add, r1, w1, e]
    rw [f29_X111010_1]
  · obtain ⟨q, h1, h2, _⟩ := V j (by omega)
    exact ⟨q, h1, h2⟩
theorem law_WaveMakes {σ : Store} {h : Hdl} {l : List Int} {most : Int} (hT : σ.Ints h l) (hH : σ.Has h) (hn : l.length < 2 ^ 44) (hw : ∀ n ∈ l, IntKind.min .i64 ≤ n ∧ n ≤ IntKind.max .i64)
    (ha : IntKind.min .i64 ≤ most ∧ most ≤ IntKind.max .i64) (hp : σ.prot ≤ σ.objs.length) :
    ∃ σ', Runs Try.prog 8 [.slice h, .int .i64 most] σ (.bool true) σ' := by
  have ll := hT.ilen
  obtain ⟨k0, r0⟩ := first13_told σ
  by_cases c0 : (400 : Int) < h.len
  · refine ⟨σ, Runs.intro (fn := Try.f8) (by kernel_rfl) (by kernel_rfl) ⟨k0, fun k hk => ?_⟩⟩
    have r0 := r0 k hk
    simp only at r0
    simp only [f8_eq]
    simp only [Option.bind_some, decide_eq_true_eq, decide_eq_false_iff_not, Bool.not_eq_true', Bool.not_true, Bool.not_false, Bool.false_eq_true, Bool.true_eq_false, Bool.not_eq_eq_eq_not, beq_self_eq_true, beqFT, beqTF, decide_true, decide_false, not_false_eq_true, not_true_eq_false, ne_eq, true_and, and_true, false_and, and_false, and_self, if_true, if_false, ite_true, ite_false, Bool.and_true, Bool.and_false, Bool.true_and, Bool.false_and, Bool.or_true, Bool.true_or, Bool.or_false, Bool.false_or, or_true, true_or, or_false, false_or, or_self, AV.asInt, AV.asBool, AV.asSl, AV.asPtr, AV.asFn, AV.asStr, AV.asMap, AV.asIfc, AV.item, List.length_cons, List.length_nil, List.getElem?_cons_zero, List.getElem?_cons_succ, Nat.zero_add, r0, c0]
  have ln : l.length ≤ 400 := by omega
  cases hok : okW l most with
  | false =>
    obtain ⟨σ2, ⟨k1, r1⟩, K1⟩ := made_bad (most := most) hT hp (by omega) hok
    obtain ⟨k2, r2⟩ := right13_run (al := most) (show σ2.Ints h l from Store.Sl.kp hT K1) (by omega)
    rw [hok] at r2
    refine ⟨σ2, Runs.intro (fn := Try.f8) (by kernel_rfl) (by kernel_rfl) ⟨k0 + k1 + k2, fun k hk => ?_⟩⟩
    have r0 := r0 k (by omega)
    have r1 := r1 k (by omega)
    have r2 := r2 k (by omega)
    simp only at r0 r1 r2
    simp only [f8_eq]
    simp only [Option.bind_some, decide_eq_true_eq, decide_eq_false_iff_not, Bool.not_eq_true', Bool.not_true, Bool.not_false, Bool.false_eq_true, Bool.true_eq_false, Bool.not_eq_eq_eq_not, beq_self_eq_true, beqFT, beqTF, decide_true, decide_false, not_false_eq_true, not_true_eq_false, ne_eq, true_and, and_true, false_and, and_false, and_self, if_true, if_false, ite_true, ite_false, Bool.and_true, Bool.and_false, Bool.true_and, Bool.false_and, Bool.or_true, Bool.true_or, Bool.or_false, Bool.false_or, or_true, true_or, or_false, false_or, or_self, AV.asInt, AV.asBool, AV.asSl, AV.asPtr, AV.asFn, AV.asStr, AV.asMap, AV.asIfc, AV.item, List.length_cons, List.length_nil, List.getElem?_cons_zero, List.getElem?_cons_succ, Nat.zero_add, r0, c0, r1, r2, Option.isNone_none]
  | true =>
  obtain ⟨p, w, σ2, ⟨k1, r1⟩, K1, M, W, pn⟩ := made_run (most := most) hT hp hok
  have hp2 : σ2.prot ≤ σ2.objs.length := by rw [K1.prot]; have := K1.len; omega
  have hT2 : σ2.Ints h l := Store.Sl.kp hT K1
  obtain ⟨k2, r2⟩ := right13_run (al := most) hT2 (by omega)
  rw [hok] at r2
  obtain ⟨w', hx, hs, σ3, ⟨k3, r3⟩, K3, W', S3, lhs, V3⟩ := levels13_run hT2 hp2 hok
  have ew : w' = w := W'.uniq W
  subst ew
  have hp3 : σ3.prot ≤ σ3.objs.length := by rw [K3.prot]; have := K3.len; omega
  have M3 := M.kp K3
  obtain ⟨hv, σ4, ps, ⟨k4, r4⟩, K4, G4, lps, V4⟩ := levels_run M3 hp3
  have M4 := M3.kp K4
  obtain ⟨k5, r5⟩ := matLen_run M4
  have hW := M.wid
  have lx : (hx.len : Int) = w' := by have := S3.len; simp at this; omega
  have lv : (hv.len : Int) = w' := by have := G4.sl.len; simp at this; omega
  have S4 : σ4.Sl hx 1 (slcsL hs) := S3.kp K4
  obtain ⟨q, e, rfl⟩ := EvI.up (f := fun k s => stepF Try.prog (gm Try.prog k) drawn k Try.f8 [1, 1, 1, 1, 1, 1, 1, 1, 1, 0, 1, 0] [55, 54, 8, 7, 0] s) w'
    (fun j st => st = ([.int .i64 j, .int .i64 w', .slice hv, .slice hx, .slice h], σ4))
    (fun q => q = (AX.exit 0, [], σ4))
    (by
      rintro j st hj rfl
      have j0 : (0 : Int) ≤ j := by omega
      have j1 : (j : Int) < w' := by omega
      have w1 := wsucc hj (by omega)
      obtain ⟨pv, hpv, vv⟩ := V4 j hj
      have vv4 := vv.kp K4
      obtain ⟨bx, hbx, nb⟩ := V3 j hj
      have nb4 := Store.Sl.kp nb K4
      have gp := ptrs_rd G4.sl hpv
      have gb := slcs_rd S4 hbx
      obtain ⟨n1, q1⟩ := vec_len vv4
      rw [lev_length] at q1
      have lb := nums_len nb4
      have lbl : (blev w' l j).length = l.length := by simp [blev, rowAt_length]
      rw [lbl] at lb
      obtain ⟨q2, e2, rfl⟩ := EvI.up (f := fun k s => stepF Try.prog (gm Try.prog k) drawn k Try.f8 [1, 1, 1, 1, 1, 1, 1, 1, 1, 0, 1, 0, 0, 1, 1, 0, 0, 1, 1, 1, 0] [71, 70, 69, 55, 54, 9, 8, 7, 0] s) l.length
        (fun i st => st = ([.int .i64 i, .int .i64 l.length, .slice bx, .int .i64 j, .int .i64 w', .int .i64 j, .slice hv, .slice hx, .slice h], σ4))
        (fun q => q = (AX.exit 2, [(55, .int .i64 j), (54, .int .i64 w'), (8, .slice hv), (7, .slice hx), (0, .slice h)], σ4))
        (by
          rintro i st hi rfl
          have i0 : (0 : Int) ≤ i := by omega
          have i1 : (i : Int) < l.length := by omega
          have w2 := wsucc hi (by omega)
          have rb := nums_rd nb4 i0 (by rw [lbl]; exact i1)
          have hri : i < (Bs.rowAt w' l (w' - j)).length := by rw [rowAt_length]; exact hi
          unfold blev at rb
          rw [rd_map' hri] at rb
          obtain ⟨n3, q3⟩ := vec_at vv4 i
          have eb : bitAt (lev w' l j) i = decide (bv (w' - j - 1) (rd (Bs.rowAt w' l (w' - j)) i) = 1) := by
            rw [bv_one]; unfold bitAt lev
            rw [List.getElem?_map, List.getElem?_eq_getElem hri, rd_getElem hri]; simp
          rw [Int.toNat_natCast, eb, decide_eq_true i0, Bool.true_and] at q3
          refine ⟨_, ⟨n3, fun k hk => ?_⟩, rfl⟩
          have q3 := q3 k hk
          simp only at q3
          simp only [f8_L111111111010011001110]
          have lb' : (bx.len : Int) = l.length := by omega
          simp only [Option.bind_some, decide_eq_true_eq, decide_eq_false_iff_not, Bool.not_eq_true', Bool.not_true, Bool.not_false, Bool.false_eq_true, Bool.true_eq_false, Bool.not_eq_eq_eq_not, beq_self_eq_true, beqFT, beqTF, decide_true, decide_false, not_false_eq_true, not_true_eq_false, ne_eq, true_and, and_true, false_and, and_false, and_self, if_true, if_false, ite_true, ite_false, Bool.and_true, Bool.and_false, Bool.true_and, Bool.false_and, Bool.or_true, Bool.true_or, Bool.or_false, Bool.false_or, or_true, true_or, or_false, false_or, or_self, AV.asInt, AV.asBool, AV.asSl, AV.asPtr, AV.asFn, AV.asStr, AV.asMap, AV.asIfc, AV.item, List.length_cons, List.length_nil, List.getElem?_cons_zero, List.getElem?_cons_succ, Nat.zero_add, i0, i1, lb', rb, j0, j1, lv, gp, q3]
          cases decide (bv (w' - j - 1) (rd (Bs.rowAt w' l (w' - j)) i) = 1) <;> simp [w2])
        (by
          rintro st rfl
          exact ⟨_, Ev.of fun k => by simp only [f8_L111111111010011001110]; simp only [Option.bind_some, decide_eq_true_eq, decide_eq_false_iff_not, Bool.not_eq_true', Bool.not_true, Bool.not_false, Bool.false_eq_true, Bool.true_eq_false, Bool.not_eq_eq_eq_not, beq_self_eq_true, beqFT, beqTF, decide_true, decide_false, not_false_eq_true, not_true_eq_false, ne_eq, true_and, and_true, false_and, and_false, and_self, if_true, if_false, ite_true, ite_false, Bool.and_true, Bool.and_false, Bool.true_and, Bool.false_and, Bool.or_true, Bool.true_or, Bool.or_false, Bool.false_or, or_true, true_or, or_false, false_or, or_self, AV.asInt, AV.asBool, AV.asSl, AV.asPtr, AV.asFn, AV.asStr, AV.asMap, AV.asIfc, AV.item, List.length_cons, List.length_nil, List.getElem?_cons_zero, List.getElem?_cons_succ, Nat.zero_add, Int.lt_irrefl], rfl⟩)
        (s := ([.int .i64 0, .int .i64 l.length, .slice bx, .int .i64 j, .int .i64 w', .int .i64 j, .slice hv, .slice hx, .slice h], σ4)) rfl
      obtain ⟨n2, e2⟩ := loopF_ev e2
      refine ⟨_, ⟨n1 + n2, fun k hk => ?_⟩, rfl⟩
      have q1 := q1 k (by omega)
      have e2 := e2 k (by omega)
      simp only at q1 e2
      have lb' : (bx.len : Int) = l.length := by omega
      simp only [f8_L111111111010]
      simp only [Option.bind_some, decide_eq_true_eq, decide_eq_false_iff_not, Bool.not_eq_true', Bool.not_true, Bool.not_false, Bool.false_eq_true, Bool.true_eq_false, Bool.not_eq_eq_eq_not, beq_self_eq_true, beqFT, beqTF, decide_true, decide_false, not_false_eq_true, not_true_eq_false, ne_eq, true_and, and_true, false_and, and_false, and_self, if_true, if_false, ite_true, ite_false, Bool.and_true, Bool.and_false, Bool.true_and, Bool.false_and, Bool.or_true, Bool.true_or, Bool.or_false, Bool.false_or, or_true, true_or, or_false, false_or, or_self, AV.asInt, AV.asBool, AV.asSl, AV.asPtr, AV.asFn, AV.asStr, AV.asMap, AV.asIfc, AV.item, List.length_cons, List.length_nil, List.getElem?_cons_zero, List.getElem?_cons_succ, Nat.zero_add, j0, j1, lv, lx, gp, q1, ll, gb, lb', e2]
      rw [f8_X111111111010011001110_2]
      simp only [w1])
    (by
      rintro st rfl
      exact ⟨_, Ev.of fun k => by simp only [f8_L111111111010]; simp only [Option.bind_some, decide_eq_true_eq, decide_eq_false_iff_not, Bool.not_eq_true', Bool.not_true, Bool.not_false, Bool.false_eq_true, Bool.true_eq_false, Bool.not_eq_eq_eq_not, beq_self_eq_true, beqFT, beqTF, decide_true, decide_false, not_false_eq_true, not_true_eq_false, ne_eq, true_and, and_true, false_and, and_false, and_self, if_true, if_false, ite_true, ite_false, Bool.and_true, Bool.and_false, Bool.true_and, Bool.false_and, Bool.or_true, Bool.true_or, Bool.or_false, Bool.false_or, or_true, true_or, or_false, false_or, or_self, AV.asInt, AV.asBool, AV.asSl, AV.asPtr, AV.asFn, AV.asStr, AV.asMap, AV.asIfc, AV.item, List.length_cons, List.length_nil, List.getElem?_cons_zero, List.getElem?_cons_succ, Nat.zero_add, Int.lt_irrefl], rfl⟩)
    (s := ([.int .i64 0, .int .i64 w', .slice hv, .slice hx, .slice h], σ4)) rfl
  obtain ⟨n6, e⟩ := loopF_ev e
  refine ⟨σ4, Runs.intro (fn := Try.f8) (by kernel_rfl) (by kernel_rfl) ⟨k0 + k1 + k2 + k3 + k4 + k5 + n6, fun k hk => ?_⟩⟩
  have r0 := r0 k (by omega)
  have r1 := r1 k (by omega)
  have r2 := r2 k (by omega)
  have r3 := r3 k (by omega)
  have r4 := r4 k (by omega)
  have r5 := r5 k (by omega)
  have e := e k (by omega)
  simp only at r0 r1 r2 r3 r4 r5 e
  rw [ll] at c0
  simp only [f8_eq]
  simp only [Option.bind_some, decide_eq_true_eq, decide_eq_false_iff_not, Bool.not_eq_true', Bool.not_true, Bool.not_false, Bool.false_eq_true, Bool.true_eq_false, Bool.not_eq_eq_eq_not, beq_self_eq_true, beqFT, beqTF, decide_true, decide_false, not_false_eq_true, not_true_eq_false, ne_eq, true_and, and_true, false_and, and_false, and_self, if_true, if_false, ite_true, ite_false, Bool.and_true, Bool.and_false, Bool.true_and, Bool.false_and, Bool.or_true, Bool.true_or, Bool.or_false, Bool.false_or, or_true, true_or, or_false, false_or, or_self, AV.asInt, AV.asBool, AV.asSl, AV.asPtr, AV.asFn, AV.asStr, AV.asMap, AV.asIfc, AV.item, List.length_cons, List.length_nil, List.getElem?_cons_zero, List.getElem?_cons_succ, Nat.zero_add, r0, ll, c0, r1, r2, pn, r3, r4, r5, lv, lx, e]
  rw [f8_X111111111010_2]
end Go.Ab

/- What is told of first holds. -/
namespace Go.Ab
open Go Go.Proofs
theorem toldOk (hm : Try.prog.follows .mixedOrders = true) : SpS Try.prog (Told.sp Try.prog) ∧ SpK (Told.sp Try.prog) :=
  tell_sound hm fun g hg => by
    simp only [List.mem_cons, List.not_mem_nil, or_false] at hg
    rcases hg with rfl | rfl
    · exact ⟨Try.f15, 60, by kernel_rfl, by kernel_rfl, by kernel_rfl, by kernel_rfl⟩
    · exact ⟨Try.f26, 60, by kernel_rfl, by kernel_rfl, by kernel_rfl, by kernel_rfl⟩
end Go.Ab

/- An array of whole numbers that came in by value. -/
namespace Go.Ab
open Go
theorem vr_ints {μ : Mu} {k : IntKind} (zs : List Int) : VR μ (.agg (zs.map (AV.int k))) (.agg (zs.map (Value.int k)).toArray) := by
  refine .agg (by simp) fun i x y hx hy => ?_
  simp only [List.getElem?_map, List.getElem?_toArray] at hx hy
  cases h : zs[i]? with
  | none => rw [h] at hx; cases hx
  | some z => rw [h] at hx hy; injection hx with hx; injection hy with hy; subst hx hy; exact .int ..
section
variable {H : Type} {enc : TypeId × Value → H} {P : Program} {w : World} {base : Nat} {spare : Nat → Bool} {held : Bool}
theorem ints_of {k : IntKind} : ∀ {l : List Value}, (∀ i (h : i < l.length), ∃ z : Int, l[i] = .int k z ∧ (Lit.int k z).wf = true) → ∃ zs : List Int, l = zs.map (Value.int k) ∧ ∀ z ∈ zs, (Lit.int k z).wf = true
  | [], _ => ⟨[], rfl, by simp⟩
  | v :: l, h => by
    obtain ⟨z, hz, hw⟩ := h 0 (by simp)
    obtain ⟨zs, hzs, hws⟩ := ints_of (l := l) fun i hi => h (i + 1) (by simp; omega)
    refine ⟨z :: zs, ?_, ?_⟩
    · rw [List.map_cons, ← hzs]
      simp at hz
      rw [hz]
    · intro y hy
      rcases List.mem_cons.1 hy with rfl | hy
      · exact hw
      · exact hws y hy
theorem open_arr {n : Nat} {t e : TypeId} {k : IntKind} {r : Reach} {b0 : Nat} {v : Value} {d : DataW H} {p : List MemPlace} (ht : P.underlying t = some (.array n e)) (he : P.underlying e = some (.int k)) (hC : P.cellsOf e = 1 ∧ P.cellsOf t = n)
    (hv : Value.okWide P w r b0 t v) (h : DataW.Trod enc P w base spare held t v d p) :
    ∃ zs : List Int, zs.length = n ∧ v = .agg (zs.map (Value.int k)).toArray ∧ ∀ z ∈ zs, (Lit.int k z).wf = true := by
  simp only [Value.okWide, ht] at hv
  obtain ⟨cs, rfl, hsz, _⟩ := hv
  obtain ⟨fuel, hf⟩ := h
  obtain ⟨xs, m, rfl, _, hl, hn, hg⟩ := DataW.trod_array ht hf
  simp only [Value.cells] at hl hg
  have hlen : cs.toList.length = n := by simpa [hC.2] using hsz
  obtain ⟨zs, hzs, hws⟩ := ints_of (k := k) (l := cs.toList) fun i hi => by
    have := hg i (by omega)
    rw [hC.1, Nat.mul_one, List.getElem?_eq_getElem (by omega)] at this
    obtain ⟨z, hz, _, hw⟩ := DataW.trod_int he this
    refine ⟨z, ?_, hw⟩
    rw [List.drop_eq_getElem_cons hi] at hz
    simp at hz
    simpa using hz
  refine ⟨zs, by rw [← hlen, hzs]; simp, ?_, hws⟩
  rw [← hzs]
theorem list1 {l : List Int} (h : l.length = 1) : ∃ a, l = [a] := by match l, h with | [a], _ => exact ⟨a, rfl⟩
theorem list2 {l : List Int} (h : l.length = 2) : ∃ a b, l = [a, b] := by match l, h with | [a, b], _ => exact ⟨a, b, rfl⟩
theorem list3 {l : List Int} (h : l.length = 3) : ∃ a b c, l = [a, b, c] := by match l, h with | [a, b, c], _ => exact ⟨a, b, c, rfl⟩
theorem list4 {l : List Int} (h : l.length = 4) : ∃ a b c d, l = [a, b, c, d] := by match l, h with | [a, b, c, d], _ => exact ⟨a, b, c, d, rfl⟩
end
end Go.Ab
