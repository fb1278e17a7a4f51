/- A part of the proof of the law ListParts: lemmas alone; what each says stands at it. No conditions. -/
import Derived.Test.YtpjhddieijfkaaaAbListParts1
import Derived.Test.YtpjhddieijfkaaaProg
set_option maxRecDepth 100000
set_option linter.unusedVariables false
namespace Go.Ab
open Go Go.Proofs
noncomputable instance toldTry : Told Try.prog := ⟨orTell (sortSp 60) [9,20]⟩
theorem f8_eq : ∀ (Γ : Gam) (k : Nat) (σ : Store) (h0 : Hdl) (i1 i2 i3 : Int),
  evBody Try.prog Γ drawn k Try.f8 [AV.slice h0, AV.agg [AV.int IntKind.i64 i1, AV.int IntKind.i64 i2, AV.int IntKind.i64 i3]] σ =
    Option.bind (Γ (Fun.fn 20) [] (Store.push σ [AV.int IntKind.i64 i1, AV.int IntKind.i64 i2, AV.int IntKind.i64 i3] 3)) fun x4 ↦
      Option.bind (AV.asBool (Prod.fst x4)) fun x5 ↦
        if (!x5) = true then some (AV.bool false, Prod.snd x4)
        else
          if decide (500 < (↑(Hdl.len h0) : Int)) = true then some (AV.bool true, Prod.snd x4)
          else
            Option.bind (Γ (Fun.fn 21) [AV.slice h0] (Prod.snd x4)) fun x6 ↦
              Option.bind (AV.item 0 2 (Prod.fst x6)) fun x7 ↦
                Option.bind (AV.asPtr x7) fun x8 ↦
                  Option.bind (AV.item 1 2 (Prod.fst x6)) fun x9 ↦
                    Option.bind (AV.asInt IntKind.i64 x9) fun x10 ↦
                      Option.bind (Store.ldInt (Prod.snd x6) IntKind.i64 (Ptr.add (some (List.length (Store.objs σ), 0)) 0)) fun x11 ↦
                        if IntKind.wrap IntKind.u64 (IntKind.wrap IntKind.i64 ((↑(Hdl.len h0) : Int) + 1)) = 0 then none
                        else
                          Option.bind (Store.ldInt (Prod.snd x6) IntKind.i64 (Ptr.add (some (List.length (Store.objs σ), 0)) 1)) fun x12 ↦
                            if IntKind.wrap IntKind.u64 (IntKind.wrap IntKind.i64 ((↑(Hdl.len h0) : Int) + 1)) = 0 then none
                            else
                              Option.bind (Store.ldInt (Prod.snd x6) IntKind.i64 (Ptr.add (some (List.length (Store.objs σ), 0)) 2)) fun x13 ↦
                                if IntKind.wrap IntKind.u64 (IntKind.wrap IntKind.i64 ((↑(Hdl.len h0) : Int) + 1)) = 0 then none
                                else
                                  Option.bind
                                    (Γ (Fun.fn 23)
                                      [AV.ptr x8, AV.int IntKind.i64 (mn2 (IntKind.wrap IntKind.i64 (Int.tmod (IntKind.wrap IntKind.u64 x11) (IntKind.wrap IntKind.u64 (IntKind.wrap IntKind.i64 ((↑(Hdl.len h0) : Int) + 1))))) (IntKind.wrap IntKind.i64 (Int.tmod (IntKind.wrap IntKind.u64 x13) (IntKind.wrap IntKind.u64 (IntKind.wrap IntKind.i64 ((↑(Hdl.len h0) : Int) + 1)))))),
                                        AV.int IntKind.i64
                                          (mx2 (mn2 (IntKind.wrap IntKind.i64 (Int.tmod (IntKind.wrap IntKind.u64 x11) (IntKind.wrap IntKind.u64 (IntKind.wrap IntKind.i64 ((↑(Hdl.len h0) : Int) + 1))))) (IntKind.wrap IntKind.i64 (Int.tmod (IntKind.wrap IntKind.u64 x13) (IntKind.wrap IntKind.u64 (IntKind.wrap IntKind.i64 ((↑(Hdl.len h0) : Int) + 1))))))
                                            (mn2 (IntKind.wrap IntKind.i64 (Int.tmod (IntKind.wrap IntKind.u64 x12) (IntKind.wrap IntKind.u64 (IntKind.wrap IntKind.i64 ((↑(Hdl.len h0) : Int) + 1)))))
                                              (mx2 (IntKind.wrap IntKind.i64 (Int.tmod (IntKind.wrap IntKind.u64 x11) (IntKind.wrap IntKind.u64 (IntKind.wrap IntKind.i64 ((↑(Hdl.len h0) : Int) + 1))))) (IntKind.wrap IntKind.i64 (Int.tmod (IntKind.wrap IntKind.u64 x13) (IntKind.wrap IntKind.u64 (IntKind.wrap IntKind.i64 ((↑(Hdl.len h0) : Int) + 1))))))))]
                                      (Store.push (Prod.snd x6) [] 1))
                                    fun x14 ↦
                                    Option.bind (AV.asSl (Prod.fst x14)) fun x15 ↦
                                      Option.bind (Store.readSl (Prod.snd x14) x15 1) fun x16 ↦
                                        Option.bind (Store.app (Prod.snd x14) { a := some (List.length (Store.objs (Prod.snd x6)), 0), len := 0, cap := some 0 } 1 8 x16 (Hdl.len x15)) fun x17 ↦
                                          Option.bind
                                            (Γ (Fun.fn 23)
                                              [AV.ptr x8,
                                                AV.int IntKind.i64
                                                  (mx2 (mn2 (IntKind.wrap IntKind.i64 (Int.tmod (IntKind.wrap IntKind.u64 x11) (IntKind.wrap IntKind.u64 (IntKind.wrap IntKind.i64 ((↑(Hdl.len h0) : Int) + 1))))) (IntKind.wrap IntKind.i64 (Int.tmod (IntKind.wrap IntKind.u64 x13) (IntKind.wrap IntKind.u64 (IntKind.wrap IntKind.i64 ((↑(Hdl.len h0) : Int) + 1))))))
                                                    (mn2 (IntKind.wrap IntKind.i64 (Int.tmod (IntKind.wrap IntKind.u64 x12) (IntKind.wrap IntKind.u64 (IntKind.wrap IntKind.i64 ((↑(Hdl.len h0) : Int) + 1)))))
                                                      (mx2 (IntKind.wrap IntKind.i64 (Int.tmod (IntKind.wrap IntKind.u64 x11) (IntKind.wrap IntKind.u64 (IntKind.wrap IntKind.i64 ((↑(Hdl.len h0) : Int) + 1))))) (IntKind.wrap IntKind.i64 (Int.tmod (IntKind.wrap IntKind.u64 x13) (IntKind.wrap IntKind.u64 (IntKind.wrap IntKind.i64 ((↑(Hdl.len h0) : Int) + 1)))))))),
                                                AV.int IntKind.i64 (mx2 (IntKind.wrap IntKind.i64 (Int.tmod (IntKind.wrap IntKind.u64 x11) (IntKind.wrap IntKind.u64 (IntKind.wrap IntKind.i64 ((↑(Hdl.len h0) : Int) + 1))))) (IntKind.wrap IntKind.i64 (Int.tmod (IntKind.wrap IntKind.u64 x13) (IntKind.wrap IntKind.u64 (IntKind.wrap IntKind.i64 ((↑(Hdl.len h0) : Int) + 1))))))]
                                              (Prod.snd x17))
                                            fun x18 ↦
                                            Option.bind (AV.asSl (Prod.fst x18)) fun x19 ↦
                                              Option.bind (Store.readSl (Prod.snd x18) x19 1) fun x20 ↦
                                                Option.bind (Store.app (Prod.snd x18) (Prod.fst x17) 1 8 x20 (Hdl.len x19)) fun x21 ↦
                                                  Option.bind
                                                    (Γ (Fun.fn 23)
                                                      [AV.ptr x8, AV.int IntKind.i64 (mn2 (IntKind.wrap IntKind.i64 (Int.tmod (IntKind.wrap IntKind.u64 x11) (IntKind.wrap IntKind.u64 (IntKind.wrap IntKind.i64 ((↑(Hdl.len h0) : Int) + 1))))) (IntKind.wrap IntKind.i64 (Int.tmod (IntKind.wrap IntKind.u64 x13) (IntKind.wrap IntKind.u64 (IntKind.wrap IntKind.i64 ((↑(Hdl.len h0) : Int) + 1)))))),
                                                        AV.int IntKind.i64 (mx2 (IntKind.wrap IntKind.i64 (Int.tmod (IntKind.wrap IntKind.u64 x11) (IntKind.wrap IntKind.u64 (IntKind.wrap IntKind.i64 ((↑(Hdl.len h0) : Int) + 1))))) (IntKind.wrap IntKind.i64 (Int.tmod (IntKind.wrap IntKind.u64 x13) (IntKind.wrap IntKind.u64 (IntKind.wrap IntKind.i64 ((↑(Hdl.len h0) : Int) + 1))))))]
                                                      (Prod.snd x21))
                                                    fun x22 ↦
                                                    Option.bind (AV.asSl (Prod.fst x22)) fun x23 ↦
                                                      Option.bind (Γ (Fun.fn 24) [AV.slice (Prod.fst x21), AV.int IntKind.i64 0, AV.int IntKind.i64 (↑(Hdl.len (Prod.fst x21)) : Int)] (Prod.snd x22)) fun x24 ↦
                                                        Option.bind (AV.asSl (Prod.fst x24)) fun x25 ↦ Option.bind (Γ (Fun.fn 22) [AV.slice x23, AV.slice x25] (Prod.snd x24)) fun x26 ↦ Option.bind (AV.asBool (Prod.fst x26)) fun x27 ↦ some (AV.bool x27, Prod.snd x26) := by intros; kernel_rfl

theorem f21_eq : ∀ (Γ : Gam) (k : Nat) (σ : Store) (h0 : Hdl),
  evBody Try.prog Γ drawn k Try.f21 [AV.slice h0] σ =
    Option.bind (Γ (Fun.fn 44) [AV.slice h0] σ) fun x1 ↦
      Option.bind (AV.asSl (Prod.fst x1)) fun x2 ↦
        Option.bind (Γ (Fun.fn 45) [AV.slice x2] (Prod.snd x1)) fun x3 ↦
          Option.bind (AV.item 0 2 (Prod.fst x3)) fun x4 ↦
            Option.bind (AV.asPtr x4) fun x5 ↦
              Option.bind (AV.item 1 2 (Prod.fst x3)) fun x6 ↦
                Option.bind (AV.asInt IntKind.i64 x6) fun x7 ↦
                  if decide (x7 ≠ 0) = true then some (AV.tuple [AV.ptr none, AV.int IntKind.i64 2], Prod.snd x3) else Option.bind (Γ (Fun.fn 28) [AV.slice h0] (Prod.snd x3)) fun x8 ↦ Option.bind (AV.asSl (Prod.fst x8)) fun x9 ↦ some (AV.tuple [AV.ptr (some (List.length (Store.objs (Prod.snd x8)), 0)), AV.int IntKind.i64 0], Store.push (Prod.snd x8) [AV.slice x9, AV.slice x2, AV.ptr x5] 3) := by intros; kernel_rfl

theorem f22_eq : ∀ (Γ : Gam) (k : Nat) (σ : Store) (h0 h1 : Hdl),
  evBody Try.prog Γ drawn k Try.f22 [AV.slice h0, AV.slice h1] σ = if decide ((↑(Hdl.len h0) : Int) ≠ (↑(Hdl.len h1) : Int)) = true then some (AV.bool false, σ) else Option.bind (loopF Try.prog Γ drawn k Try.f22 [1, 1, 0, 1, 0] [13, 12, 1, 0] ([AV.int IntKind.i64 0, AV.int IntKind.i64 (↑(Hdl.len h0) : Int), AV.slice h1, AV.slice h0], σ)) (contF Try.prog Γ drawn k Try.f22 [1, 1, 0, 1, 0]) := by intros; kernel_rfl

theorem f22_L11010 : ∀ (Γ : Gam) (k : Nat) (σ : Store) (i2 i3 : Int) (h4 h5 : Hdl),
  stepF Try.prog Γ drawn k Try.f22 [1, 1, 0, 1, 0] [13, 12, 1, 0] ([AV.int IntKind.i64 i2, AV.int IntKind.i64 i3, AV.slice h4, AV.slice h5], σ) =
    if decide (i2 < i3) = true then
      if 0 ≤ i2 ∧ i2 < (↑(Hdl.len h5) : Int) then
        Option.bind (Store.ldInt σ IntKind.i64 (Hdl.idx h5 i2 1)) fun x6 ↦
          if 0 ≤ i2 ∧ i2 < (↑(Hdl.len h4) : Int) then Option.bind (Store.ldInt σ IntKind.i64 (Hdl.idx h4 i2 1)) fun x7 ↦ if decide (x6 ≠ x7) = true then some (Sum.inr (AX.ret, [(4, AV.bool false)], σ)) else some (Sum.inl ([AV.int IntKind.i64 (IntKind.wrap IntKind.i64 (i2 + 1)), AV.int IntKind.i64 i3, AV.slice h4, AV.slice h5], σ)) else none
      else none
    else some (Sum.inr (AX.exit 0, [], σ)) := by intros; kernel_rfl

theorem f22_X11010_1 : ∀ (Γ : Gam) (k : Nat) (σ : Store) (b8 : Bool), contF Try.prog Γ drawn k Try.f22 [1, 1, 0, 1, 0] (AX.ret, [(4, AV.bool b8)], σ) = some (AV.bool b8, σ) := by intros; kernel_rfl

theorem f22_X11010_2 : ∀ (Γ : Gam) (k : Nat) (σ : Store), contF Try.prog Γ drawn k Try.f22 [1, 1, 0, 1, 0] (AX.exit 0, [], σ) = some (AV.bool true, σ) := by intros; kernel_rfl

theorem f23_eq : ∀ (Γ : Gam) (k : Nat) (σ : Store) (p0 : Ptr) (i1 i2 : Int),
  evBody Try.prog Γ drawn k Try.f23 [AV.ptr p0, AV.int IntKind.i64 i1, AV.int IntKind.i64 i2] σ =
    if Option.isNone p0 = true then some (AV.slice Hdl.nil, σ) else Option.bind p0 fun x3 ↦ Option.bind (Store.ldSl σ (Ptr.add (some x3) 0)) fun x4 ↦ Option.bind (Γ (Fun.fn 43) [AV.ptr p0, AV.int IntKind.i64 i1, AV.int IntKind.i64 i2, AV.int IntKind.i64 (↑(Hdl.len x4) : Int)] σ) fun x5 ↦ Option.bind (AV.asSl (Prod.fst x5)) fun x6 ↦ some (AV.slice x6, Prod.snd x5) := by intros; kernel_rfl

theorem f24_eq : ∀ (Γ : Gam) (k : Nat) (σ : Store) (h0 : Hdl) (i1 i2 : Int),
  evBody Try.prog Γ drawn k Try.f24 [AV.slice h0, AV.int IntKind.i64 i1, AV.int IntKind.i64 i2] σ = Option.bind (loopF Try.prog Γ drawn k Try.f24 [1, 1, 0, 1, 0] [14, 13, 12, 7, 2, 1] ([AV.int IntKind.i64 0, AV.int IntKind.i64 (↑(Hdl.len h0) : Int), AV.slice h0, AV.slice Hdl.nil, AV.int IntKind.i64 i2, AV.int IntKind.i64 i1], σ)) (contF Try.prog Γ drawn k Try.f24 [1, 1, 0, 1, 0]) := by intros; kernel_rfl

theorem f24_L11010 : ∀ (Γ : Gam) (k : Nat) (σ : Store) (i3 i4 : Int) (h5 h6 : Hdl) (i7 i8 : Int),
  stepF Try.prog Γ drawn k Try.f24 [1, 1, 0, 1, 0] [14, 13, 12, 7, 2, 1] ([AV.int IntKind.i64 i3, AV.int IntKind.i64 i4, AV.slice h5, AV.slice h6, AV.int IntKind.i64 i7, AV.int IntKind.i64 i8], σ) =
    if decide (i3 < i4) = true then
      if 0 ≤ i3 ∧ i3 < (↑(Hdl.len h5) : Int) then
        Option.bind (Store.ldInt σ IntKind.i64 (Hdl.idx h5 i3 1)) fun x9 ↦
          if decide (i3 < i8) = true then some (Sum.inl ([AV.int IntKind.i64 (IntKind.wrap IntKind.i64 (i3 + 1)), AV.int IntKind.i64 i4, AV.slice h5, AV.slice h6, AV.int IntKind.i64 i7, AV.int IntKind.i64 i8], σ))
          else
            if decide (i7 ≤ i3) = true then some (Sum.inl ([AV.int IntKind.i64 (IntKind.wrap IntKind.i64 (i3 + 1)), AV.int IntKind.i64 i4, AV.slice h5, AV.slice h6, AV.int IntKind.i64 i7, AV.int IntKind.i64 i8], σ))
            else
              Option.bind (loopF Try.prog Γ drawn k Try.f24 [1, 1, 0, 1, 0, 0, 1, 1, 0, 0, 1, 1, 1, 0, 0] [14, 13, 12, 10, 9, 7, 2, 1] ([AV.int IntKind.i64 i3, AV.int IntKind.i64 i4, AV.slice h5, AV.int IntKind.i64 0, AV.int IntKind.i64 x9, AV.slice h6, AV.int IntKind.i64 i7, AV.int IntKind.i64 i8], σ))
                (contFL Try.prog Γ drawn k Try.f24 [1, 1, 0, 1, 0] [14, 13, 12, 7, 2, 1] [1, 1, 0, 0, 1, 1, 1, 0, 0])
      else none
    else some (Sum.inr (AX.exit 0, [(7, AV.slice h6)], σ)) := by intros; kernel_rfl

theorem f24_X11010_1 : ∀ (Γ : Gam) (k : Nat) (σ : Store) (h10 : Hdl), contF Try.prog Γ drawn k Try.f24 [1, 1, 0, 1, 0] (AX.exit 0, [(7, AV.slice h10)], σ) = some (AV.slice h10, σ) := by intros; kernel_rfl

theorem f24_L110100110011100 : ∀ (Γ : Gam) (k : Nat) (σ : Store) (i11 i12 : Int) (h13 : Hdl) (i14 i15 : Int) (h16 : Hdl) (i17 i18 : Int),
  stepF Try.prog Γ drawn k Try.f24 [1, 1, 0, 1, 0, 0, 1, 1, 0, 0, 1, 1, 1, 0, 0] [14, 13, 12, 10, 9, 7, 2, 1] ([AV.int IntKind.i64 i11, AV.int IntKind.i64 i12, AV.slice h13, AV.int IntKind.i64 i14, AV.int IntKind.i64 i15, AV.slice h16, AV.int IntKind.i64 i17, AV.int IntKind.i64 i18], σ) =
    if decide (i14 < (↑(Hdl.len h16) : Int)) = true then
      if 0 ≤ i14 ∧ i14 < (↑(Hdl.len h16) : Int) then
        Option.bind (Store.ldInt σ IntKind.i64 (Hdl.idx h16 i14 1)) fun x19 ↦
          if decide (x19 < i15) = true then some (Sum.inl ([AV.int IntKind.i64 i11, AV.int IntKind.i64 i12, AV.slice h13, AV.int IntKind.i64 (IntKind.wrap IntKind.i64 (i14 + 1)), AV.int IntKind.i64 i15, AV.slice h16, AV.int IntKind.i64 i17, AV.int IntKind.i64 i18], σ))
          else some (Sum.inr (AX.exit 2, [(14, AV.int IntKind.i64 i11), (13, AV.int IntKind.i64 i12), (12, AV.slice h13), (10, AV.int IntKind.i64 i14), (9, AV.int IntKind.i64 i15), (7, AV.slice h16), (2, AV.int IntKind.i64 i17), (1, AV.int IntKind.i64 i18)], σ))
      else none
    else some (Sum.inr (AX.exit 2, [(14, AV.int IntKind.i64 i11), (13, AV.int IntKind.i64 i12), (12, AV.slice h13), (10, AV.int IntKind.i64 i14), (9, AV.int IntKind.i64 i15), (7, AV.slice h16), (2, AV.int IntKind.i64 i17), (1, AV.int IntKind.i64 i18)], σ)) := by intros; kernel_rfl

theorem f24_X110100110011100_1 : ∀ (Γ : Gam) (k : Nat) (σ : Store) (i20 i21 : Int) (h22 : Hdl) (i23 i24 : Int) (h25 : Hdl) (i26 i27 : Int),
  contFL Try.prog Γ drawn k Try.f24 [1, 1, 0, 1, 0] [14, 13, 12, 7, 2, 1] [1, 1, 0, 0, 1, 1, 1, 0, 0] (AX.exit 2, [(14, AV.int IntKind.i64 i20), (13, AV.int IntKind.i64 i21), (12, AV.slice h22), (10, AV.int IntKind.i64 i23), (9, AV.int IntKind.i64 i24), (7, AV.slice h25), (2, AV.int IntKind.i64 i26), (1, AV.int IntKind.i64 i27)], σ) =
    if decide (i23 < (↑(Hdl.len h25) : Int)) = true then
      if 0 ≤ i23 ∧ i23 < (↑(Hdl.len h25) : Int) then
        Option.bind (Store.ldInt σ IntKind.i64 (Hdl.idx h25 i23 1)) fun x28 ↦
          if decide (x28 = i24) = true then some (Sum.inl ([AV.int IntKind.i64 (IntKind.wrap IntKind.i64 (i20 + 1)), AV.int IntKind.i64 i21, AV.slice h22, AV.slice h25, AV.int IntKind.i64 i26, AV.int IntKind.i64 i27], σ))
          else
            Option.bind (Store.readSl (Store.push σ [AV.int IntKind.i64 0] 1) { a := some (List.length (Store.objs σ), 0), len := 1, cap := some 1 } 1) fun x29 ↦
              Option.bind (Store.app (Store.push σ [AV.int IntKind.i64 0] 1) h25 1 8 x29 1) fun x30 ↦
                Option.bind
                  (loopF Try.prog Γ drawn k Try.f24 [1, 1, 0, 1, 0, 0, 1, 1, 0, 0, 1, 1, 1, 1, 1, 1, 0, 1, 0] [14, 13, 12, 11, 10, 9, 7, 2, 1]
                    ([AV.int IntKind.i64 i20, AV.int IntKind.i64 i21, AV.slice h22, AV.int IntKind.i64 (IntKind.wrap IntKind.i64 ((↑(Hdl.len (Prod.fst x30)) : Int) - 1)), AV.int IntKind.i64 i23, AV.int IntKind.i64 i24, AV.slice (Prod.fst x30), AV.int IntKind.i64 i26, AV.int IntKind.i64 i27], Prod.snd x30))
                  (contFL Try.prog Γ drawn k Try.f24 [1, 1, 0, 1, 0] [14, 13, 12, 7, 2, 1] [1, 1, 0, 0, 1, 1, 1, 1, 1, 1, 0, 1, 0])
      else none
    else
      Option.bind (Store.readSl (Store.push σ [AV.int IntKind.i64 0] 1) { a := some (List.length (Store.objs σ), 0), len := 1, cap := some 1 } 1) fun x31 ↦
        Option.bind (Store.app (Store.push σ [AV.int IntKind.i64 0] 1) h25 1 8 x31 1) fun x32 ↦
          Option.bind
            (loopF Try.prog Γ drawn k Try.f24 [1, 1, 0, 1, 0, 0, 1, 1, 0, 0, 1, 1, 1, 1, 1, 1, 0, 1, 0] [14, 13, 12, 11, 10, 9, 7, 2, 1]
              ([AV.int IntKind.i64 i20, AV.int IntKind.i64 i21, AV.slice h22, AV.int IntKind.i64 (IntKind.wrap IntKind.i64 ((↑(Hdl.len (Prod.fst x32)) : Int) - 1)), AV.int IntKind.i64 i23, AV.int IntKind.i64 i24, AV.slice (Prod.fst x32), AV.int IntKind.i64 i26, AV.int IntKind.i64 i27], Prod.snd x32))
            (contFL Try.prog Γ drawn k Try.f24 [1, 1, 0, 1, 0] [14, 13, 12, 7, 2, 1] [1, 1, 0, 0, 1, 1, 1, 1, 1, 1, 0, 1, 0]) := by intros; kernel_rfl

theorem f24_L1101001100111111010 : ∀ (Γ : Gam) (k : Nat) (σ : Store) (i33 i34 : Int) (h35 : Hdl) (i36 i37 i38 : Int) (h39 : Hdl) (i40 i41 : Int),
  stepF Try.prog Γ drawn k Try.f24 [1, 1, 0, 1, 0, 0, 1, 1, 0, 0, 1, 1, 1, 1, 1, 1, 0, 1, 0] [14, 13, 12, 11, 10, 9, 7, 2, 1] ([AV.int IntKind.i64 i33, AV.int IntKind.i64 i34, AV.slice h35, AV.int IntKind.i64 i36, AV.int IntKind.i64 i37, AV.int IntKind.i64 i38, AV.slice h39, AV.int IntKind.i64 i40, AV.int IntKind.i64 i41], σ) =
    if decide (i37 < i36) = true then
      if 0 ≤ IntKind.wrap IntKind.i64 (i36 - 1) ∧ IntKind.wrap IntKind.i64 (i36 - 1) < (↑(Hdl.len h39) : Int) then
        Option.bind (Store.ldInt σ IntKind.i64 (Hdl.idx h39 (IntKind.wrap IntKind.i64 (i36 - 1)) 1)) fun x42 ↦
          if 0 ≤ i36 ∧ i36 < (↑(Hdl.len h39) : Int) then Option.bind (Store.stL σ (Hdl.idx h39 i36 1) [AV.int IntKind.i64 x42] 0) fun x43 ↦ some (Sum.inl ([AV.int IntKind.i64 i33, AV.int IntKind.i64 i34, AV.slice h35, AV.int IntKind.i64 (IntKind.wrap IntKind.i64 (i36 - 1)), AV.int IntKind.i64 i37, AV.int IntKind.i64 i38, AV.slice h39, AV.int IntKind.i64 i40, AV.int IntKind.i64 i41], x43))
          else none
      else none
    else some (Sum.inr (AX.exit 4, [(14, AV.int IntKind.i64 i33), (13, AV.int IntKind.i64 i34), (12, AV.slice h35), (10, AV.int IntKind.i64 i37), (9, AV.int IntKind.i64 i38), (7, AV.slice h39), (2, AV.int IntKind.i64 i40), (1, AV.int IntKind.i64 i41)], σ)) := by intros; kernel_rfl

theorem f24_X1101001100111111010_1 : ∀ (Γ : Gam) (k : Nat) (σ : Store) (i44 i45 : Int) (h46 : Hdl) (i47 i48 : Int) (h49 : Hdl) (i50 i51 : Int),
  contFL Try.prog Γ drawn k Try.f24 [1, 1, 0, 1, 0] [14, 13, 12, 7, 2, 1] [1, 1, 0, 0, 1, 1, 1, 1, 1, 1, 0, 1, 0] (AX.exit 4, [(14, AV.int IntKind.i64 i44), (13, AV.int IntKind.i64 i45), (12, AV.slice h46), (10, AV.int IntKind.i64 i47), (9, AV.int IntKind.i64 i48), (7, AV.slice h49), (2, AV.int IntKind.i64 i50), (1, AV.int IntKind.i64 i51)], σ) =
    if 0 ≤ i47 ∧ i47 < (↑(Hdl.len h49) : Int) then Option.bind (Store.stL σ (Hdl.idx h49 i47 1) [AV.int IntKind.i64 i48] 0) fun x52 ↦ some (Sum.inl ([AV.int IntKind.i64 (IntKind.wrap IntKind.i64 (i44 + 1)), AV.int IntKind.i64 i45, AV.slice h46, AV.slice h49, AV.int IntKind.i64 i50, AV.int IntKind.i64 i51], x52)) else none := by intros; kernel_rfl

theorem f28_eq : ∀ (Γ : Gam) (k : Nat) (σ : Store) (h0 : Hdl),
  evBody Try.prog Γ drawn k Try.f28 [AV.slice h0] σ = if Option.isNone (Hdl.a h0) = true then some (AV.slice Hdl.nil, σ) else Option.bind (Store.readSl (Store.push σ [] 1) h0 1) fun x1 ↦ Option.bind (Store.app (Store.push σ [] 1) { a := some (List.length (Store.objs σ), 0), len := 0, cap := some 0 } 1 8 x1 (Hdl.len h0)) fun x2 ↦ some (AV.slice (Prod.fst x2), Prod.snd x2) := by intros; kernel_rfl

theorem f43_eq : ∀ (Γ : Gam) (k : Nat) (σ : Store) (p0 : Ptr) (i1 i2 i3 : Int),
  evBody Try.prog Γ drawn k Try.f43 [AV.ptr p0, AV.int IntKind.i64 i1, AV.int IntKind.i64 i2, AV.int IntKind.i64 i3] σ =
    if Option.isNone p0 = true then some (AV.slice Hdl.nil, σ)
    else
      Option.bind p0 fun x4 ↦
        Option.bind (Store.ldSl σ (Ptr.add (some x4) 0)) fun x5 ↦
          Option.bind (loopF Try.prog Γ drawn k Try.f43 [1, 1, 1, 1, 0, 1, 0] [10, 9, 3, 1, 0] ([AV.slice { a := some (List.length (Store.objs σ), 0), len := 1, cap := some 1 }, AV.slice Hdl.nil, AV.int IntKind.i64 i3, AV.int IntKind.i64 (mx2 i1 0), AV.ptr p0], Store.push σ [AV.int IntKind.i64 (mx2 i1 0), AV.int IntKind.i64 (mn2 i2 (↑(Hdl.len x5) : Int))] 2))
            (contF Try.prog Γ drawn k Try.f43 [1, 1, 1, 1, 0, 1, 0]) := by intros; kernel_rfl

theorem f43_L1111010 : ∀ (Γ : Gam) (k : Nat) (σ : Store) (h6 h7 : Hdl) (i8 i9 : Int) (p10 : Ptr),
  stepF Try.prog Γ drawn k Try.f43 [1, 1, 1, 1, 0, 1, 0] [10, 9, 3, 1, 0] ([AV.slice h6, AV.slice h7, AV.int IntKind.i64 i8, AV.int IntKind.i64 i9, AV.ptr p10], σ) =
    if decide (0 < (↑(Hdl.len h6) : Int)) = true then
      if decide ((↑(Hdl.len h7) : Int) < i8) = true then
        if 0 ≤ IntKind.wrap IntKind.i64 ((↑(Hdl.len h6) : Int) - 1) ∧ IntKind.wrap IntKind.i64 ((↑(Hdl.len h6) : Int) - 1) < (↑(Hdl.len h6) : Int) then
          Option.bind (Store.ldInt σ IntKind.i64 (Ptr.add (Hdl.idx h6 (IntKind.wrap IntKind.i64 ((↑(Hdl.len h6) : Int) - 1)) 2) 0)) fun x11 ↦
            Option.bind (Store.ldInt σ IntKind.i64 (Ptr.add (Hdl.idx h6 (IntKind.wrap IntKind.i64 ((↑(Hdl.len h6) : Int) - 1)) 2) 1)) fun x12 ↦
              Option.bind (Store.stL (Store.push σ [AV.int IntKind.i64 0, AV.int IntKind.i64 0] 2) (some (List.length (Store.objs σ), 0)) [AV.int IntKind.i64 x11, AV.int IntKind.i64 x12] 0) fun x13 ↦
                Option.bind (Store.sub x13 h6 2 none (some (IntKind.wrap IntKind.i64 ((↑(Hdl.len h6) : Int) - 1))) none) fun x14 ↦
                  Option.bind p10 fun x15 ↦
                    Option.bind (Store.ldPtr x13 (Ptr.add (some x15) 2)) fun x16 ↦
                      Option.bind (Store.ldInt x13 IntKind.i64 (Ptr.add (some (List.length (Store.objs σ), 0)) 0)) fun x17 ↦
                        Option.bind (Store.ldInt x13 IntKind.i64 (Ptr.add (some (List.length (Store.objs σ), 0)) 1)) fun x18 ↦
                          Option.bind (Γ (Fun.fn 59) [AV.ptr x16, AV.int IntKind.i64 x17, AV.int IntKind.i64 x18] x13) fun x19 ↦
                            Option.bind (AV.asInt IntKind.i64 (Prod.fst x19)) fun x20 ↦
                              if decide (x20 < 0) = true then some (Sum.inl ([AV.slice x14, AV.slice h7, AV.int IntKind.i64 i8, AV.int IntKind.i64 i9, AV.ptr p10], Prod.snd x19))
                              else
                                Option.bind p10 fun x21 ↦
                                  Option.bind (Store.ldSl (Prod.snd x19) (Ptr.add (some x21) 1)) fun x22 ↦
                                    if 0 ≤ x20 ∧ x20 < (↑(Hdl.len x22) : Int) then
                                      Option.bind (Store.ldInt (Prod.snd x19) IntKind.i64 (Hdl.idx x22 x20 1)) fun x23 ↦
                                        if decide (i9 ≤ x23) = true then some (Sum.inl ([AV.slice x14, AV.slice h7, AV.int IntKind.i64 i8, AV.int IntKind.i64 i9, AV.ptr p10], Prod.snd x19))
                                        else
                                          Option.bind p10 fun x24 ↦
                                            Option.bind (Store.ldSl (Prod.snd x19) (Ptr.add (some x24) 0)) fun x25 ↦
                                              if 0 ≤ x20 ∧ x20 < (↑(Hdl.len x25) : Int) then
                                                Option.bind (Store.ldInt (Prod.snd x19) IntKind.i64 (Hdl.idx x25 x20 1)) fun x26 ↦
                                                  Option.bind (Store.readSl (Store.push (Prod.snd x19) [AV.int IntKind.i64 x26] 1) { a := some (List.length (Store.objs (Prod.snd x19)), 0), len := 1, cap := some 1 } 1) fun x27 ↦
                                                    Option.bind (Store.app (Store.push (Prod.snd x19) [AV.int IntKind.i64 x26] 1) h7 1 8 x27 1) fun x28 ↦
                                                      Option.bind (Store.ldInt (Prod.snd x28) IntKind.i64 (Ptr.add (some (List.length (Store.objs σ), 0)) 0)) fun x29 ↦
                                                        Option.bind (Store.ldInt (Prod.snd x28) IntKind.i64 (Ptr.add (some (List.length (Store.objs σ), 0)) 1)) fun x30 ↦
                                                          Option.bind (Store.readSl (Store.push (Prod.snd x28) [AV.int IntKind.i64 x29, AV.int IntKind.i64 x20, AV.int IntKind.i64 (IntKind.wrap IntKind.i64 (x20 + 1)), AV.int IntKind.i64 x30] 2) { a := some (List.length (Store.objs (Prod.snd x28)), 0), len := 2, cap := some 2 } 2) fun x31 ↦
                                                            Option.bind (Store.app (Store.push (Prod.snd x28) [AV.int IntKind.i64 x29, AV.int IntKind.i64 x20, AV.int IntKind.i64 (IntKind.wrap IntKind.i64 (x20 + 1)), AV.int IntKind.i64 x30] 2) x14 2 16 x31 2) fun x32 ↦
                                                              some (Sum.inl ([AV.slice (Prod.fst x32), AV.slice (Prod.fst x28), AV.int IntKind.i64 i8, AV.int IntKind.i64 i9, AV.ptr p10], Prod.snd x32))
                                              else none
                                    else none
        else none
      else some (Sum.inr (AX.exit 0, [(9, AV.slice h7)], σ))
    else some (Sum.inr (AX.exit 0, [(9, AV.slice h7)], σ)) := by intros; kernel_rfl

theorem f43_X1111010_1 : ∀ (Γ : Gam) (k : Nat) (σ : Store) (h33 : Hdl), contF Try.prog Γ drawn k Try.f43 [1, 1, 1, 1, 0, 1, 0] (AX.exit 0, [(9, AV.slice h33)], σ) = Option.bind (Γ (Fun.fn 60) [AV.slice h33] σ) fun x34 ↦ some (AV.slice h33, Prod.snd x34) := by intros; kernel_rfl

theorem f44_eq : ∀ (Γ : Gam) (k : Nat) (σ : Store) (h0 : Hdl),
  evBody Try.prog Γ drawn k Try.f44 [AV.slice h0] σ =
    if ((0 : Int) ≤ (↑(Hdl.len h0) : Int) ∧ (↑(Hdl.len h0) : Int) ≤ (↑(Hdl.len h0) : Int)) ∧ (↑(Hdl.len h0) : Int) * (↑(8 : Nat) : Int) ≤ (281474976710656 : Int) then
      Option.bind
        (loopF Try.prog Γ drawn k Try.f44 [(1 : Nat), (1 : Nat), (1 : Nat), (0 : Nat), (1 : Nat), (0 : Nat)] [(15 : Nat), (14 : Nat), (13 : Nat), (4 : Nat), (3 : Nat)]
          ([AV.int IntKind.i64 (0 : Int), AV.int IntKind.i64 (↑(Hdl.len h0) : Int), AV.slice h0, AV.slice { a := some (List.length (Store.objs σ ++ [AObj.map []]), (0 : Nat)), len := Int.toNat (↑(Hdl.len h0) : Int), cap := some (Int.toNat (↑(Hdl.len h0) : Int)) }, AV.map (some (List.length (Store.objs σ)))],
            Store.push { objs := Store.objs σ ++ [AObj.map []], prot := Store.prot σ } (mkCells [AV.int IntKind.i64 (0 : Int)] (Int.toNat (↑(Hdl.len h0) : Int))) (1 : Nat)))
        (contF Try.prog Γ drawn k Try.f44 [(1 : Nat), (1 : Nat), (1 : Nat), (0 : Nat), (1 : Nat), (0 : Nat)])
    else none := by intros; kernel_rfl

theorem f44_L111010 : ∀ (Γ : Gam) (k : Nat) (σ : Store) (i1 i2 : Int) (h3 h4 : Hdl) (m5 : Option Nat),
  stepF Try.prog Γ drawn k Try.f44 [1, 1, 1, 0, 1, 0] [15, 14, 13, 4, 3] ([AV.int IntKind.i64 i1, AV.int IntKind.i64 i2, AV.slice h3, AV.slice h4, AV.map m5], σ) =
    if decide (i1 < i2) = true then
      if 0 ≤ i1 ∧ i1 < (↑(Hdl.len h3) : Int) then
        Option.bind (Store.ldInt σ IntKind.i64 (Hdl.idx h3 i1 1)) fun x6 ↦
          Option.bind (Store.look σ m5 IntKind.i64 x6) fun x7 ↦
            if AV.isO x7 = true then
              Option.bind (AV.asInt IntKind.i64 (AV.ofO x7)) fun x8 ↦
                if 0 ≤ i1 ∧ i1 < (↑(Hdl.len h4) : Int) then Option.bind (Store.stL σ (Hdl.idx h4 i1 1) [AV.int IntKind.i64 x8] 0) fun x9 ↦ Option.bind (Store.upd x9 m5 IntKind.i64 x6 (AV.int IntKind.i64 i1)) fun x10 ↦ some (Sum.inl ([AV.int IntKind.i64 (IntKind.wrap IntKind.i64 (i1 + 1)), AV.int IntKind.i64 i2, AV.slice h3, AV.slice h4, AV.map m5], x10)) else none
            else if 0 ≤ i1 ∧ i1 < (↑(Hdl.len h4) : Int) then Option.bind (Store.stL σ (Hdl.idx h4 i1 1) [AV.int IntKind.i64 (-1)] 0) fun x11 ↦ Option.bind (Store.upd x11 m5 IntKind.i64 x6 (AV.int IntKind.i64 i1)) fun x12 ↦ some (Sum.inl ([AV.int IntKind.i64 (IntKind.wrap IntKind.i64 (i1 + 1)), AV.int IntKind.i64 i2, AV.slice h3, AV.slice h4, AV.map m5], x12)) else none
      else none
    else some (Sum.inr (AX.exit 0, [(4, AV.slice h4)], σ)) := by intros; kernel_rfl

theorem f44_X111010_1 : ∀ (Γ : Gam) (k : Nat) (σ : Store) (h13 : Hdl), contF Try.prog Γ drawn k Try.f44 [1, 1, 1, 0, 1, 0] (AX.exit 0, [(4, AV.slice h13)], σ) = some (AV.slice h13, σ) := by intros; kernel_rfl

theorem f45_eq : ∀ (Γ : Gam) (k : Nat) (σ : Store) (h0 : Hdl),
  evBody Try.prog Γ drawn k Try.f45 [AV.slice h0] σ =
    if decide (4194304 < (↑(Hdl.len h0) : Int)) = true then some (AV.tuple [AV.ptr none, AV.int IntKind.i64 2], σ)
    else
      Option.bind (Γ (Fun.fn 28) [AV.slice h0] σ) fun x1 ↦
        Option.bind (AV.asSl (Prod.fst x1)) fun x2 ↦ Option.bind (loopF Try.prog Γ drawn k Try.f45 [1, 1, 1, 1, 0, 1, 0] [6, 5, 4, 0] ([AV.int IntKind.i64 0, AV.slice Hdl.nil, AV.ptr (some (List.length (Store.objs (Prod.snd x1)), 0)), AV.slice h0], Store.push (Prod.snd x1) [AV.slice x2, AV.slice Hdl.nil] 2)) (contF Try.prog Γ drawn k Try.f45 [1, 1, 1, 1, 0, 1, 0]) := by intros; kernel_rfl

theorem f45_L1111010 : ∀ (Γ : Gam) (k : Nat) (σ : Store) (i3 : Int) (h4 : Hdl) (p5 : Ptr) (h6 : Hdl),
  stepF Try.prog Γ drawn k Try.f45 [1, 1, 1, 1, 0, 1, 0] [6, 5, 4, 0] ([AV.int IntKind.i64 i3, AV.slice h4, AV.ptr p5, AV.slice h6], σ) =
    if decide (i3 < (↑(Hdl.len h6) : Int)) = true then
      Option.bind (Γ (Fun.fn 61) [AV.ptr p5, AV.int IntKind.i64 i3, AV.int IntKind.i64 (mn2 (IntKind.wrap IntKind.i64 (i3 + 32)) (↑(Hdl.len h6) : Int))] σ) fun x7 ↦
        Option.bind (AV.asInt IntKind.i64 (Prod.fst x7)) fun x8 ↦
          Option.bind (Store.readSl (Store.push (Prod.snd x7) [AV.int IntKind.i64 x8] 1) { a := some (List.length (Store.objs (Prod.snd x7)), 0), len := 1, cap := some 1 } 1) fun x9 ↦
            Option.bind (Store.app (Store.push (Prod.snd x7) [AV.int IntKind.i64 x8] 1) h4 1 8 x9 1) fun x10 ↦ some (Sum.inl ([AV.int IntKind.i64 (IntKind.wrap IntKind.i64 (i3 + 32)), AV.slice (Prod.fst x10), AV.ptr p5, AV.slice h6], Prod.snd x10))
    else some (Sum.inr (AX.exit 0, [(5, AV.slice h4), (4, AV.ptr p5)], σ)) := by intros; kernel_rfl

theorem f45_X1111010_1 : ∀ (Γ : Gam) (k : Nat) (σ : Store) (h11 : Hdl) (p12 : Ptr), contF Try.prog Γ drawn k Try.f45 [1, 1, 1, 1, 0, 1, 0] (AX.exit 0, [(5, AV.slice h11), (4, AV.ptr p12)], σ) = Option.bind (loopF Try.prog Γ drawn k Try.f45 [1, 1, 1, 1, 1, 0, 1, 0] [7, 5, 4] ([AV.int IntKind.i64 1, AV.slice h11, AV.ptr p12], σ)) (contF Try.prog Γ drawn k Try.f45 [1, 1, 1, 1, 1, 0, 1, 0]) := by intros; kernel_rfl

theorem f45_L11111010 : ∀ (Γ : Gam) (k : Nat) (σ : Store) (i13 : Int) (h14 : Hdl) (p15 : Ptr),
  stepF Try.prog Γ drawn k Try.f45 [1, 1, 1, 1, 1, 0, 1, 0] [7, 5, 4] ([AV.int IntKind.i64 i13, AV.slice h14, AV.ptr p15], σ) =
    if decide (0 < (↑(Hdl.len h14) : Int)) = true then
      Option.bind p15 fun x16 ↦
        Option.bind (Store.ldSl σ (Ptr.add (some x16) 1)) fun x17 ↦
          Option.bind (Store.readSl (Store.push σ [AV.slice h14] 1) { a := some (List.length (Store.objs σ), 0), len := 1, cap := some 1 } 1) fun x18 ↦
            Option.bind (Store.app (Store.push σ [AV.slice h14] 1) x17 1 24 x18 1) fun x19 ↦
              Option.bind p15 fun x20 ↦
                Option.bind (Store.stL (Prod.snd x19) (Ptr.add (some x20) 1) [AV.slice (Prod.fst x19)] 0) fun x21 ↦
                  Option.bind (loopF Try.prog Γ drawn k Try.f45 [1, 1, 1, 1, 1, 0, 1, 0, 0, 1, 0, 0, 1, 1, 0, 1, 0] [9, 8, 7, 5, 4] ([AV.int IntKind.i64 0, AV.slice Hdl.nil, AV.int IntKind.i64 i13, AV.slice h14, AV.ptr p15], x21)) (contFL Try.prog Γ drawn k Try.f45 [1, 1, 1, 1, 1, 0, 1, 0] [7, 5, 4] [1, 0, 0, 1, 1, 0, 1, 0])
    else some (Sum.inr (AX.exit 2, [(4, AV.ptr p15)], σ)) := by intros; kernel_rfl

theorem f45_X11111010_1 : ∀ (Γ : Gam) (k : Nat) (σ : Store) (p22 : Ptr), contF Try.prog Γ drawn k Try.f45 [1, 1, 1, 1, 1, 0, 1, 0] (AX.exit 2, [(4, AV.ptr p22)], σ) = some (AV.tuple [AV.ptr p22, AV.int IntKind.i64 0], σ) := by intros; kernel_rfl

theorem f45_L11111010010011010 : ∀ (Γ : Gam) (k : Nat) (σ : Store) (i23 : Int) (h24 : Hdl) (i25 : Int) (h26 : Hdl) (p27 : Ptr),
  stepF Try.prog Γ drawn k Try.f45 [1, 1, 1, 1, 1, 0, 1, 0, 0, 1, 0, 0, 1, 1, 0, 1, 0] [9, 8, 7, 5, 4] ([AV.int IntKind.i64 i23, AV.slice h24, AV.int IntKind.i64 i25, AV.slice h26, AV.ptr p27], σ) =
    if decide (IntKind.wrap IntKind.i64 (i23 + i25) < (↑(Hdl.len h26) : Int)) = true then
      if 0 ≤ i23 ∧ i23 < (↑(Hdl.len h26) : Int) then
        Option.bind (Store.ldInt σ IntKind.i64 (Hdl.idx h26 i23 1)) fun x28 ↦
          if 0 ≤ IntKind.wrap IntKind.i64 (i23 + i25) ∧ IntKind.wrap IntKind.i64 (i23 + i25) < (↑(Hdl.len h26) : Int) then
            Option.bind (Store.ldInt σ IntKind.i64 (Hdl.idx h26 (IntKind.wrap IntKind.i64 (i23 + i25)) 1)) fun x29 ↦
              Option.bind (Γ (Fun.fn 62) [AV.ptr p27, AV.int IntKind.i64 x28, AV.int IntKind.i64 x29] σ) fun x30 ↦
                Option.bind (AV.asInt IntKind.i64 (Prod.fst x30)) fun x31 ↦
                  Option.bind (Store.readSl (Store.push (Prod.snd x30) [AV.int IntKind.i64 x31] 1) { a := some (List.length (Store.objs (Prod.snd x30)), 0), len := 1, cap := some 1 } 1) fun x32 ↦
                    Option.bind (Store.app (Store.push (Prod.snd x30) [AV.int IntKind.i64 x31] 1) h24 1 8 x32 1) fun x33 ↦ some (Sum.inl ([AV.int IntKind.i64 (IntKind.wrap IntKind.i64 (i23 + 1)), AV.slice (Prod.fst x33), AV.int IntKind.i64 i25, AV.slice h26, AV.ptr p27], Prod.snd x33))
          else none
      else none
    else some (Sum.inr (AX.exit 4, [(8, AV.slice h24), (7, AV.int IntKind.i64 i25), (4, AV.ptr p27)], σ)) := by intros; kernel_rfl

theorem f45_X11111010010011010_1 : ∀ (Γ : Gam) (k : Nat) (σ : Store) (h34 : Hdl) (i35 : Int) (p36 : Ptr), contFL Try.prog Γ drawn k Try.f45 [1, 1, 1, 1, 1, 0, 1, 0] [7, 5, 4] [1, 0, 0, 1, 1, 0, 1, 0] (AX.exit 4, [(8, AV.slice h34), (7, AV.int IntKind.i64 i35), (4, AV.ptr p36)], σ) = some (Sum.inl ([AV.int IntKind.i64 (IntKind.wrap IntKind.i64 (i35 * 2)), AV.slice h34, AV.ptr p36], σ)) := by intros; kernel_rfl

theorem f47_eq : ∀ (Γ : Gam) (k : Nat) (σ : Store) (i0 : Int),
  evBody Try.prog Γ drawn k Try.f47 [AV.int IntKind.u64 i0] σ =
    if decide (4294967296 ≤ i0) = true then
      if decide (65536 ≤ shrI IntKind.u64 i0 32) = true then
        if decide (256 ≤ shrI IntKind.u64 (shrI IntKind.u64 i0 32) 16) = true then
          if 0 ≤ IntKind.wrap IntKind.u8 (shrI IntKind.u64 (shrI IntKind.u64 (shrI IntKind.u64 i0 32) 16) 8) then
            Option.bind
              (strAt
                len8tab
                (Int.toNat (IntKind.wrap IntKind.u8 (shrI IntKind.u64 (shrI IntKind.u64 (shrI IntKind.u64 i0 32) 16) 8))))
              fun x1 ↦ some (AV.int IntKind.i64 (IntKind.wrap IntKind.i64 (IntKind.wrap IntKind.i64 (IntKind.wrap IntKind.i64 (32 + 16) + 8) + IntKind.wrap IntKind.i64 x1)), σ)
          else none
        else
          if 0 ≤ IntKind.wrap IntKind.u8 (shrI IntKind.u64 (shrI IntKind.u64 i0 32) 16) then
            Option.bind
              (strAt
                len8tab
                (Int.toNat (IntKind.wrap IntKind.u8 (shrI IntKind.u64 (shrI IntKind.u64 i0 32) 16))))
              fun x2 ↦ some (AV.int IntKind.i64 (IntKind.wrap IntKind.i64 (IntKind.wrap IntKind.i64 (32 + 16) + IntKind.wrap IntKind.i64 x2)), σ)
          else none
      else
        if decide (256 ≤ shrI IntKind.u64 i0 32) = true then
          if 0 ≤ IntKind.wrap IntKind.u8 (shrI IntKind.u64 (shrI IntKind.u64 i0 32) 8) then
            Option.bind
              (strAt
                len8tab
                (Int.toNat (IntKind.wrap IntKind.u8 (shrI IntKind.u64 (shrI IntKind.u64 i0 32) 8))))
              fun x3 ↦ some (AV.int IntKind.i64 (IntKind.wrap IntKind.i64 (IntKind.wrap IntKind.i64 (32 + 8) + IntKind.wrap IntKind.i64 x3)), σ)
          else none
        else
          if 0 ≤ IntKind.wrap IntKind.u8 (shrI IntKind.u64 i0 32) then
            Option.bind
              (strAt
                len8tab
                (Int.toNat (IntKind.wrap IntKind.u8 (shrI IntKind.u64 i0 32))))
              fun x4 ↦ some (AV.int IntKind.i64 (IntKind.wrap IntKind.i64 (32 + IntKind.wrap IntKind.i64 x4)), σ)
          else none
    else
      if decide (65536 ≤ i0) = true then
        if decide (256 ≤ shrI IntKind.u64 i0 16) = true then
          if 0 ≤ IntKind.wrap IntKind.u8 (shrI IntKind.u64 (shrI IntKind.u64 i0 16) 8) then
            Option.bind
              (strAt
                len8tab
                (Int.toNat (IntKind.wrap IntKind.u8 (shrI IntKind.u64 (shrI IntKind.u64 i0 16) 8))))
              fun x5 ↦ some (AV.int IntKind.i64 (IntKind.wrap IntKind.i64 (IntKind.wrap IntKind.i64 (IntKind.wrap IntKind.i64 (0 + 16) + 8) + IntKind.wrap IntKind.i64 x5)), σ)
          else none
        else
          if 0 ≤ IntKind.wrap IntKind.u8 (shrI IntKind.u64 i0 16) then
            Option.bind
              (strAt
                len8tab
                (Int.toNat (IntKind.wrap IntKind.u8 (shrI IntKind.u64 i0 16))))
              fun x6 ↦ some (AV.int IntKind.i64 (IntKind.wrap IntKind.i64 (IntKind.wrap IntKind.i64 (0 + 16) + IntKind.wrap IntKind.i64 x6)), σ)
          else none
      else
        if decide (256 ≤ i0) = true then
          if 0 ≤ IntKind.wrap IntKind.u8 (shrI IntKind.u64 i0 8) then
            Option.bind
              (strAt
                len8tab
                (Int.toNat (IntKind.wrap IntKind.u8 (shrI IntKind.u64 i0 8))))
              fun x7 ↦ some (AV.int IntKind.i64 (IntKind.wrap IntKind.i64 (IntKind.wrap IntKind.i64 (0 + 8) + IntKind.wrap IntKind.i64 x7)), σ)
          else none
        else
          if 0 ≤ IntKind.wrap IntKind.u8 i0 then
            Option.bind
              (strAt
                len8tab
                (Int.toNat (IntKind.wrap IntKind.u8 i0)))
              fun x8 ↦ some (AV.int IntKind.i64 (IntKind.wrap IntKind.i64 (0 + IntKind.wrap IntKind.i64 x8)), σ)
          else none := by intros; kernel_rfl

theorem f59_eq : ∀ (Γ : Gam) (k : Nat) (σ : Store) (p0 : Ptr) (i1 i2 : Int),
  evBody Try.prog Γ drawn k Try.f59 [AV.ptr p0, AV.int IntKind.i64 i1, AV.int IntKind.i64 i2] σ =
    Option.bind (Γ (Fun.fn 65) [AV.ptr p0] σ) fun x3 ↦
      Option.bind (AV.asInt IntKind.i64 (Prod.fst x3)) fun x4 ↦
        if decide (mn2 i2 x4 ≤ mx2 i1 0) = true then some (AV.int IntKind.i64 (-1), Prod.snd x3)
        else
          if decide (IntKind.wrap IntKind.i64 (Int.tdiv (mn2 i2 x4) 32) ≤ IntKind.wrap IntKind.i64 (Int.tdiv (IntKind.wrap IntKind.i64 (IntKind.wrap IntKind.i64 (mx2 i1 0 + 32) - 1)) 32)) = true then
            Option.bind (Γ (Fun.fn 61) [AV.ptr p0, AV.int IntKind.i64 (mx2 i1 0), AV.int IntKind.i64 (mn2 i2 x4)] (Prod.snd x3)) fun x5 ↦ Option.bind (AV.asInt IntKind.i64 (Prod.fst x5)) fun x6 ↦ some (AV.int IntKind.i64 x6, Prod.snd x5)
          else
            Option.bind (Γ (Fun.fn 61) [AV.ptr p0, AV.int IntKind.i64 (mx2 i1 0), AV.int IntKind.i64 (IntKind.wrap IntKind.i64 (IntKind.wrap IntKind.i64 (Int.tdiv (IntKind.wrap IntKind.i64 (IntKind.wrap IntKind.i64 (mx2 i1 0 + 32) - 1)) 32) * 32))] (Prod.snd x3)) fun x7 ↦
              Option.bind (AV.asInt IntKind.i64 (Prod.fst x7)) fun x8 ↦
                Option.bind (Γ (Fun.fn 66) [AV.int IntKind.u64 (IntKind.wrap IntKind.u64 (IntKind.wrap IntKind.i64 (IntKind.wrap IntKind.i64 (Int.tdiv (mn2 i2 x4) 32) - IntKind.wrap IntKind.i64 (Int.tdiv (IntKind.wrap IntKind.i64 (IntKind.wrap IntKind.i64 (mx2 i1 0 + 32) - 1)) 32))))] (Prod.snd x7)) fun x9 ↦
                  Option.bind (AV.asInt IntKind.i64 (Prod.fst x9)) fun x10 ↦
                    Option.bind p0 fun x11 ↦
                      Option.bind (Store.ldSl (Prod.snd x9) (Ptr.add (some x11) 1)) fun x12 ↦
                        if 0 ≤ IntKind.wrap IntKind.i64 (x10 - 1) ∧ IntKind.wrap IntKind.i64 (x10 - 1) < (↑(Hdl.len x12) : Int) then
                          Option.bind (Store.ldSl (Prod.snd x9) (Hdl.idx x12 (IntKind.wrap IntKind.i64 (x10 - 1)) 1)) fun x13 ↦
                            if 0 ≤ IntKind.wrap IntKind.i64 (Int.tdiv (IntKind.wrap IntKind.i64 (IntKind.wrap IntKind.i64 (mx2 i1 0 + 32) - 1)) 32) ∧ IntKind.wrap IntKind.i64 (Int.tdiv (IntKind.wrap IntKind.i64 (IntKind.wrap IntKind.i64 (mx2 i1 0 + 32) - 1)) 32) < (↑(Hdl.len x13) : Int) then
                              Option.bind (Store.ldInt (Prod.snd x9) IntKind.i64 (Hdl.idx x13 (IntKind.wrap IntKind.i64 (Int.tdiv (IntKind.wrap IntKind.i64 (IntKind.wrap IntKind.i64 (mx2 i1 0 + 32) - 1)) 32)) 1)) fun x14 ↦
                                Option.bind (Γ (Fun.fn 62) [AV.ptr p0, AV.int IntKind.i64 x8, AV.int IntKind.i64 x14] (Prod.snd x9)) fun x15 ↦
                                  Option.bind (AV.asInt IntKind.i64 (Prod.fst x15)) fun x16 ↦
                                    Option.bind p0 fun x17 ↦
                                      Option.bind (Store.ldSl (Prod.snd x15) (Ptr.add (some x17) 1)) fun x18 ↦
                                        if 0 ≤ IntKind.wrap IntKind.i64 (x10 - 1) ∧ IntKind.wrap IntKind.i64 (x10 - 1) < (↑(Hdl.len x18) : Int) then
                                          Option.bind (Store.ldSl (Prod.snd x15) (Hdl.idx x18 (IntKind.wrap IntKind.i64 (x10 - 1)) 1)) fun x19 ↦
                                            if 0 ≤ IntKind.wrap IntKind.i64 (x10 - 1) then
                                              if 0 ≤ IntKind.wrap IntKind.i64 (IntKind.wrap IntKind.i64 (Int.tdiv (mn2 i2 x4) 32) - shlI IntKind.i64 1 (IntKind.wrap IntKind.i64 (x10 - 1))) ∧ IntKind.wrap IntKind.i64 (IntKind.wrap IntKind.i64 (Int.tdiv (mn2 i2 x4) 32) - shlI IntKind.i64 1 (IntKind.wrap IntKind.i64 (x10 - 1))) < (↑(Hdl.len x19) : Int) then
                                                Option.bind (Store.ldInt (Prod.snd x15) IntKind.i64 (Hdl.idx x19 (IntKind.wrap IntKind.i64 (IntKind.wrap IntKind.i64 (Int.tdiv (mn2 i2 x4) 32) - shlI IntKind.i64 1 (IntKind.wrap IntKind.i64 (x10 - 1)))) 1)) fun x20 ↦
                                                  Option.bind (Γ (Fun.fn 62) [AV.ptr p0, AV.int IntKind.i64 x16, AV.int IntKind.i64 x20] (Prod.snd x15)) fun x21 ↦
                                                    Option.bind (AV.asInt IntKind.i64 (Prod.fst x21)) fun x22 ↦
                                                      Option.bind (Γ (Fun.fn 61) [AV.ptr p0, AV.int IntKind.i64 (IntKind.wrap IntKind.i64 (IntKind.wrap IntKind.i64 (Int.tdiv (mn2 i2 x4) 32) * 32)), AV.int IntKind.i64 (mn2 i2 x4)] (Prod.snd x21)) fun x23 ↦
                                                        Option.bind (AV.asInt IntKind.i64 (Prod.fst x23)) fun x24 ↦ Option.bind (Γ (Fun.fn 62) [AV.ptr p0, AV.int IntKind.i64 x22, AV.int IntKind.i64 x24] (Prod.snd x23)) fun x25 ↦ Option.bind (AV.asInt IntKind.i64 (Prod.fst x25)) fun x26 ↦ some (AV.int IntKind.i64 x26, Prod.snd x25)
                                              else none
                                            else none
                                        else none
                            else none
                        else none := by intros; kernel_rfl

theorem f61_eq : ∀ (Γ : Gam) (k : Nat) (σ : Store) (p0 : Ptr) (i1 i2 : Int), evBody Try.prog Γ drawn k Try.f61 [AV.ptr p0, AV.int IntKind.i64 i1, AV.int IntKind.i64 i2] σ = Option.bind (loopF Try.prog Γ drawn k Try.f61 [1, 1, 0, 1, 0] [8, 7, 2, 0] ([AV.int IntKind.i64 i1, AV.int IntKind.i64 (-1), AV.int IntKind.i64 i2, AV.ptr p0], σ)) (contF Try.prog Γ drawn k Try.f61 [1, 1, 0, 1, 0]) := by intros; kernel_rfl

theorem f61_L11010 : ∀ (Γ : Gam) (k : Nat) (σ : Store) (i3 i4 i5 : Int) (p6 : Ptr),
  stepF Try.prog Γ drawn k Try.f61 [1, 1, 0, 1, 0] [8, 7, 2, 0] ([AV.int IntKind.i64 i3, AV.int IntKind.i64 i4, AV.int IntKind.i64 i5, AV.ptr p6], σ) =
    if decide (i3 < i5) = true then Option.bind (Γ (Fun.fn 62) [AV.ptr p6, AV.int IntKind.i64 i4, AV.int IntKind.i64 i3] σ) fun x7 ↦ Option.bind (AV.asInt IntKind.i64 (Prod.fst x7)) fun x8 ↦ some (Sum.inl ([AV.int IntKind.i64 (IntKind.wrap IntKind.i64 (i3 + 1)), AV.int IntKind.i64 x8, AV.int IntKind.i64 i5, AV.ptr p6], Prod.snd x7)) else some (Sum.inr (AX.exit 0, [(7, AV.int IntKind.i64 i4)], σ)) := by intros; kernel_rfl

theorem f61_X11010_1 : ∀ (Γ : Gam) (k : Nat) (σ : Store) (i9 : Int), contF Try.prog Γ drawn k Try.f61 [1, 1, 0, 1, 0] (AX.exit 0, [(7, AV.int IntKind.i64 i9)], σ) = some (AV.int IntKind.i64 i9, σ) := by intros; kernel_rfl

theorem f62_eq : ∀ (Γ : Gam) (k : Nat) (σ : Store) (p0 : Ptr) (i1 i2 : Int),
  evBody Try.prog Γ drawn k Try.f62 [AV.ptr p0, AV.int IntKind.i64 i1, AV.int IntKind.i64 i2] σ =
    if decide (i1 < 0) = true then some (AV.int IntKind.i64 i2, σ)
    else
      if decide (i2 < 0) = true then some (AV.int IntKind.i64 i1, σ)
      else
        Option.bind p0 fun x3 ↦
          Option.bind (Store.ldSl σ (Ptr.add (some x3) 0)) fun x4 ↦
            if 0 ≤ i1 ∧ i1 < (↑(Hdl.len x4) : Int) then
              Option.bind (Store.ldInt σ IntKind.i64 (Hdl.idx x4 i1 1)) fun x5 ↦
                Option.bind p0 fun x6 ↦
                  Option.bind (Store.ldSl σ (Ptr.add (some x6) 0)) fun x7 ↦
                    if 0 ≤ i2 ∧ i2 < (↑(Hdl.len x7) : Int) then
                      Option.bind (Store.ldInt σ IntKind.i64 (Hdl.idx x7 i2 1)) fun x8 ↦
                        if decide (x5 < x8) = true then some (AV.int IntKind.i64 i1, σ)
                        else
                          Option.bind p0 fun x9 ↦
                            Option.bind (Store.ldSl σ (Ptr.add (some x9) 0)) fun x10 ↦
                              if 0 ≤ i1 ∧ i1 < (↑(Hdl.len x10) : Int) then
                                Option.bind (Store.ldInt σ IntKind.i64 (Hdl.idx x10 i1 1)) fun x11 ↦
                                  Option.bind p0 fun x12 ↦
                                    Option.bind (Store.ldSl σ (Ptr.add (some x12) 0)) fun x13 ↦ if 0 ≤ i2 ∧ i2 < (↑(Hdl.len x13) : Int) then Option.bind (Store.ldInt σ IntKind.i64 (Hdl.idx x13 i2 1)) fun x14 ↦ if decide (x11 = x14) = true then if decide (i1 < i2) = true then some (AV.int IntKind.i64 i1, σ) else some (AV.int IntKind.i64 i2, σ) else some (AV.int IntKind.i64 i2, σ) else none
                              else none
                    else none
            else none := by intros; kernel_rfl

theorem f65_eq : ∀ (Γ : Gam) (k : Nat) (σ : Store) (p0 : Ptr), evBody Try.prog Γ drawn k Try.f65 [AV.ptr p0] σ = if Option.isNone p0 = true then some (AV.int IntKind.i64 0, σ) else Option.bind p0 fun x1 ↦ Option.bind (Store.ldSl σ (Ptr.add (some x1) 0)) fun x2 ↦ some (AV.int IntKind.i64 (↑(Hdl.len x2) : Int), σ) := by intros; kernel_rfl

theorem f66_eq : ∀ (Γ : Gam) (k : Nat) (σ : Store) (i0 : Int), evBody Try.prog Γ drawn k Try.f66 [AV.int IntKind.u64 i0] σ = Option.bind (Γ (Fun.fn 47) [AV.int IntKind.u64 i0] σ) fun x1 ↦ Option.bind (AV.asInt IntKind.i64 (Prod.fst x1)) fun x2 ↦ some (AV.int IntKind.i64 x2, Prod.snd x1) := by intros; kernel_rfl

end Go.Ab


/- Induced sorting: from the order of the left places that of all. Plain Lean, no program. -/
namespace Go.Ab.Sai
open Go.Ab.Wd Go.Ab.Bs
set_option linter.unusedVariables false
set_option linter.unusedSimpArgs false

/-! ### buckets -/
/-- How many numbers are below c. -/
def hd (t : List Int) (c : Int) : Int := ((t.filter fun x => decide (x < c)).length : Int)
theorem hd_nonneg (t : List Int) (c : Int) : 0 ≤ hd t c := by unfold hd; omega
theorem hd_le (t : List Int) (c : Int) : hd t c ≤ t.length := by
  unfold hd
  have := List.length_filter_le (fun x => decide (x < c)) t
  omega
theorem hd_mono (t : List Int) {c d : Int} (h : c ≤ d) : hd t c ≤ hd t d := by
  induction t with
  | nil => simp [hd]
  | cons x t ih =>
    unfold hd at ih ⊢
    by_cases h1 : x < c
    · rw [List.filter_cons_of_pos (by simpa using h1), List.filter_cons_of_pos (by simp; omega)]
      simp only [List.length_cons]; omega
    · rw [List.filter_cons_of_neg (by simpa using h1)]
      by_cases h2 : x < d
      · rw [List.filter_cons_of_pos (by simpa using h2)]; simp only [List.length_cons]; omega
      · rw [List.filter_cons_of_neg (by simpa using h2)]; exact ih
theorem hd_zero {t : List Int} (h : ∀ x ∈ t, 0 ≤ x) : hd t 0 = 0 := by
  unfold hd
  rw [List.filter_eq_nil_iff.2 fun x hx => by have := h x hx; simp; omega]
  rfl
theorem hd_all {t : List Int} {k : Int} (h : ∀ x ∈ t, x < k) : hd t k = t.length := by
  unfold hd
  rw [List.filter_eq_self.2 fun x hx => by have := h x hx; simpa using this]
/-- The places of a number. -/
def of (t : List Int) (c : Int) : List Int := (places t.length).filter fun p => decide (rd t p = c)
theorem mem_of {t : List Int} {c p : Int} : p ∈ of t c ↔ (0 ≤ p ∧ p < t.length) ∧ rd t p = c := by
  unfold of
  rw [List.mem_filter, mem_places, decide_eq_true_iff]
theorem of_length (t : List Int) (c : Int) : ((of t c).length : Int) = hd t (c + 1) - hd t c := by
  have h1 : (of t c).length = (t.filter fun x => decide (x = c)).length := by
    have e : t = (places t.length).map (rd t) := by
      refine List.ext_getElem (by simp [places]) fun i h1 h2 => ?_
      simp only [places, List.getElem_map, List.getElem_range]
      exact (rd_getElem h1).symm
    unfold of
    conv => rhs; rw [e]
    rw [List.filter_map, List.length_map]
    rfl
  rw [h1]
  unfold hd
  induction t with
  | nil => simp
  | cons x t ih =>
    have ih' := ih (by
      have e : t = (places t.length).map (rd t) := by
        refine List.ext_getElem (by simp [places]) fun i h1 h2 => ?_
        simp only [places, List.getElem_map, List.getElem_range]
        exact (rd_getElem h1).symm
      unfold of
      conv => rhs; rw [e]
      rw [List.filter_map, List.length_map]
      rfl)
    rcases Int.lt_trichotomy x c with h | h | h
    · rw [List.filter_cons_of_neg (by simp; omega), List.filter_cons_of_pos (p := fun x => decide (x < c + 1)) (by simp; omega), List.filter_cons_of_pos (p := fun x => decide (x < c)) (by simpa using h)]
      simp only [List.length_cons]; omega
    · rw [List.filter_cons_of_pos (by simpa using h), List.filter_cons_of_pos (p := fun x => decide (x < c + 1)) (by simp; omega), List.filter_cons_of_neg (p := fun x => decide (x < c)) (by simp; omega)]
      simp only [List.length_cons]; omega
    · rw [List.filter_cons_of_neg (by simp; omega), List.filter_cons_of_neg (p := fun x => decide (x < c + 1)) (by simp; omega), List.filter_cons_of_neg (p := fun x => decide (x < c)) (by simp; omega)]
      exact ih'
theorem count_le {t l : List Int} {c : Int} (hn : l.Nodup) (h : ∀ p ∈ l, (0 ≤ p ∧ p < t.length) ∧ rd t p = c) : (l.length : Int) ≤ hd t (c + 1) - hd t c := by
  rw [← of_length]
  have := nodup_sub_len hn (m := of t c) fun p hp => mem_of.2 (h p hp)
  omega
theorem bucket_of (t : List Int) {j : Int} (j0 : 0 ≤ j) (h0 : ∀ x ∈ t, 0 ≤ x) (k : Nat) (h1 : j < hd t k) : ∃ c : Int, 0 ≤ c ∧ c < k ∧ hd t c ≤ j ∧ j < hd t (c + 1) := by
  induction k with
  | zero => have := hd_zero h0; rw [show ((0 : Nat) : Int) = 0 from rfl] at h1; omega
  | succ k ih =>
    by_cases h : j < hd t k
    · obtain ⟨c, c0, c1, c2, c3⟩ := ih h
      exact ⟨c, c0, by omega, c2, c3⟩
    · exact ⟨k, by omega, by omega, by omega, h1⟩
/-- What stands from a on, ahead of b. -/
def seg (l : List Int) (a b : Int) : List Int := (List.range (b - a).toNat).map fun i : Nat => rd l (a + i)
theorem seg_length (l : List Int) (a b : Int) : (seg l a b).length = (b - a).toNat := by simp [seg]
theorem mem_seg {l : List Int} {a b x : Int} : x ∈ seg l a b ↔ ∃ j : Int, a ≤ j ∧ j < b ∧ rd l j = x := by
  simp only [seg, List.mem_map, List.mem_range]
  constructor
  · rintro ⟨i, hi, rfl⟩; exact ⟨a + i, by omega, by omega, rfl⟩
  · rintro ⟨j, h0, h1, rfl⟩; exact ⟨(j - a).toNat, by omega, by rw [show a + ((j - a).toNat : Int) = j by omega]⟩
theorem seg_nodup {l : List Int} {a b : Int} (h : ∀ i j : Int, a ≤ i → i < j → j < b → rd l i ≠ rd l j) : (seg l a b).Nodup := by
  unfold seg List.Nodup
  rw [List.pairwise_map]
  have : (List.range (b - a).toNat).Pairwise (· < ·) := List.pairwise_lt_range
  refine this.imp_of_mem ?_
  intro i j hi hj hij
  rw [List.mem_range] at hi hj
  exact h _ _ (by omega) (by omega) (by omega)

/-! ### short places -/
/-- Is the place's suffix less than the next one's? -/
def S (short : List Bool) (p : Int) : Bool := rdOf false short p
structure Short (t : List Int) (short : List Bool) : Prop where
  len : short.length = t.length
  last : S short (t.length - 1) = false
  step : ∀ p : Int, 0 ≤ p → p + 1 < t.length → S short p = (decide (rd t p < rd t (p + 1)) || (decide (rd t p = rd t (p + 1)) && S short (p + 1)))
theorem Short.no {t : List Int} {short : List Bool} (h : Short t short) {p : Int} (p0 : 0 ≤ p) (p1 : p + 1 < t.length) (hs : S short p = false) : rd t (p + 1) < rd t p ∨ (rd t p = rd t (p + 1) ∧ S short (p + 1) = false) := by
  have := h.step p p0 p1
  rw [hs] at this
  simp at this
  by_cases c : rd t p = rd t (p + 1)
  · exact .inr ⟨c, this.2 c⟩
  · exact .inl (by omega)
/-- The first of its row of short ones. -/
def Lf (short : List Bool) (p : Int) : Prop := 0 < p ∧ S short p = true ∧ S short (p - 1) = false
def code (t : List Int) (short : List Bool) (p : Int) : Int := 2 * rd t p + if S short p = true then 1 else 0
theorem code_no {t : List Int} {short : List Bool} {p : Int} (h : S short p = false) : code t short p = 2 * rd t p := by unfold code; rw [h]; simp
theorem code_yes {t : List Int} {short : List Bool} {p : Int} (h : S short p = true) : code t short p = 2 * rd t p + 1 := by unfold code; rw [h]; simp
/-- Two orders of places, told by lists: A of the long and the left ones, B of all. -/
structure Keys (t : List Int) (short : List Bool) (A B : Int → List Int) : Prop where
  An : A t.length = []
  AL : ∀ p : Int, 0 ≤ p → p < t.length → S short p = false → A p = code t short p :: A (p + 1)
  AM : ∀ p : Int, 0 ≤ p → p < t.length → Lf short p → ∃ r, A p = code t short p :: r
  BL : ∀ p : Int, 0 ≤ p → p < t.length → S short p = false → B p = A p
  BS : ∀ p : Int, 0 ≤ p → p < t.length → S short p = true → B p = code t short p :: B (p + 1)
def le (a b : List Int) : Prop := ¬ llt b a
theorem le_refl (a : List Int) : le a a := llt_irrefl a
theorem le_trans {a b c : List Int} (h : le a b) (k : le b c) : le a c := by
  intro hca
  rcases llt_tri a b with h1 | h1 | h1
  · exact k (llt_trans hca h1)
  · rw [← h1] at k; exact k hca
  · exact h h1
theorem le_cons {x : Int} {a b : List Int} (h : le a b) : le (x :: a) (x :: b) := by unfold le at h ⊢; simp only [llt]; rintro (h1 | ⟨_, h1⟩); omega; exact h h1
theorem le_head {x y : Int} {a b : List Int} (h : x < y) : le (x :: a) (y :: b) := by unfold le; simp only [llt]; rintro (h1 | ⟨h1, _⟩) <;> omega
theorem le_of_llt {a b : List Int} (h : llt a b) : le a b := llt_asymm h
theorem le_total (a b : List Int) : le a b ∨ le b a := by
  rcases llt_tri a b with h | h | h
  · exact .inl (le_of_llt h)
  · rw [h]; exact .inl (le_refl b)
  · exact .inr (le_of_llt h)
end Go.Ab.Sai


/- Induced sorting: the three passes. Plain Lean, no program. -/
namespace Go.Ab.Sai
open Go.Ab.Wd Go.Ab.Bs
set_option linter.unusedVariables false
set_option linter.unusedSimpArgs false

/-! ### what the program does -/
abbrev St := List Int × List Int
/-- A place put at the end of its bucket, and the end moved down. -/
def down (t : List Int) (st : St) (p : Int) : Option St :=
  if 0 ≤ p ∧ p < t.length ∧ 0 ≤ rd t p ∧ rd t p < st.2.length ∧ 0 ≤ rd st.2 (rd t p) - 1 ∧ rd st.2 (rd t p) - 1 < st.1.length then
    some (st.1.set (rd st.2 (rd t p) - 1).toNat p, st.2.set (rd t p).toNat (rd st.2 (rd t p) - 1)) else none
/-- A place put at the head of its bucket, and the head moved up. -/
def upw (t : List Int) (st : St) (p : Int) : Option St :=
  if 0 ≤ p ∧ p < t.length ∧ 0 ≤ rd t p ∧ rd t p < st.2.length ∧ 0 ≤ rd st.2 (rd t p) ∧ rd st.2 (rd t p) < st.1.length then
    some (st.1.set (rd st.2 (rd t p)).toNat p, st.2.set (rd t p).toNat (rd st.2 (rd t p) + 1)) else none
def put (t : List Int) (short : List Bool) (st : St) (p : Int) : Option St :=
  if 0 ≤ p then (if p < short.length then (if S short p = true then some st else upw t st p) else none) else some st
def heads (t : List Int) (k : Nat) : List Int := (List.range k).map fun c : Nat => hd t c
def tails (t : List Int) (k : Nat) : List Int := (List.range k).map fun c : Nat => hd t (c + 1)
theorem heads_length (t : List Int) (k : Nat) : (heads t k).length = k := by simp [heads]
theorem tails_length (t : List Int) (k : Nat) : (tails t k).length = k := by simp [tails]
theorem rd_heads (t : List Int) (k : Nat) {c : Int} (c0 : 0 ≤ c) (c1 : c < k) : rd (heads t k) c = hd t c := by
  obtain ⟨c, rfl⟩ := Int.eq_ofNat_of_zero_le c0
  rw [rd_getElem (by rw [heads_length]; omega)]
  simp [heads]
theorem rd_tails (t : List Int) (k : Nat) {c : Int} (c0 : 0 ≤ c) (c1 : c < k) : rd (tails t k) c = hd t (c + 1) := by
  obtain ⟨c, rfl⟩ := Int.eq_ofNat_of_zero_le c0
  rw [rd_getElem (by rw [tails_length]; omega)]
  simp [tails]

/-! ### the world of a list -/
structure Base (t : List Int) (short : List Bool) (k : Nat) (A B : Int → List Int) : Prop where
  pos : 0 < t.length
  rng : ∀ x ∈ t, 0 ≤ x ∧ x < k
  sh : Short t short
  keys : Keys t short A B
variable {t : List Int} {short : List Bool} {k : Nat} {A B : Int → List Int}
theorem Base.at_ (b : Base t short k A B) {p : Int} (p0 : 0 ≤ p) (p1 : p < t.length) : 0 ≤ rd t p ∧ rd t p < k := b.rng _ (rd_mem p0 p1)
theorem Base.bucket (b : Base t short k A B) {j : Int} (j0 : 0 ≤ j) (j1 : j < t.length) : ∃ c : Int, 0 ≤ c ∧ c < k ∧ hd t c ≤ j ∧ j < hd t (c + 1) :=
  bucket_of t j0 (fun x hx => (b.rng x hx).1) k (by rw [hd_all fun x hx => (b.rng x hx).2]; exact j1)
/-- Buckets lie one behind the other. -/
theorem hd_next (t : List Int) {c d : Int} (h : c < d) : hd t (c + 1) ≤ hd t d := hd_mono t (by omega)

/-! ### pass 1: the left places, from the last one on -/
/-- How many of some places have a number. -/
def cnt (t : List Int) (l : List Int) (c : Int) : Int := ((l.filter fun p => decide (rd t p = c)).length : Int)
theorem cnt_nonneg (t l : List Int) (c : Int) : 0 ≤ cnt t l c := by unfold cnt; omega
end Go.Ab.Sai


/- Induced sorting: pass 2. Plain Lean, no program. -/
namespace Go.Ab.Sai
open Go.Ab.Wd Go.Ab.Bs
set_option linter.unusedVariables false
set_option linter.unusedSimpArgs false
variable {t : List Int} {short : List Bool} {k : Nat} {A B : Int → List Int}

structure Q (t : List Int) (short : List Bool) (k : Nat) (A : Int → List Int) (l : List Int) (st : St) : Prop where
  l1 : st.1.length = t.length
  l2 : st.2.length = k
  hlo : ∀ c : Int, 0 ≤ c → c < k → hd t c ≤ rd st.2 c ∧ rd st.2 c ≤ hd t (c + 1) - cnt t l c
  low : ∀ c : Int, 0 ≤ c → c < k → ∀ j : Int, hd t c ≤ j → j < rd st.2 c → (0 ≤ rd st.1 j ∧ rd st.1 j < t.length) ∧ S short (rd st.1 j) = false ∧ rd t (rd st.1 j) = c
  seed : ∀ c : Int, 0 ≤ c → c < k → ∀ j : Int, hd t (c + 1) - cnt t l c ≤ j → j < hd t (c + 1) → rd st.1 j ∈ l ∧ rd t (rd st.1 j) = c
  there : ∀ p ∈ l, ∃ j : Int, 0 ≤ j ∧ j < t.length ∧ rd st.1 j = p
  free : ∀ c : Int, 0 ≤ c → c < k → ∀ j : Int, rd st.2 c ≤ j → j < hd t (c + 1) - cnt t l c → rd st.1 j = -1
  inj : ∀ i j : Int, 0 ≤ i → i < j → j < t.length → 0 ≤ rd st.1 i → rd st.1 i ≠ rd st.1 j
  ord : ∀ i j : Int, 0 ≤ i → i < j → j < t.length → 0 ≤ rd st.1 i → 0 ≤ rd st.1 j → le (A (rd st.1 i)) (A (rd st.1 j))
/-- The left places: all of them, each once. -/
structure Lefts (t : List Int) (short : List Bool) (l : List Int) : Prop where
  nd : l.Nodup
  mem : ∀ p : Int, p ∈ l ↔ (0 ≤ p ∧ p < t.length) ∧ Lf short p
/-- Where a place that stands in the array stands. -/
theorem Q.loc (b : Base t short k A B) {l : List Int} (hl : Lefts t short l) {st : St} (q : Q t short k A l st) {j : Int} (j0 : 0 ≤ j) (j1 : j < t.length) (hv : 0 ≤ rd st.1 j) :
    ∃ c : Int, 0 ≤ c ∧ c < k ∧ hd t c ≤ j ∧ j < hd t (c + 1) ∧ rd t (rd st.1 j) = c ∧ rd st.1 j < t.length ∧ ((S short (rd st.1 j) = false ∧ j < rd st.2 c) ∨ (rd st.1 j ∈ l ∧ rd st.2 c ≤ j ∧ S short (rd st.1 j) = true)) := by
  obtain ⟨c, c0, c1, h0, h1⟩ := b.bucket j0 j1
  have hh := q.hlo c c0 c1
  refine ⟨c, c0, c1, h0, h1, ?_⟩
  by_cases e1 : j < rd st.2 c
  · have := q.low c c0 c1 j h0 e1
    exact ⟨this.2.2, this.1.2, .inl ⟨this.2.1, e1⟩⟩
  by_cases e2 : j < hd t (c + 1) - cnt t l c
  · have := q.free c c0 c1 j (by omega) e2
    omega
  have := q.seed c c0 c1 j (by omega) h1
  have hm := (hl.mem _).1 this.1
  exact ⟨this.2, hm.1.2, .inr ⟨this.1, by omega, hm.2.2.1⟩⟩
theorem key_head (b : Base t short k A B) {l : List Int} (hl : Lefts t short l) {p : Int} (p0 : 0 ≤ p) (p1 : p < t.length) (h : S short p = false ∨ p ∈ l) : ∃ r, A p = code t short p :: r := by
  rcases h with h | h
  · exact ⟨_, b.keys.AL p p0 p1 h⟩
  · exact b.keys.AM p p0 p1 ((hl.mem p).1 h).2
/-- A long place that isn't there yet is put at its bucket's head. -/
theorem Q.add (b : Base t short k A B) {l : List Int} (hl : Lefts t short l) {st : St} (q : Q t short k A l st) {p : Int} (p0 : 0 ≤ p) (p1 : p < t.length) (hs : S short p = false)
    (hnew : ∀ j : Int, 0 ≤ j → j < t.length → rd st.1 j ≠ p)
    (hord : ∀ j : Int, 0 ≤ j → j < t.length → 0 ≤ rd st.1 j → S short (rd st.1 j) = false → rd t (rd st.1 j) = rd t p → le (A (rd st.1 j + 1)) (A (p + 1))) :
    ∃ J : Int, rd st.2 (rd t p) = J ∧ 0 ≤ J ∧ J < t.length ∧ rd st.1 J = -1 ∧ upw t st p = some (st.1.set J.toNat p, st.2.set (rd t p).toNat (J + 1)) ∧ Q t short k A l (st.1.set J.toNat p, st.2.set (rd t p).toNat (J + 1)) := by
  obtain ⟨c0, c1⟩ := b.at_ p0 p1
  obtain ⟨c, hc⟩ : ∃ c, rd t p = c := ⟨_, rfl⟩
  rw [hc] at c0 c1 ⊢
  obtain ⟨J, hJ⟩ : ∃ J, rd st.2 c = J := ⟨_, rfl⟩
  have hh := q.hlo c c0 c1
  rw [hJ] at hh
  have hn0 := hd_nonneg t c
  have hn1 := hd_le t (c + 1)
  have hcn := cnt_nonneg t l c
  -- there is room
  have hroom : J < hd t (c + 1) - cnt t l c := by
    have hcount := count_le (t := t) (c := c) (l := (seg st.1 (hd t c) J ++ seg st.1 (hd t (c + 1) - cnt t l c) (hd t (c + 1))) ++ [p]) ?_ ?_
    · simp only [List.length_append, seg_length, List.length_cons, List.length_nil] at hcount
      omega
    · refine List.nodup_append.2 ⟨List.nodup_append.2 ⟨seg_nodup fun i j i0 hij j1 => ?_, seg_nodup fun i j i0 hij j1 => ?_, ?_⟩, by simp, ?_⟩
      · exact q.inj i j (by omega) hij (by omega) (q.low c c0 c1 i i0 (by omega)).1.1
      · have := (hl.mem _).1 (q.seed c c0 c1 i i0 (by omega)).1
        exact q.inj i j (by omega) hij (by omega) this.1.1
      · intro x hx y hy e
        obtain ⟨i, i0, i1, rfl⟩ := mem_seg.1 hx
        obtain ⟨j, j0, j1, rfl⟩ := mem_seg.1 hy
        exact q.inj i j (by omega) (by omega) (by omega) (q.low c c0 c1 i i0 (by omega)).1.1 e
      · intro x hx y hy e
        rw [List.mem_singleton] at hy
        rw [hy] at e
        rcases List.mem_append.1 hx with hx | hx
        · obtain ⟨i, i0, i1, rfl⟩ := mem_seg.1 hx
          exact hnew i (by omega) (by omega) e
        · obtain ⟨i, i0, i1, rfl⟩ := mem_seg.1 hx
          exact hnew i (by omega) (by omega) e
    · intro x hx
      rcases List.mem_append.1 hx with hx | hx
      · rcases List.mem_append.1 hx with hx | hx
        · obtain ⟨i, i0, i1, rfl⟩ := mem_seg.1 hx
          have := q.low c c0 c1 i i0 (by omega)
          exact ⟨this.1, this.2.2⟩
        · obtain ⟨i, i0, i1, rfl⟩ := mem_seg.1 hx
          have := q.seed c c0 c1 i i0 (by omega)
          exact ⟨((hl.mem _).1 this.1).1, this.2⟩
      · rw [List.mem_singleton] at hx
        rw [hx]
        exact ⟨⟨p0, p1⟩, hc⟩
  have J0 : 0 ≤ J := by omega
  have J1 : J < t.length := by omega
  have hfree := q.free c c0 c1 J (by omega) hroom
  have hrd : ∀ j : Int, 0 ≤ j → rd (st.1.set J.toNat p) j = if J = j then p else rd st.1 j := fun j j0 => rd_set J0 (by rw [q.l1]; exact J1) j0
  have hrh : ∀ d : Int, 0 ≤ d → rd (st.2.set c.toNat (J + 1)) d = if c = d then J + 1 else rd st.2 d := fun d d0 => rd_set c0 (by rw [q.l2]; exact c1) d0
  have hbk : ∀ d : Int, c ≠ d → ∀ j : Int, hd t d ≤ j → j < hd t (d + 1) → J ≠ j := by
    intro d hne j j0 j1 e
    rcases Int.lt_trichotomy c d with hlt | hlt | hlt
    · have := hd_next t hlt; omega
    · exact hne hlt
    · have := hd_next t hlt; omega
  refine ⟨J, hJ, J0, J1, hfree, ?_, ?_⟩
  · unfold upw
    rw [hc, hJ, if_pos ⟨p0, p1, c0, by rw [q.l2]; exact c1, J0, by rw [q.l1]; exact J1⟩]
  -- the order with all others
  have hall : ∀ j : Int, 0 ≤ j → j < t.length → 0 ≤ rd st.1 j → (j < J → le (A (rd st.1 j)) (A p)) ∧ (J < j → le (A p) (A (rd st.1 j))) := by
    intro j j0 j1 hv
    obtain ⟨d, d0, d1, b0, b1, ht, hlt, hcase⟩ := q.loc b hl j0 j1 hv
    have hk1 := key_head b hl hv hlt (hcase.elim (fun h => .inl h.1) (fun h => .inr h.1))
    have hk2 := b.keys.AL p p0 p1 hs
    obtain ⟨r, hr⟩ := hk1
    have hcp := code_no (t := t) hs
    have hcj : 2 * d ≤ code t short (rd st.1 j) ∧ code t short (rd st.1 j) ≤ 2 * d + 1 := by
      unfold code; rw [ht]; split <;> omega
    constructor
    · intro hj
      rcases Int.lt_trichotomy d c with hdc | hdc | hdc
      · rw [hr, hk2]
        exact le_head (by rw [hcp, hc]; omega)
      · subst hdc
        rcases hcase with ⟨h1, h2⟩ | ⟨h1, h2, h3⟩
        · rw [b.keys.AL _ hv hlt h1, hk2, code_no h1, hcp, ht, hc]
          exact le_cons (hord j j0 j1 hv h1 (by rw [ht, hc]))
        · omega
      · have := hd_next t hdc
        omega
    · intro hj
      rcases Int.lt_trichotomy d c with hdc | hdc | hdc
      · have := hd_next t hdc
        omega
      · subst hdc
        rcases hcase with ⟨h1, h2⟩ | ⟨h1, h2, h3⟩
        · omega
        · rw [hr, hk2]
          exact le_head (by rw [hcp, hc, code_yes h3, ht]; omega)
      · rw [hr, hk2]
        exact le_head (by rw [hcp, hc]; omega)
  refine ⟨by simpa using q.l1, by simpa using q.l2, ?_, ?_, ?_, ?_, ?_, ?_, ?_⟩
  · intro d d0 d1
    show hd t d ≤ rd (st.2.set c.toNat (J + 1)) d ∧ _
    rw [hrh d d0]
    by_cases e : c = d
    · subst e; rw [if_pos rfl]; omega
    · rw [if_neg e]; exact q.hlo d d0 d1
  · intro d d0 d1 j j0 j1
    show (0 ≤ rd (st.1.set J.toNat p) j ∧ rd (st.1.set J.toNat p) j < t.length) ∧ S short (rd (st.1.set J.toNat p) j) = false ∧ rd t (rd (st.1.set J.toNat p) j) = d
    have hd0 := hd_nonneg t d
    rw [hrd j (by omega)]
    have j1' : j < rd (st.2.set c.toNat (J + 1)) d := j1
    rw [hrh d d0] at j1'
    by_cases ej : J = j
    · have e : c = d := by
        apply Classical.byContradiction
        intro hne
        rw [if_neg hne] at j1'
        have := q.hlo d d0 d1
        have := cnt_nonneg t l d
        exact hbk d hne j j0 (by omega) ej
      rw [if_pos ej]
      exact ⟨⟨p0, p1⟩, hs, by rw [hc, e]⟩
    · rw [if_neg ej]
      by_cases e : c = d
      · subst e; rw [if_pos rfl] at j1'; exact q.low c d0 d1 j j0 (by omega)
      · rw [if_neg e] at j1'; exact q.low d d0 d1 j j0 j1'
  · intro d d0 d1 j j0 j1
    show rd (st.1.set J.toNat p) j ∈ l ∧ rd t (rd (st.1.set J.toNat p) j) = d
    have hh2 := q.hlo d d0 d1
    have hd0 := hd_nonneg t d
    rw [hrd j (by omega), if_neg ?_]
    · exact q.seed d d0 d1 j j0 j1
    · intro e
      by_cases ed : c = d
      · subst ed; omega
      · exact hbk d ed j (by omega) j1 e
  · intro x hx
    obtain ⟨j, j0, j1, e⟩ := q.there x hx
    refine ⟨j, j0, j1, ?_⟩
    show rd (st.1.set J.toNat p) j = x
    rw [hrd j j0, if_neg ?_]
    · exact e
    · intro e'
      have := ((hl.mem x).1 hx).1
      rw [← e', hfree] at e
      omega
  · intro d d0 d1 j j0 j1
    show rd (st.1.set J.toNat p) j = -1
    have j0' : rd (st.2.set c.toNat (J + 1)) d ≤ j := j0
    rw [hrh d d0] at j0'
    have hh2 := q.hlo d d0 d1
    have hd0 := hd_nonneg t d
    have hcd := cnt_nonneg t l d
    by_cases e : c = d
    · subst e
      rw [if_pos rfl] at j0'
      rw [hrd j (by omega), if_neg (by omega)]
      exact q.free c d0 d1 j (by omega) j1
    · rw [if_neg e] at j0'
      rw [hrd j (by omega), if_neg fun e' => hbk d e j (by omega) (by omega) e']
      exact q.free d d0 d1 j j0' j1
  · intro i j i0 hij j1 hv
    show rd (st.1.set J.toNat p) i ≠ rd (st.1.set J.toNat p) j
    have hv' : 0 ≤ rd (st.1.set J.toNat p) i := hv
    rw [hrd i i0] at hv' ⊢
    rw [hrd j (by omega)]
    by_cases e1 : J = i
    · rw [if_pos e1, if_neg (by omega)]
      exact fun e => hnew j (by omega) j1 e.symm
    · rw [if_neg e1] at hv' ⊢
      by_cases e2 : J = j
      · rw [if_pos e2]
        exact hnew i i0 (by omega)
      · rw [if_neg e2]
        exact q.inj i j i0 hij j1 hv'
  · intro i j i0 hij j1 hv hw
    show le (A (rd (st.1.set J.toNat p) i)) (A (rd (st.1.set J.toNat p) j))
    have hv' : 0 ≤ rd (st.1.set J.toNat p) i := hv
    have hw' : 0 ≤ rd (st.1.set J.toNat p) j := hw
    rw [hrd i i0] at hv' ⊢
    rw [hrd j (by omega)] at hw' ⊢
    by_cases e1 : J = i
    · rw [if_neg (show ¬ J = j by omega)] at hw' ⊢
      rw [if_pos e1]
      exact (hall j (by omega) j1 hw').2 (by omega)
    · rw [if_neg e1] at hv' ⊢
      by_cases e2 : J = j
      · rw [if_pos e2]
        exact (hall i i0 (by omega) hv').1 (by omega)
      · rw [if_neg e2] at hw' ⊢
        exact q.ord i j i0 hij j1 hv' hw'
/-- The long places that are there: the last one, and those ahead of what has been looked at. -/
def From (t : List Int) (short : List Bool) (i : Int) (st : St) : Prop :=
  ∀ p : Int, 0 ≤ p → p < t.length → S short p = false → ((∃ j : Int, 0 ≤ j ∧ j < t.length ∧ rd st.1 j = p) ↔ (p = t.length - 1 ∨ ∃ j : Int, 0 ≤ j ∧ j < i ∧ rd st.1 j = p + 1))
end Go.Ab.Sai


/- Induced sorting: pass 3, and the whole. Plain Lean, no program. -/
namespace Go.Ab.Sai
open Go.Ab.Wd Go.Ab.Bs
set_option linter.unusedVariables false
set_option linter.unusedSimpArgs false
variable {t : List Int} {short : List Bool} {k : Nat} {A B : Int → List Int}

/-- The long places, at their buckets' heads: up to H c. -/
structure Long (t : List Int) (short : List Bool) (k : Nat) (B : Int → List Int) (H : Int → Int) (sa : List Int) : Prop where
  l1 : sa.length = t.length
  hlo : ∀ c : Int, 0 ≤ c → c < k → hd t c ≤ H c ∧ H c ≤ hd t (c + 1)
  low : ∀ c : Int, 0 ≤ c → c < k → ∀ j : Int, hd t c ≤ j → j < H c → (0 ≤ rd sa j ∧ rd sa j < t.length) ∧ S short (rd sa j) = false ∧ rd t (rd sa j) = c
  all : ∀ p : Int, 0 ≤ p → p < t.length → S short p = false → ∃ j : Int, hd t (rd t p) ≤ j ∧ j < H (rd t p) ∧ rd sa j = p
  inj : ∀ c : Int, 0 ≤ c → c < k → ∀ i j : Int, hd t c ≤ i → i < j → j < H c → rd sa i ≠ rd sa j
  ord : ∀ c : Int, 0 ≤ c → c < k → ∀ i j : Int, hd t c ≤ i → i < j → j < H c → le (B (rd sa i)) (B (rd sa j))
/-- What stands where it will stay: the long ones, and the short ones that have been put. -/
def Fin (t : List Int) (k : Nat) (H : Int → Int) (st : St) (j : Int) : Prop := ∃ c : Int, 0 ≤ c ∧ c < k ∧ ((hd t c ≤ j ∧ j < H c) ∨ (rd st.2 c ≤ j ∧ j < hd t (c + 1)))
structure R (t : List Int) (short : List Bool) (k : Nat) (B : Int → List Int) (H : Int → Int) (st : St) : Prop where
  long : Long t short k B H st.1
  l2 : st.2.length = k
  hlo : ∀ c : Int, 0 ≤ c → c < k → H c ≤ rd st.2 c ∧ rd st.2 c ≤ hd t (c + 1)
  high : ∀ c : Int, 0 ≤ c → c < k → ∀ j : Int, rd st.2 c ≤ j → j < hd t (c + 1) → (0 ≤ rd st.1 j ∧ rd st.1 j < t.length) ∧ S short (rd st.1 j) = true ∧ rd t (rd st.1 j) = c
  inj : ∀ i j : Int, i < j → Fin t k H st i → Fin t k H st j → rd st.1 i ≠ rd st.1 j
  ord : ∀ i j : Int, i < j → Fin t k H st i → Fin t k H st j → le (B (rd st.1 i)) (B (rd st.1 j))
theorem R.loc (b : Base t short k A B) {H : Int → Int} {st : St} (r : R t short k B H st) {j : Int} (hf : Fin t k H st j) :
    ∃ c : Int, 0 ≤ c ∧ c < k ∧ hd t c ≤ j ∧ j < hd t (c + 1) ∧ rd t (rd st.1 j) = c ∧ (0 ≤ rd st.1 j ∧ rd st.1 j < t.length) ∧ ((S short (rd st.1 j) = false ∧ j < H c) ∨ (S short (rd st.1 j) = true ∧ rd st.2 c ≤ j)) := by
  obtain ⟨c, c0, c1, h | h⟩ := hf
  · have h1 := r.long.low c c0 c1 j h.1 h.2
    have h2 := r.long.hlo c c0 c1
    exact ⟨c, c0, c1, h.1, by omega, h1.2.2, h1.1, .inl ⟨h1.2.1, h.2⟩⟩
  · have h1 := r.high c c0 c1 j h.1 h.2
    have h2 := r.long.hlo c c0 c1
    have h3 := r.hlo c c0 c1
    exact ⟨c, c0, c1, by omega, h.2, h1.2.2, h1.1, .inr ⟨h1.2.1, h.1⟩⟩
theorem Fin.rng {H : Int → Int} {st : St} (r : R t short k B H st) {j : Int} (hf : Fin t k H st j) : 0 ≤ j ∧ j < t.length := by
  obtain ⟨c, c0, c1, h⟩ := hf
  have h1 := r.long.hlo c c0 c1
  have h2 := r.hlo c c0 c1
  have h3 := hd_nonneg t c
  have h4 := hd_le t (c + 1)
  omega
/-- A short place that isn't there yet is put at its bucket's end. -/
theorem R.add (b : Base t short k A B) {H : Int → Int} {st : St} (r : R t short k B H st) {p : Int} (p0 : 0 ≤ p) (p1 : p < t.length) (hs : S short p = true)
    (hnew : ∀ j : Int, Fin t k H st j → rd st.1 j ≠ p)
    (hord : ∀ j : Int, Fin t k H st j → S short (rd st.1 j) = true → rd t (rd st.1 j) = rd t p → le (B (p + 1)) (B (rd st.1 j + 1))) :
    ∃ J : Int, rd st.2 (rd t p) - 1 = J ∧ 0 ≤ J ∧ J < t.length ∧ H (rd t p) ≤ J ∧ down t st p = some (st.1.set J.toNat p, st.2.set (rd t p).toNat J) ∧ R t short k B H (st.1.set J.toNat p, st.2.set (rd t p).toNat J) ∧
      (∀ j, Fin t k H (st.1.set J.toNat p, st.2.set (rd t p).toNat J) j ↔ j = J ∨ Fin t k H st j) := by
  obtain ⟨c0, c1⟩ := b.at_ p0 p1
  obtain ⟨c, hc⟩ : ∃ c, rd t p = c := ⟨_, rfl⟩
  rw [hc] at c0 c1 ⊢
  obtain ⟨J, hJ⟩ : ∃ J, rd st.2 c - 1 = J := ⟨_, rfl⟩
  have hh := r.hlo c c0 c1
  have hg := r.long.hlo c c0 c1
  have hn0 := hd_nonneg t c
  have hn1 := hd_le t (c + 1)
  have fin_lo : ∀ j, hd t c ≤ j → j < H c → Fin t k H st j := fun j h1 h2 => ⟨c, c0, c1, .inl ⟨h1, h2⟩⟩
  have fin_hi : ∀ j, rd st.2 c ≤ j → j < hd t (c + 1) → Fin t k H st j := fun j h1 h2 => ⟨c, c0, c1, .inr ⟨h1, h2⟩⟩
  have hroom : H c ≤ J := by
    have hcount := count_le (t := t) (c := c) (l := (seg st.1 (hd t c) (H c) ++ seg st.1 (rd st.2 c) (hd t (c + 1))) ++ [p]) ?_ ?_
    · simp only [List.length_append, seg_length, List.length_cons, List.length_nil] at hcount
      omega
    · refine List.nodup_append.2 ⟨List.nodup_append.2 ⟨seg_nodup fun i j i0 hij j1 => ?_, seg_nodup fun i j i0 hij j1 => ?_, ?_⟩, by simp, ?_⟩
      · exact r.inj i j hij (fin_lo i i0 (by omega)) (fin_lo j (by omega) j1)
      · exact r.inj i j hij (fin_hi i i0 (by omega)) (fin_hi j (by omega) j1)
      · intro x hx y hy e
        obtain ⟨i, i0, i1, rfl⟩ := mem_seg.1 hx
        obtain ⟨j, j0, j1, rfl⟩ := mem_seg.1 hy
        exact r.inj i j (by omega) (fin_lo i i0 i1) (fin_hi j j0 j1) e
      · intro x hx y hy e
        rw [List.mem_singleton] at hy
        rw [hy] at e
        rcases List.mem_append.1 hx with hx | hx
        · obtain ⟨i, i0, i1, rfl⟩ := mem_seg.1 hx
          exact hnew i (fin_lo i i0 i1) e
        · obtain ⟨i, i0, i1, rfl⟩ := mem_seg.1 hx
          exact hnew i (fin_hi i i0 i1) e
    · intro x hx
      rcases List.mem_append.1 hx with hx | hx
      · rcases List.mem_append.1 hx with hx | hx
        · obtain ⟨i, i0, i1, rfl⟩ := mem_seg.1 hx
          have := r.long.low c c0 c1 i i0 i1
          exact ⟨this.1, this.2.2⟩
        · obtain ⟨i, i0, i1, rfl⟩ := mem_seg.1 hx
          have := r.high c c0 c1 i i0 i1
          exact ⟨this.1, this.2.2⟩
      · rw [List.mem_singleton] at hx
        rw [hx]
        exact ⟨⟨p0, p1⟩, hc⟩
  have J0 : 0 ≤ J := by omega
  have J1 : J < t.length := by omega
  have hrd : ∀ j : Int, 0 ≤ j → rd (st.1.set J.toNat p) j = if J = j then p else rd st.1 j := fun j j0 => rd_set J0 (by rw [r.long.l1]; exact J1) j0
  have hrh : ∀ d : Int, 0 ≤ d → rd (st.2.set c.toNat J) d = if c = d then J else rd st.2 d := fun d d0 => rd_set c0 (by rw [r.l2]; exact c1) d0
  have hbk : ∀ d : Int, c ≠ d → ∀ j : Int, hd t d ≤ j → j < hd t (d + 1) → J ≠ j := by
    intro d hne j j0 j1 e
    rcases Int.lt_trichotomy c d with hlt | hlt | hlt
    · have := hd_next t hlt; omega
    · exact hne hlt
    · have := hd_next t hlt; omega
  have hfin : ∀ j, Fin t k H (st.1.set J.toNat p, st.2.set c.toNat J) j ↔ j = J ∨ Fin t k H st j := by
    intro j
    constructor
    · rintro ⟨d, d0, d1, h | ⟨h0, h1⟩⟩
      · exact .inr ⟨d, d0, d1, .inl h⟩
      · have h0' : rd (st.2.set c.toNat J) d ≤ j := h0
        rw [hrh d d0] at h0'
        by_cases e : c = d
        · subst e
          rw [if_pos rfl] at h0'
          by_cases ej : j = J
          · exact .inl ej
          · exact .inr ⟨c, d0, d1, .inr ⟨by omega, h1⟩⟩
        · rw [if_neg e] at h0'
          exact .inr ⟨d, d0, d1, .inr ⟨h0', h1⟩⟩
    · rintro (e | ⟨d, d0, d1, h | ⟨h0, h1⟩⟩)
      · exact ⟨c, c0, c1, .inr ⟨by show rd (st.2.set c.toNat J) c ≤ j; rw [hrh c c0, if_pos rfl]; omega, by omega⟩⟩
      · exact ⟨d, d0, d1, .inl h⟩
      · refine ⟨d, d0, d1, .inr ⟨?_, h1⟩⟩
        show rd (st.2.set c.toNat J) d ≤ j
        rw [hrh d d0]
        by_cases e : c = d
        · subst e; rw [if_pos rfl]; omega
        · rw [if_neg e]; exact h0
  have hJf : ¬ Fin t k H st J := by
    rintro ⟨d, d0, d1, h⟩
    have h1 := r.long.hlo d d0 d1
    have h2 := r.hlo d d0 d1
    by_cases e : c = d
    · subst e; omega
    · rcases h with h | h
      · exact hbk d e J h.1 (by omega) rfl
      · exact hbk d e J (by omega) h.2 rfl
  have hfj : ∀ j, Fin t k H st j → rd (st.1.set J.toNat p) j = rd st.1 j := by
    intro j hj
    rw [hrd j (hj.rng r).1, if_neg ?_]
    intro e; exact hJf (e ▸ hj)
  have hall : ∀ j : Int, Fin t k H st j → (j < J → le (B (rd st.1 j)) (B p)) ∧ (J < j → le (B p) (B (rd st.1 j))) := by
    intro j hj
    obtain ⟨d, d0, d1, b0, b1, ht, hrg, hcase⟩ := r.loc b hj
    have hk2 := b.keys.BS p p0 p1 hs
    have hcp := code_yes (t := t) hs
    have hkj : ∃ y, B (rd st.1 j) = code t short (rd st.1 j) :: y := by
      rcases hcase with ⟨h, _⟩ | ⟨h, _⟩
      · rw [b.keys.BL _ hrg.1 hrg.2 h]; exact ⟨_, b.keys.AL _ hrg.1 hrg.2 h⟩
      · exact ⟨_, b.keys.BS _ hrg.1 hrg.2 h⟩
    obtain ⟨y, hy⟩ := hkj
    have hcj : 2 * d ≤ code t short (rd st.1 j) ∧ code t short (rd st.1 j) ≤ 2 * d + 1 := by
      unfold code; rw [ht]; split <;> omega
    constructor
    · intro hlt
      rcases Int.lt_trichotomy d c with hdc | hdc | hdc
      · rw [hy, hk2]
        exact le_head (by rw [hcp, hc]; omega)
      · subst hdc
        rcases hcase with ⟨h1, h2⟩ | ⟨h1, h2⟩
        · rw [hy, hk2]
          exact le_head (by rw [hcp, hc, code_no h1, ht]; omega)
        · omega
      · have := hd_next t hdc
        omega
    · intro hlt
      rcases Int.lt_trichotomy d c with hdc | hdc | hdc
      · have := hd_next t hdc
        omega
      · subst hdc
        rcases hcase with ⟨h1, h2⟩ | ⟨h1, h2⟩
        · omega
        · rw [b.keys.BS _ hrg.1 hrg.2 h1, hk2, code_yes h1, hcp, ht, hc]
          exact le_cons (hord j hj h1 (by rw [ht, hc]))
      · rw [hy, hk2]
        exact le_head (by rw [hcp, hc]; omega)
  have hlow : ∀ d : Int, 0 ≤ d → d < k → ∀ j : Int, hd t d ≤ j → j < H d → rd (st.1.set J.toNat p) j = rd st.1 j := fun d d0 d1 j h0 h1 => hfj j ⟨d, d0, d1, .inl ⟨h0, h1⟩⟩
  refine ⟨J, hJ, J0, J1, hroom, ?_, ⟨⟨by simpa using r.long.l1, r.long.hlo, ?_, ?_, ?_, ?_⟩, by simpa using r.l2, ?_, ?_, ?_, ?_⟩, hfin⟩
  · unfold down
    rw [hc, hJ, if_pos ⟨p0, p1, c0, by rw [r.l2]; exact c1, J0, by rw [r.long.l1]; exact J1⟩]
  · intro d d0 d1 j j0 j1
    show (0 ≤ rd (st.1.set J.toNat p) j ∧ rd (st.1.set J.toNat p) j < t.length) ∧ S short (rd (st.1.set J.toNat p) j) = false ∧ rd t (rd (st.1.set J.toNat p) j) = d
    rw [hlow d d0 d1 j j0 j1]
    exact r.long.low d d0 d1 j j0 j1
  · intro x x0 x1 hx
    obtain ⟨j, j0, j1, e⟩ := r.long.all x x0 x1 hx
    have hb := b.at_ x0 x1
    exact ⟨j, j0, j1, by show rd (st.1.set J.toNat p) j = x; rw [hlow _ hb.1 hb.2 j j0 j1]; exact e⟩
  · intro d d0 d1 i j i0 hij j1
    show rd (st.1.set J.toNat p) i ≠ rd (st.1.set J.toNat p) j
    rw [hlow d d0 d1 i i0 (by omega), hlow d d0 d1 j (by omega) j1]
    exact r.long.inj d d0 d1 i j i0 hij j1
  · intro d d0 d1 i j i0 hij j1
    show le (B (rd (st.1.set J.toNat p) i)) (B (rd (st.1.set J.toNat p) j))
    rw [hlow d d0 d1 i i0 (by omega), hlow d d0 d1 j (by omega) j1]
    exact r.long.ord d d0 d1 i j i0 hij j1
  · intro d d0 d1
    show H d ≤ rd (st.2.set c.toNat J) d ∧ rd (st.2.set c.toNat J) d ≤ _
    rw [hrh d d0]
    by_cases e : c = d
    · subst e; rw [if_pos rfl]; omega
    · rw [if_neg e]; exact r.hlo d d0 d1
  · intro d d0 d1 j j0 j1
    show (0 ≤ rd (st.1.set J.toNat p) j ∧ rd (st.1.set J.toNat p) j < t.length) ∧ S short (rd (st.1.set J.toNat p) j) = true ∧ rd t (rd (st.1.set J.toNat p) j) = d
    rcases (hfin j).1 ⟨d, d0, d1, .inr ⟨j0, j1⟩⟩ with e | hf
    · have e' : c = d := by
        apply Classical.byContradiction
        intro hne
        have h2 := r.hlo d d0 d1
        have h3 := r.long.hlo d d0 d1
        have j0' : rd (st.2.set c.toNat J) d ≤ j := j0
        rw [hrh d d0, if_neg hne] at j0'
        exact hbk d hne j (by omega) j1 e.symm
      rw [e, hrd J J0, if_pos rfl]
      exact ⟨⟨p0, p1⟩, hs, by rw [hc, e']⟩
    · rw [hfj j hf]
      have j0' : rd (st.2.set c.toNat J) d ≤ j := j0
      rw [hrh d d0] at j0'
      by_cases e : c = d
      · subst e
        rw [if_pos rfl] at j0'
        have : j ≠ J := fun e => hJf (e ▸ hf)
        exact r.high c d0 d1 j (by omega) j1
      · rw [if_neg e] at j0'
        exact r.high d d0 d1 j j0' j1
  · intro i j hij hi hj
    show rd (st.1.set J.toNat p) i ≠ rd (st.1.set J.toNat p) j
    rcases (hfin i).1 hi with ei | fi
    · rcases (hfin j).1 hj with ej | fj
      · omega
      · rw [hfj j fj, ei, hrd J J0, if_pos rfl]
        exact fun e => hnew j fj e.symm
    · rcases (hfin j).1 hj with ej | fj
      · rw [hfj i fi, ej, hrd J J0, if_pos rfl]
        exact hnew i fi
      · rw [hfj i fi, hfj j fj]
        exact r.inj i j hij fi fj
  · intro i j hij hi hj
    show le (B (rd (st.1.set J.toNat p) i)) (B (rd (st.1.set J.toNat p) j))
    rcases (hfin i).1 hi with ei | fi
    · rcases (hfin j).1 hj with ej | fj
      · omega
      · rw [hfj j fj, ei, hrd J J0, if_pos rfl]
        exact (hall j fj).2 (by omega)
    · rcases (hfin j).1 hj with ej | fj
      · rw [hfj i fi, ej, hrd J J0, if_pos rfl]
        exact (hall i fi).1 (by omega)
      · rw [hfj i fi, hfj j fj]
        exact r.ord i j hij fi fj
end Go.Ab.Sai


/- Induced sorting: pieces, names, and the shorter text. Plain Lean, no program. -/
namespace Go.Ab.Sai
open Go.Ab.Wd Go.Ab.Bs
set_option linter.unusedVariables false
set_option linter.unusedSimpArgs false
section
variable (t : List Int) (short : List Bool)

/-! ### the two orders -/
open Classical in
/-- A place's piece, up to the next left place; of a left place its number alone. -/
noncomputable def keyA : Nat → Int → List Int
  | 0, _ => []
  | d + 1, p => if Lf short p then [code t short p] else code t short p :: keyA d (p + 1)
noncomputable def A1 (p : Int) : List Int := keyA t short (t.length - p).toNat p
noncomputable def B1 (p : Int) : List Int := if p < t.length then code t short p :: A1 t short (p + 1) else []
def keyT : Nat → Int → List Int
  | 0, _ => []
  | d + 1, p => code t short p :: keyT d (p + 1)
def K2 (p : Int) : List Int := keyT t short (t.length - p).toNat p
end
variable {t : List Int} {short : List Bool} {k : Nat}
/-! ### pieces and suffixes -/
/-- The next left place. -/
structure Next (t : List Int) (short : List Bool) (p p' : Int) : Prop where
  gt : p < p'
  lt : p' < t.length
  left : Lf short p'
  none_ : ∀ x : Int, p < x → x < p' → ¬ Lf short x
/-! ### the left places in the text's order -/
structure Asc (t : List Int) (short : List Bool) (l : List Int) : Prop extends Lefts t short l where
  asc : l.Pairwise (· < ·)
theorem Asc.lt {l : List Int} (h : Asc t short l) {i j : Int} (i0 : 0 ≤ i) (hij : i < j) (j1 : j < l.length) : rd l i < rd l j := by
  obtain ⟨i, rfl⟩ := Int.eq_ofNat_of_zero_le i0
  obtain ⟨j, rfl⟩ := Int.eq_ofNat_of_zero_le (show 0 ≤ j by omega)
  rw [rd_getElem (by omega), rd_getElem (by omega)]
  exact List.pairwise_iff_getElem.1 h.asc i j (by omega) (by omega) (by omega)
theorem Asc.next {l : List Int} (h : Asc t short l) {i p' : Int} (i0 : 0 ≤ i) (i1 : i < l.length) (n : Next t short (rd l i) p') : i + 1 < l.length ∧ rd l (i + 1) = p' := by
  have hi := (h.mem _).1 (rd_mem (l := l) i0 i1)
  have hm : p' ∈ l := (h.mem p').2 ⟨⟨by have := n.gt; omega, n.lt⟩, n.left⟩
  obtain ⟨j, j0, j1, e⟩ := mem_rd hm
  have hj : i < j := by
    apply Classical.byContradiction
    intro hn
    by_cases e' : j = i
    · rw [e'] at e; have := n.gt; omega
    · have := h.lt j0 (show j < i by omega) i1
      have := n.gt
      omega
  by_cases e' : j = i + 1
  · exact ⟨by omega, by rw [← e', e]⟩
  · exfalso
    have h1 := h.lt i0 (show i < i + 1 by omega) (show i + 1 < l.length by omega)
    have h2 := h.lt (i := i + 1) (by omega) (show i + 1 < j by omega) j1
    exact n.none_ (rd l (i + 1)) h1 (by omega) ((h.mem _).1 (rd_mem (by omega) (by omega))).2
/-! ### the names, along the array -/
/-- names, the last name, the last left place -/
def name (lf : Int → Bool) (same : Int → Int → Bool) : List Int → List Int → Int → Int → List Int × Int
  | [], nm, top, _ => (nm, top)
  | p :: ps, nm, top, last =>
    if lf p = true then
      let top' := if last < 0 ∨ same last p = false then top + 1 else top
      name lf same ps (nm.set p.toNat top') top' p
    else name lf same ps nm top last
end Go.Ab.Sai


/- The sorter. -/
namespace Go.Ab
open Go Go.Proofs Go.Ab.Wd Go.Ab.Bs
set_option linter.unusedVariables false
set_option linter.unusedSimpArgs false
theorem Store.Ints.rd {σ : Store} {h : Hdl} {l : List Int} (s : σ.Ints h l) {i : Int} (h0 : 0 ≤ i) (h1 : i < l.length) : σ.ldInt .i64 (h.idx i 1) = some (Wd.rd l i) := Store.Ints.ld s h0 h1
theorem Store.Bools.rd {σ : Store} {h : Hdl} {l : List Bool} (s : σ.Bools h l) {i : Int} (h0 : 0 ≤ i) (h1 : i < l.length) : σ.ldBool (h.idx i 1) = some (Wd.rdOf false l i) := Store.Bools.ld s h0 h1
structure Sorter (σ : Store) (p : Ptr) (ht hs ha : Hdl) (kk : Nat) (t : List Int) (sh : List Bool) (sa : List Int) : Prop where
  nn : ∃ x, p = some x
  t_ : σ.ldSl (Ptr.add p 0) = some ht
  k_ : σ.ldInt .i64 (Ptr.add p 1) = some (kk : Int)
  s_ : σ.ldSl (Ptr.add p 2) = some hs
  a_ : σ.ldSl (Ptr.add p 3) = some ha
  t : σ.Ints ht t
  s : σ.Bools hs sh
  a : σ.Ints ha sa
end Go.Ab


/- A place is put at the head of its bucket. -/
namespace Go.Ab
open Go Go.Proofs Go.Ab.Wd Go.Ab.Bs
set_option linter.unusedVariables false
set_option linter.unusedSimpArgs false
/-- Only two rows are others. -/
structure Off2 (a b : Nat) (σ σ' : Store) : Prop where
  prot : σ'.prot = σ.prot
  len : σ'.objs.length = σ.objs.length
  off : ∀ c, c ≠ a → c ≠ b → σ'.objs[c]? = σ.objs[c]?
theorem Off2.refl (a b : Nat) (σ : Store) : Off2 a b σ σ := ⟨rfl, rfl, fun _ _ _ => rfl⟩
theorem Off2.trans {a b : Nat} {σ σ1 σ2 : Store} (h : Off2 a b σ σ1) (k : Off2 a b σ1 σ2) : Off2 a b σ σ2 := ⟨k.prot.trans h.prot, k.len.trans h.len, fun c h1 h2 => (k.off c h1 h2).trans (h.off c h1 h2)⟩
theorem Off.two {a b : Nat} {σ σ1 σ2 : Store} (h : Off a σ σ1) (k : Off b σ1 σ2) : Off2 a b σ σ2 := ⟨k.prot.trans h.prot, k.len.trans h.len, fun c h1 h2 => (k.off c h2).trans (h.off c h1)⟩
theorem Store.Wr.off {σ σ' : Store} {h : Hdl} (w : σ.Wr h) {b : Nat} (k : Off b σ σ') (hr : h.row ≠ some b) : σ'.Wr h := by
  obtain ⟨c, o, cs, h1, h2, h3⟩ := w
  exact ⟨c, o, cs, h1, (k.off c (fun e => hr (by simp [Hdl.row, h1, e]))).trans h2, by rw [k.prot]; exact h3⟩
/-- The sorter at work: its rows, the two boxes that the closure holds, the buckets' row. -/
structure Ind (σ : Store) (c1 c2 p : Ptr) (ht hs ha hh : Hdl) (ba bh kk : Nat) (t : List Int) (sh : List Bool) (st : Sai.St) : Prop where
  so : Sorter σ p ht hs ha kk t sh st.1
  e1 : σ.ldPtr c1 = some p
  e2 : σ.ldSl c2 = some hh
  h : σ.Ints hh st.2
  wa : σ.Wr ha
  wh : σ.Wr hh
  ra : ha.row = some ba
  rh : hh.row = some bh
  ab : ba ≠ bh
  far : ∀ b, b = ba ∨ b = bh → p.row ≠ some b ∧ c1.row ≠ some b ∧ c2.row ≠ some b ∧ ht.row ≠ some b ∧ hs.row ≠ some b
theorem Sorter.off {σ σ' : Store} {p : Ptr} {ht hs ha : Hdl} {kk : Nat} {t : List Int} {sh : List Bool} {sa : List Int} (S : Sorter σ p ht hs ha kk t sh sa) {b : Nat} (k : Off b σ σ') (r1 : p.row ≠ some b) (r2 : ht.row ≠ some b) (r3 : hs.row ≠ some b)
    {sa' : List Int} (ha' : σ'.Ints ha sa') : Sorter σ' p ht hs ha kk t sh sa' :=
  ⟨S.nn, (ldSl_cell (cell_off k (by simpa using r1))).trans S.t_, (ldInt_cell (cell_off k (by simpa using r1))).trans S.k_, (ldSl_cell (cell_off k (by simpa using r1))).trans S.s_, (ldSl_cell (cell_off k (by simpa using r1))).trans S.a_, S.t.off k r2, S.s.off k r3, ha'⟩
end Go.Ab


/- slices.Backward. -/
namespace Go.Ab
open Go Go.Proofs Go.Ab.Wd Go.Ab.Bs
set_option linter.unusedVariables false
set_option linter.unusedSimpArgs false
end Go.Ab


/- The buckets. -/
namespace Go.Ab
open Go Go.Proofs Go.Ab.Wd Go.Ab.Bs Go.Ab.Sai
set_option linter.unusedVariables false
set_option linter.unusedSimpArgs false
theorem ext_rd {l m : List Int} (hl : l.length = m.length) (h : ∀ c : Int, 0 ≤ c → c < l.length → rd l c = rd m c) : l = m := by
  refine List.ext_getElem hl fun i h1 h2 => ?_
  have := h i (by omega) (by omega)
  rwa [rd_getElem h1, rd_getElem h2] at this
theorem hd_take (t : List Int) {i : Int} (h0 : 0 ≤ i) (h1 : i < t.length) (c : Int) : hd (t.take (i + 1).toNat) c = hd (t.take i.toNat) c + if rd t i < c then 1 else 0 := by
  obtain ⟨i, rfl⟩ := Int.eq_ofNat_of_zero_le h0
  have hi : i < t.length := by omega
  rw [rd_getElem hi, show ((i : Int) + 1).toNat = i + 1 by omega, show ((i : Int)).toNat = i by omega, show t.take (i + 1) = t.take i ++ [t[i]] by rw [List.take_add_one]; simp [hi]]
  unfold hd
  rw [List.filter_append]
  by_cases c' : t[i] < c
  · rw [if_pos c', List.filter_cons_of_pos (by simpa using c')]; simp
  · rw [if_neg c', List.filter_cons_of_neg (by simpa using c')]; simp
/-- How many of the first i numbers are c, for all c. -/
def Cnt (t : List Int) (kk : Nat) (i : Int) (L : List Int) : Prop := L.length = kk ∧ ∀ c : Int, 0 ≤ c → c < kk → rd L c = hd (t.take i.toNat) (c + 1) - hd (t.take i.toNat) c
theorem Cnt.zero (t : List Int) (kk : Nat) : Cnt t kk 0 (List.replicate kk 0) := by
  refine ⟨by simp, fun c h0 h1 => ?_⟩
  obtain ⟨c, rfl⟩ := Int.eq_ofNat_of_zero_le h0
  rw [rd_getElem (by simp; omega)]
  simp [hd]
theorem Cnt.step {t : List Int} {kk : Nat} {i : Int} {L : List Int} (h : Cnt t kk i L) (h0 : 0 ≤ i) (h1 : i < t.length) (hr : 0 ≤ rd t i ∧ rd t i < kk) : Cnt t kk (i + 1) (L.set (rd t i).toNat (rd L (rd t i) + 1)) := by
  refine ⟨by simp [h.1], fun c c0 c1 => ?_⟩
  rw [rd_set hr.1 (by rw [h.1]; omega) c0, hd_take t h0 h1, hd_take t h0 h1, h.2 _ hr.1 hr.2, h.2 c c0 c1]
  by_cases e : rd t i = c
  · subst e; rw [if_pos rfl, if_pos (by omega), if_neg (by omega)]; omega
  · rw [if_neg e]
    by_cases e2 : rd t i < c
    · rw [if_pos (by omega), if_pos e2]; omega
    · rw [if_neg (by omega), if_neg e2]; omega
/-- The first i are sums, the others counts. -/
def Sums (t : List Int) (kk : Nat) (e : Bool) (i : Int) (M : List Int) : Prop := M.length = kk ∧ (∀ c : Int, 0 ≤ c → c < i → rd M c = if e = true then hd t (c + 1) else hd t c) ∧ ∀ c : Int, i ≤ c → 0 ≤ c → c < kk → rd M c = hd t (c + 1) - hd t c
def bk (e : Bool) (t : List Int) (kk : Nat) : List Int := if e = true then tails t kk else heads t kk
theorem bk_length (e : Bool) (t : List Int) (kk : Nat) : (bk e t kk).length = kk := by unfold bk; split <;> simp [tails, heads]
theorem Sums.end {t : List Int} {kk : Nat} {e : Bool} {M : List Int} (h : Sums t kk e kk M) : M = bk e t kk := by
  refine ext_rd (by rw [h.1, bk_length]) fun c c0 c1 => ?_
  rw [h.1] at c1
  rw [h.2.1 c c0 c1]
  cases e
  · simp only [bk]; rw [if_neg (by simp), if_neg (by simp), rd_heads t kk c0 c1]
  · simp only [bk, if_true]; rw [rd_tails t kk c0 c1]
theorem Sums.step {t : List Int} {kk : Nat} {e : Bool} {i : Int} {M : List Int} (h : Sums t kk e i M) (h0 : 0 ≤ i) (h1 : i < kk) : Sums t kk e (i + 1) (M.set i.toNat (if e = true then hd t (i + 1) else hd t i)) := by
  refine ⟨by simp [h.1], fun c c0 c1 => ?_, fun c c0 c1 c2 => ?_⟩
  · rw [rd_set h0 (by rw [h.1]; omega) c0]
    by_cases e2 : i = c
    · subst e2; rw [if_pos rfl]
    · rw [if_neg e2]; exact h.2.1 c c0 (by omega)
  · rw [rd_set h0 (by rw [h.1]; omega) c1, if_neg (by omega)]; exact h.2.2 c (by omega) c1 c2
theorem mkCells_ints (n : Nat) : mkCells [.int .i64 0] n = intsL (List.replicate n 0) := by simp [mkCells, intsL]
theorem Sorter.lt {σ : Store} {p : Ptr} {ht hs ha : Hdl} {kk : Nat} {t : List Int} {sh : List Bool} {sa : List Int} (S : Sorter σ p ht hs ha kk t sh sa) : ∀ b, p.row = some b → b < σ.objs.length := by
  intro b hb
  have := S.t_
  cases p with
  | none => cases hb
  | some x =>
    obtain ⟨c, o⟩ := x
    simp [Ptr.row] at hb; subst hb
    simp only [Ptr.add, Option.map_some, Store.ldSl, Store.cell] at this
    by_cases h : c < σ.objs.length
    · exact h
    · rw [List.getElem?_eq_none (by omega)] at this; cases this
end Go.Ab


/- The passes of induce. -/
namespace Go.Ab
open Go Go.Proofs Go.Ab.Wd Go.Ab.Bs Go.Ab.Sai
set_option linter.unusedVariables false
set_option linter.unusedSimpArgs false
end Go.Ab


/- The passes of induce: to the buckets' ends. -/
namespace Go.Ab
open Go Go.Proofs Go.Ab.Wd Go.Ab.Bs Go.Ab.Sai
set_option linter.unusedVariables false
set_option linter.unusedSimpArgs false
def Rng (t : List Int) (l : List Int) : Prop := ∀ x ∈ l, -1 ≤ x ∧ x < t.length
theorem Rng.set {t l : List Int} (h : Rng t l) {p : Int} (p0 : 0 ≤ p) (p1 : p < t.length) (n : Nat) : Rng t (l.set n p) := by
  intro x hx
  rcases List.mem_or_eq_of_mem_set hx with hx | rfl
  · exact h x hx
  · omega
end Go.Ab


/- The first pass of induce: rounds of a loop over slices.Backward. -/
namespace Go.Ab
open Go Go.Proofs Go.Ab.Wd Go.Ab.Bs Go.Ab.Sai
set_option linter.unusedVariables false
set_option linter.unusedSimpArgs false
end Go.Ab


/- induce: the row is emptied; the first pass whole. -/
namespace Go.Ab
open Go Go.Proofs Go.Ab.Wd Go.Ab.Bs Go.Ab.Sai
set_option linter.unusedVariables false
set_option linter.unusedSimpArgs false
end Go.Ab


/- induce, whole. -/
namespace Go.Ab
open Go Go.Proofs Go.Ab.Wd Go.Ab.Bs Go.Ab.Sai
set_option linter.unusedVariables false
set_option linter.unusedSimpArgs false
/-- The sorter, and where its rows lie. -/
structure Env (σ : Store) (c1 p : Ptr) (ht hs ha : Hdl) (ba kk : Nat) (t : List Int) (sh : List Bool) (sa : List Int) : Prop where
  so : Sorter σ p ht hs ha kk t sh sa
  e1 : σ.ldPtr c1 = some p
  wa : σ.Wr ha
  ra : ha.row = some ba
  pr : σ.prot ≤ σ.objs.length
  lt : ∀ b, p.row = some b ∨ c1.row = some b ∨ ht.row = some b ∨ hs.row = some b ∨ b = ba → b < σ.objs.length
  far : p.row ≠ some ba ∧ c1.row ≠ some ba ∧ ht.row ≠ some ba ∧ hs.row ≠ some ba
theorem Sorter.kp {σ σ' : Store} {p : Ptr} {ht hs ha : Hdl} {kk : Nat} {t : List Int} {sh : List Bool} {sa : List Int} (S : Sorter σ p ht hs ha kk t sh sa) (k : Kp σ.objs.length σ σ') : Sorter σ' p ht hs ha kk t sh sa := by
  have hl := S.lt
  have hc : ∀ n, σ'.cell (Ptr.add p n) = σ.cell (Ptr.add p n) := fun n => cell_kp k (by simpa using hl)
  exact ⟨S.nn, (ldSl_cell (hc 0)).trans S.t_, (ldInt_cell (hc 1)).trans S.k_, (ldSl_cell (hc 2)).trans S.s_, (ldSl_cell (hc 3)).trans S.a_, Store.Sl.kp S.t k, Store.Sl.kp S.s k, Store.Sl.kp S.a k⟩
theorem Store.Wr.kp {σ σ' : Store} {h : Hdl} (w : σ.Wr h) (k : Kp σ.objs.length σ σ') : σ'.Wr h := by
  obtain ⟨b, o, cs, h1, h2, h3⟩ := w
  exact ⟨b, o, cs, h1, (k.keep b (List.getElem?_eq_some_iff.1 h2).1).trans h2, by rw [k.prot]; exact h3⟩
theorem Env.kp {σ σ' : Store} {c1 p : Ptr} {ht hs ha : Hdl} {ba kk : Nat} {t : List Int} {sh : List Bool} {sa : List Int} (E : Env σ c1 p ht hs ha ba kk t sh sa) (k : Kp σ.objs.length σ σ') : Env σ' c1 p ht hs ha ba kk t sh sa :=
  ⟨E.so.kp k, (ldPtr_cell (cell_kp k fun b hb => E.lt b (.inr (.inl hb)))).trans E.e1, E.wa.kp k, E.ra, by rw [k.prot]; exact Nat.le_trans E.pr k.len, fun b hb => Nat.lt_of_lt_of_le (E.lt b hb) k.len, E.far⟩
end Go.Ab


/- induce: its end. -/
namespace Go.Ab
open Go Go.Proofs Go.Ab.Wd Go.Ab.Bs Go.Ab.Sai
set_option linter.unusedVariables false
set_option linter.unusedSimpArgs false
/-- The sorter at work, out of where its rows lie. -/
theorem Env.ind {σ : Store} {c1 p : Ptr} {ht hs ha : Hdl} {ba kk : Nat} {t : List Int} {sh : List Bool} {sa : List Int} (E : Env σ c1 p ht hs ha ba kk t sh sa) {c2 : Ptr} {hh : Hdl} {bh : Nat} {hd' : List Int}
    (e2 : σ.ldSl c2 = some hh) (h : σ.Ints hh hd') (wh : σ.Wr hh) (rh : hh.row = some bh) (ab : ba ≠ bh) (n1 : p.row ≠ some bh) (n2 : c1.row ≠ some bh) (n3 : ht.row ≠ some bh) (n4 : hs.row ≠ some bh) (r2 : c2.row ≠ some ba) (r3 : c2.row ≠ some bh) :
    Ind σ c1 c2 p ht hs ha hh ba bh kk t sh (sa, hd') := by
  refine ⟨E.so, E.e1, e2, h, E.wa, wh, E.ra, rh, ab, fun b hb => ?_⟩
  obtain ⟨f1, f2, f3, f4⟩ := E.far
  rcases hb with rfl | rfl
  · exact ⟨f1, f2, r2, f3, f4⟩
  · exact ⟨n1, n2, r3, n3, n4⟩
end Go.Ab


/- induce: what follows the first pass. -/
namespace Go.Ab
open Go Go.Proofs Go.Ab.Wd Go.Ab.Bs Go.Ab.Sai
set_option linter.unusedVariables false
set_option linter.unusedSimpArgs false
end Go.Ab


/- induce, whole. -/
namespace Go.Ab
open Go Go.Proofs Go.Ab.Wd Go.Ab.Bs Go.Ab.Sai
set_option linter.unusedVariables false
set_option linter.unusedSimpArgs false
end Go.Ab


/- The array of a list's suffixes, reckoned: each put among the others. -/
namespace Go.Ab.Bs
open Go.Ab.Wd
set_option linter.unusedVariables false
set_option linter.unusedSimpArgs false
instance decLlt : ∀ a b : List Int, Decidable (llt a b)
  | [], [] => .isFalse (by simp [llt])
  | [], _ :: _ => .isTrue (by simp [llt])
  | _ :: _, [] => .isFalse (by simp [llt])
  | x :: xs, y :: ys =>
    if h : x < y then .isTrue (.inl h) else if h' : x = y then
      match decLlt xs ys with
      | .isTrue k => .isTrue (.inr ⟨h', k⟩)
      | .isFalse k => .isFalse fun e => e.elim h (fun e => k e.2)
    else .isFalse fun e => e.elim h (fun e => h' e.1)
instance decSl (t : List Int) (p q : Int) : Decidable (sl t p q) := decLlt _ _
/-- So many of a list, sorted, are less than p. -/
structure Srt (t l : List Int) (n : Int) : Prop where
  rng : ∀ p ∈ l, 0 ≤ p ∧ p < n
  ord : l.Pairwise (sl t)
  all : ∀ p : Int, 0 ≤ p → p < n → p ∈ l
theorem Srt.nd {t l : List Int} {n : Int} (h : Srt t l n) : l.Nodup := by
  unfold List.Nodup
  refine h.ord.imp ?_
  intro a b hs e
  rw [e] at hs
  exact sl_irrefl t b hs
theorem Srt.len {t l : List Int} {n : Int} (h : Srt t l n) (hn : 0 ≤ n) : (l.length : Int) = n := by
  have h1 := nodup_sub_len h.nd (m := places n.toNat) (fun p hp => mem_places.2 (by have := h.rng p hp; omega))
  have h2 := nodup_sub_len (nodup_places n.toNat) (m := l) (fun p hp => by have := mem_places.1 hp; exact h.all p this.1 (by omega))
  rw [places_length] at h1 h2
  omega
end Go.Ab.Bs


/- What the sorter does, plainly: names of pieces, short places, the left ones; sorting whole. -/
namespace Go.Ab.Sai
open Go.Ab.Wd Go.Ab.Bs
set_option linter.unusedVariables false
set_option linter.unusedSimpArgs false
def lfB (short : List Bool) (p : Int) : Bool := decide (0 < p) && (rdOf false short p && !rdOf false short (p - 1))
def sm (t : List Int) (short : List Bool) (a b : Int) : Nat → Int → Bool
  | 0, _ => false
  | m + 1, i =>
    if a + i < t.length ∧ b + i < t.length ∧ rd t (a + i) = rd t (b + i) ∧ S short (a + i) = S short (b + i) then
      if 0 < i ∧ (lfB short (a + i) = true ∨ lfB short (b + i) = true) then lfB short (a + i) && lfB short (b + i) else sm t short a b m (i + 1)
    else false
/-! ### which places are short -/
end Go.Ab.Sai


/- same. -/
namespace Go.Ab
open Go Go.Proofs Go.Ab.Wd Go.Ab.Bs Go.Ab.Sai
set_option linter.unusedVariables false
set_option linter.unusedSimpArgs false
end Go.Ab


/- sort: its loops. -/
namespace Go.Ab
open Go Go.Proofs Go.Ab.Wd Go.Ab.Bs Go.Ab.Sai
set_option linter.unusedVariables false
set_option linter.unusedSimpArgs false
abbrev hdS (N n : Nat) : Hdl := ⟨some (N, 0), n, some n⟩
/-- The sorter's own rows, from N on. -/
structure SS (σ0 σ : Store) (h : Hdl) (kk : Nat) (t : List Int) (sh : List Bool) (sa : List Int) : Prop where
  kp : Kp σ0.objs.length σ0 σ
  ht : σ0.Ints h t
  rs : σ.Row σ0.objs.length 1 (boolsL sh)
  rg : σ.Row (σ0.objs.length + 2) 4 [.slice h, .int .i64 kk, .slice (hdS σ0.objs.length t.length), .slice (hdS (σ0.objs.length + 1) t.length)]
  a : σ.Ints (hdS (σ0.objs.length + 1) t.length) sa
  wa : σ.Wr (hdS (σ0.objs.length + 1) t.length)
  ls : sh.length = t.length
  la : sa.length = t.length
  pr : σ0.prot ≤ σ0.objs.length
  hh : ∀ b, h.row = some b → b < σ0.objs.length
section
variable {σ0 σ σ' : Store} {h : Hdl} {kk : Nat} {t : List Int} {sh : List Bool} {sa : List Int}
theorem SS.len (S : SS σ0 σ h kk t sh sa) : σ0.objs.length + 3 ≤ σ.objs.length := by have := S.rg.lt; omega
theorem SS.prot (S : SS σ0 σ h kk t sh sa) : σ.prot ≤ σ0.objs.length := by rw [S.kp.prot]; exact S.pr
theorem SS.sorter (S : SS σ0 σ h kk t sh sa) : Sorter σ (some (σ0.objs.length + 2, 0)) h (hdS σ0.objs.length t.length) (hdS (σ0.objs.length + 1) t.length) kk t sh sa := by
  have c := S.rg.cell
  refine ⟨⟨_, rfl⟩, ?_, ?_, ?_, ?_, Store.Sl.kp S.ht S.kp, S.rs.sl (by simp [S.ls]), S.a⟩
  · simp [Store.ldSl, Ptr.add, c]
  · simp [Store.ldInt, Ptr.add, c]
  · simp [Store.ldSl, Ptr.add, c]
  · simp [Store.ldSl, Ptr.add, c]
theorem SS.keep (S : SS σ0 σ h kk t sh sa) {n : Nat} (hn : σ0.objs.length + 3 ≤ n) (k : Kp n σ σ') : SS σ0 σ' h kk t sh sa := by
  refine ⟨S.kp.then k (by omega), S.ht, S.rs.kp k (by omega), S.rg.kp k (by omega), S.a.keep fun b o e => k.keep b ?_, ?_, S.ls, S.la, S.pr, S.hh⟩
  · simp [hdS] at e; omega
  · obtain ⟨b, o, cs, h1, h2, h3⟩ := S.wa
    have : b < n := by simp [hdS] at h1; omega
    exact ⟨b, o, cs, h1, (k.keep b this).trans h2, by rw [k.prot]; exact h3⟩
end
end Go.Ab


/- sort: the later loops. -/
namespace Go.Ab
open Go Go.Proofs Go.Ab.Wd Go.Ab.Bs Go.Ab.Sai
set_option linter.unusedVariables false
set_option linter.unusedSimpArgs false
theorem take_rd {l : List Int} {i : Nat} (h : i < l.length) : l.take (i + 1) = l.take i ++ [rd l i] := by rw [List.take_add_one, rd_getElem h]; simp [h]
section
variable {σ0 σ σ' : Store} {h : Hdl} {kk : Nat} {t : List Int} {sh : List Bool} {sa : List Int}
end
end Go.Ab


/- sort, whole; Array. -/
namespace Go.Ab
open Go Go.Proofs Go.Ab.Wd Go.Ab.Bs Go.Ab.Sai
set_option linter.unusedVariables false
set_option linter.unusedSimpArgs false
theorem Grow.row {σ : Store} {n : Nat} {h : Hdl} {es : Nat} {l : List AV} (g : Grow σ n h es l) : ∀ b, h.row = some b → n ≤ b ∧ b < σ.objs.length := fun b e => by
  cases ha : h.a with
  | none => simp [Hdl.row, ha] at e
  | some bo => obtain ⟨c, o⟩ := bo; simp [Hdl.row, ha] at e; subst e; exact g.rowLt c o ha
end Go.Ab


/- Lists compared; what of a list has a property; which lists are right. -/
namespace Go.Ab
open Go Go.Proofs Go.Ab.Wd Go.Ab.Bs Go.Ab.Sai
set_option linter.unusedVariables false
set_option linter.unusedSimpArgs false
theorem wsucc {i n : Nat} (hi : i < n) (hn : n < 2 ^ 62) : IntKind.wrap .i64 ((i : Int) + 1) = (i + 1 : Nat) := wrap64 (by omega) (by omega)
theorem same_run {σ : Store} {h h' : Hdl} {a b : List Int} (ha : σ.Ints h a) (hb : σ.Ints h' b) (hn : a.length < 2 ^ 62) : Runs Try.prog 22 [.slice h, .slice h'] σ (.bool (decide (a = b))) σ := by
  refine Runs.intro (fn := Try.f22) (by kernel_rfl) (by kernel_rfl) ?_
  have la := ha.ilen
  have lb := hb.ilen
  by_cases c : a.length = b.length
  · obtain ⟨r, e, q⟩ := EvI.upX (f := fun k s => stepF Try.prog (gm Try.prog k) drawn k Try.f22 [1, 1, 0, 1, 0] [13, 12, 1, 0] s) a.length
      (fun i s => s = ([.int .i64 i, .int .i64 a.length, .slice h', .slice h], σ) ∧ a.take i = b.take i)
      (fun r => (r = (AX.ret, [(4, .bool false)], σ) ∧ a ≠ b) ∨ (r = (AX.exit 0, [], σ) ∧ a = b))
      (by
        rintro i s hi ⟨rfl, hp⟩
        have i0 : (0 : Int) ≤ i := by omega
        have i1 : (i : Int) < a.length := by omega
        have i2 : (i : Int) < b.length := by omega
        have w := wsucc hi hn
        by_cases e : rd a i = rd b i
        · exact .inl ⟨_, Ev.of fun k => by simp only [f22_L11010]; simp only [Option.bind_some, decide_eq_true_eq, decide_eq_false_iff_not, Bool.not_eq_true', Bool.not_true, Bool.not_false, Bool.false_eq_true, Bool.true_eq_false, Bool.not_eq_eq_eq_not, beq_self_eq_true, beqFT, beqTF, decide_true, decide_false, not_false_eq_true, not_true_eq_false, ne_eq, true_and, and_true, false_and, and_false, and_self, if_true, if_false, ite_true, ite_false, Bool.and_true, Bool.and_false, Bool.true_and, Bool.false_and, Bool.or_true, Bool.true_or, Bool.or_false, Bool.false_or, or_true, true_or, or_false, false_or, or_self, AV.asInt, AV.asBool, AV.asSl, AV.asPtr, AV.asFn, AV.asStr, AV.asMap, AV.asIfc, AV.item, List.length_cons, List.length_nil, List.getElem?_cons_zero, List.getElem?_cons_succ, Nat.zero_add, la, lb, i0, i1, i2, ha.rd i0 i1, hb.rd i0 i2, e, w], rfl, by rw [take_rd hi, take_rd (by omega), hp, e]⟩
        · exact .inr ⟨_, Ev.of fun k => by simp only [f22_L11010]; simp only [Option.bind_some, decide_eq_true_eq, decide_eq_false_iff_not, Bool.not_eq_true', Bool.not_true, Bool.not_false, Bool.false_eq_true, Bool.true_eq_false, Bool.not_eq_eq_eq_not, beq_self_eq_true, beqFT, beqTF, decide_true, decide_false, not_false_eq_true, not_true_eq_false, ne_eq, true_and, and_true, false_and, and_false, and_self, if_true, if_false, ite_true, ite_false, Bool.and_true, Bool.and_false, Bool.true_and, Bool.false_and, Bool.or_true, Bool.true_or, Bool.or_false, Bool.false_or, or_true, true_or, or_false, false_or, or_self, AV.asInt, AV.asBool, AV.asSl, AV.asPtr, AV.asFn, AV.asStr, AV.asMap, AV.asIfc, AV.item, List.length_cons, List.length_nil, List.getElem?_cons_zero, List.getElem?_cons_succ, Nat.zero_add, la, lb, i0, i1, i2, ha.rd i0 i1, hb.rd i0 i2, e, w], .inl ⟨rfl, fun h => e (by rw [h])⟩⟩)
      (by
        rintro s ⟨rfl, hp⟩
        refine ⟨_, Ev.of fun k => by simp only [f22_L11010]; simp only [Option.bind_some, decide_eq_true_eq, decide_eq_false_iff_not, Bool.not_eq_true', Bool.not_true, Bool.not_false, Bool.false_eq_true, Bool.true_eq_false, Bool.not_eq_eq_eq_not, beq_self_eq_true, beqFT, beqTF, decide_true, decide_false, not_false_eq_true, not_true_eq_false, ne_eq, true_and, and_true, false_and, and_false, and_self, if_true, if_false, ite_true, ite_false, Bool.and_true, Bool.and_false, Bool.true_and, Bool.false_and, Bool.or_true, Bool.true_or, Bool.or_false, Bool.false_or, or_true, true_or, or_false, false_or, or_self, AV.asInt, AV.asBool, AV.asSl, AV.asPtr, AV.asFn, AV.asStr, AV.asMap, AV.asIfc, AV.item, List.length_cons, List.length_nil, List.getElem?_cons_zero, List.getElem?_cons_succ, Nat.zero_add, Int.lt_irrefl], .inr ⟨rfl, ?_⟩⟩
        rw [List.take_of_length_le (Nat.le_refl _), List.take_of_length_le (by omega)] at hp; exact hp)
      (Nat.zero_le _) (s := ([.int .i64 0, .int .i64 a.length, .slice h', .slice h], σ)) ⟨rfl, by simp⟩
    rcases q with ⟨rfl, q⟩ | ⟨rfl, q⟩
    · rw [decide_eq_false q]
      refine (Ev.bind (loopF_ev e) (Ev.of fun k => f22_X11010_1 (gm Try.prog k) k σ _)).congr fun k => ?_
      rw [f22_eq]; simp only [Option.bind_some, decide_eq_true_eq, decide_eq_false_iff_not, Bool.not_eq_true', Bool.not_true, Bool.not_false, Bool.false_eq_true, Bool.true_eq_false, Bool.not_eq_eq_eq_not, beq_self_eq_true, beqFT, beqTF, decide_true, decide_false, not_false_eq_true, not_true_eq_false, ne_eq, true_and, and_true, false_and, and_false, and_self, if_true, if_false, ite_true, ite_false, Bool.and_true, Bool.and_false, Bool.true_and, Bool.false_and, Bool.or_true, Bool.true_or, Bool.or_false, Bool.false_or, or_true, true_or, or_false, false_or, or_self, AV.asInt, AV.asBool, AV.asSl, AV.asPtr, AV.asFn, AV.asStr, AV.asMap, AV.asIfc, AV.item, List.length_cons, List.length_nil, List.getElem?_cons_zero, List.getElem?_cons_succ, Nat.zero_add, la, lb, c]
    · rw [decide_eq_true q]
      refine (Ev.bind (loopF_ev e) (Ev.of fun k => f22_X11010_2 (gm Try.prog k) k σ)).congr fun k => ?_
      rw [f22_eq]; simp only [Option.bind_some, decide_eq_true_eq, decide_eq_false_iff_not, Bool.not_eq_true', Bool.not_true, Bool.not_false, Bool.false_eq_true, Bool.true_eq_false, Bool.not_eq_eq_eq_not, beq_self_eq_true, beqFT, beqTF, decide_true, decide_false, not_false_eq_true, not_true_eq_false, ne_eq, true_and, and_true, false_and, and_false, and_self, if_true, if_false, ite_true, ite_false, Bool.and_true, Bool.and_false, Bool.true_and, Bool.false_and, Bool.or_true, Bool.true_or, Bool.or_false, Bool.false_or, or_true, true_or, or_false, false_or, or_self, AV.asInt, AV.asBool, AV.asSl, AV.asPtr, AV.asFn, AV.asStr, AV.asMap, AV.asIfc, AV.item, List.length_cons, List.length_nil, List.getElem?_cons_zero, List.getElem?_cons_succ, Nat.zero_add, la, lb, c]
  · have : ¬ a = b := fun h => c (by rw [h])
    rw [decide_eq_false this]
    refine Ev.of fun k => ?_
    have c' : ¬ (a.length : Int) = b.length := by omega
    rw [f22_eq]; simp only [Option.bind_some, decide_eq_true_eq, decide_eq_false_iff_not, Bool.not_eq_true', Bool.not_true, Bool.not_false, Bool.false_eq_true, Bool.true_eq_false, Bool.not_eq_eq_eq_not, beq_self_eq_true, beqFT, beqTF, decide_true, decide_false, not_false_eq_true, not_true_eq_false, ne_eq, true_and, and_true, false_and, and_false, and_self, if_true, if_false, ite_true, ite_false, Bool.and_true, Bool.and_false, Bool.true_and, Bool.false_and, Bool.or_true, Bool.true_or, Bool.or_false, Bool.false_or, or_true, true_or, or_false, false_or, or_self, AV.asInt, AV.asBool, AV.asSl, AV.asPtr, AV.asFn, AV.asStr, AV.asMap, AV.asIfc, AV.item, List.length_cons, List.length_nil, List.getElem?_cons_zero, List.getElem?_cons_succ, Nat.zero_add, la, lb, c']
/-! ### slices.ContainsFunc -/
/-! ### slices.Compare -/
end Go.Ab


/- Array; Right; Less; Least. -/
namespace Go.Ab
open Go Go.Proofs Go.Ab.Wd Go.Ab.Bs Go.Ab.Sai
set_option linter.unusedVariables false
set_option linter.unusedSimpArgs false
/-! ### Right -/
/-! ### Less -/
/-! ### Least -/
end Go.Ab


/- The reference's array. -/
namespace Go.Ab
open Go Go.Proofs Go.Ab.Wd Go.Ab.Bs Go.Ab.Sai
set_option linter.unusedVariables false
set_option linter.unusedSimpArgs false
section
variable {σ0 : Store} {ht : Hdl} {t : List Int}
end
end Go.Ab


/- Turn; the reference's. -/
namespace Go.Ab
open Go Go.Proofs Go.Ab.Wd Go.Ab.Bs Go.Ab.Sai
set_option linter.unusedVariables false
set_option linter.unusedSimpArgs false
/-- The first i of l are marked. -/
structure Marks (f : Int → Int) (d : Int) (l : List Int) (i : Nat) (o : List Int) : Prop where
  len : o.length = l.length
  rng : ∀ p ∈ l.take i, 0 ≤ p ∧ p < l.length
  nd : (l.take i).Nodup
  val : ∀ p : Int, 0 ≤ p → p < l.length → rd o p = if p ∈ l.take i then f p else d
theorem Marks.start (f : Int → Int) (d : Int) (l : List Int) : Marks f d l 0 (List.replicate l.length d) :=
  ⟨by simp, by simp, by simp, fun p p0 p1 => by
    obtain ⟨p, rfl⟩ := Int.eq_ofNat_of_zero_le p0
    rw [rd_getElem (by simp; omega)]; simp⟩
theorem Marks.step {f : Int → Int} {d : Int} {l : List Int} {i : Nat} {o : List Int} (m : Marks f d l i o) (hi : i < l.length) (h0 : 0 ≤ rd l i) (h1 : rd l i < l.length) (hn : rd l i ∉ l.take i) : Marks f d l (i + 1) (o.set (rd l i).toNat (f (rd l i))) := by
  refine ⟨by simp [m.len], fun p hp => ?_, ?_, fun p p0 p1 => ?_⟩
  · rw [take_rd hi] at hp
    rcases List.mem_append.1 hp with hp | hp
    · exact m.rng p hp
    · rw [List.mem_singleton] at hp; rw [hp]; exact ⟨h0, h1⟩
  · rw [take_rd hi]
    exact List.nodup_append.2 ⟨m.nd, by simp, fun a ha b hb e => by rw [List.mem_singleton] at hb; subst hb; exact hn (e ▸ ha)⟩
  · rw [rd_set h0 (by rw [m.len]; exact h1) p0, take_rd hi, m.val p p0 p1]
    by_cases e : rd l i = p
    · rw [if_pos e, if_pos (by simp [e]), e]
    · rw [if_neg e]
      by_cases c : p ∈ l.take i
      · rw [if_pos c, if_pos (by simp [c])]
      · rw [if_neg c, if_neg (by simp [c]; exact fun h => e h.symm)]
end Go.Ab


/- The reference's turning; the laws of layer 9, the first half. -/
namespace Go.Ab
open Go Go.Proofs Go.Ab.Wd Go.Ab.Bs Go.Ab.Sai
set_option linter.unusedVariables false
set_option linter.unusedSimpArgs false
end Go.Ab


/- The order of suffixes: of lists put by others, of tails. Plain Lean, no program. -/
namespace Go.Ab.Bs
open Go.Ab.Wd
set_option linter.unusedVariables false
set_option linter.unusedSimpArgs false
end Go.Ab.Bs


/- Lists turned by their suffixes' order, and back. Plain Lean, no program. -/
namespace Go.Ab.Bs
open Go.Ab.Wd
set_option linter.unusedVariables false
set_option linter.unusedSimpArgs false
/-- How many of a list have a property. -/
def cnt (p : Int → Bool) (l : List Int) : Nat := (l.filter p).length
/-- Where the row ahead of each one stands. -/
def lf (b : List Int) (i : Int) : Int := (cnt (fun x => decide (x < rd b i)) b + cnt (fun x => decide (x = rd b i)) (b.take i.toNat) : Nat)
/-- The list of which b is the turned row, from behind. -/
def walk (b : List Int) : Nat → Int → List Int
  | 0, _ => []
  | m + 1, i => rd b i :: walk b m (lf b i)
end Go.Ab.Bs


/- slices.Equal, Contains, Min; the turned row, by the program and by the reference. -/
namespace Go.Ab
open Go Go.Proofs Go.Ab.Wd Go.Ab.Bs Go.Ab.Sai
set_option linter.unusedVariables false
set_option linter.unusedSimpArgs false
theorem same_self {σ : Store} {h h' : Hdl} {a : List Int} (ha : σ.Ints h a) (hb : σ.Ints h' a) (hn : a.length < 2 ^ 62) : Runs Try.prog 22 [.slice h, .slice h'] σ (.bool true) σ := by
  have := same_run ha hb hn; rwa [decide_eq_true rfl] at this
/-! ### the turned row -/
end Go.Ab


/- How many bits of a number are ones: the sum by folding. Plain Lean, no program. -/
namespace Go.Ab.Pop
set_option linter.unusedVariables false
set_option linter.unusedSimpArgs false
end Go.Ab.Pop


/- A row of numbers by its bits, level by level. Plain Lean, no program. -/
namespace Go.Ab.Bs
open Go.Ab.Wd
set_option linter.unusedVariables false
set_option linter.unusedSimpArgs false
/-- The bit k of a number. -/
def bitb (k : Nat) (x : Int) : Bool := decide (x.toNat / 2 ^ k % 2 = 1)
def low (k : Nat) (l : List Int) : List Int := l.filter fun x => !bitb k x
def high (k : Nat) (l : List Int) : List Int := l.filter (bitb k)
def down (k : Nat) (l : List Int) : List Int := low k l ++ high k l
/-- The bits of the levels, from the highest one on. -/
def levels : Nat → List Int → List (List Bool)
  | 0, _ => []
  | k + 1, l => l.map (bitb k) :: levels k (down k l)
theorem low_length (k : Nat) (l : List Int) : (low k l).length + (high k l).length = l.length := by
  induction l with
  | nil => rfl
  | cons x l ih =>
    unfold low high at ih ⊢
    cases h : bitb k x <;> simp [h] <;> omega
/-- The row ahead of a level: row w l w = l, row w l k: what is behind the levels w-1 .. k. -/
def rowAt : Nat → List Int → Nat → List Int
  | 0, l, _ => l
  | w + 1, l, k => if k = w + 1 then l else rowAt w (down w l) k
theorem rowAt_top (w : Nat) (l : List Int) : rowAt w l w = l := by cases w <;> simp [rowAt]
theorem rowAt_step : ∀ (w : Nat) (l : List Int) (k : Nat), k < w → rowAt w l k = down k (rowAt w l (k + 1))
  | 0, _, _, h => by omega
  | w + 1, l, k, h => by
    by_cases c : k = w
    · subst c
      rw [rowAt, if_neg (by omega), rowAt_top, rowAt, if_pos rfl]
    · rw [rowAt, if_neg (by omega), rowAt, if_neg (by omega)]
      exact rowAt_step w _ k (by omega)
/-! ### parts of a row -/
/-- A part stands in a row from a place on. -/
def Part (r : List Int) (a : Nat) (s : List Int) : Prop := ∃ x y, r = x ++ s ++ y ∧ x.length = a
theorem Part.le {r s : List Int} {a : Nat} (h : Part r a s) : a + s.length ≤ r.length := by obtain ⟨x, y, rfl, rfl⟩ := h; simp
theorem Part.get {r s : List Int} {a i : Nat} (h : Part r a s) (hi : i < s.length) : r[a + i]? = s[i]? := by
  obtain ⟨x, y, rfl, rfl⟩ := h
  rw [List.append_assoc, List.getElem?_append_right (by omega), Nat.add_sub_cancel_left, List.getElem?_append_left hi]
theorem Part.of_take {r : List Int} {a b : Nat} (hab : a ≤ b) (hb : b ≤ r.length) : Part r a ((r.take b).drop a) :=
  ⟨r.take a, r.drop b, by
    have e1 : r.take b = r.take a ++ (r.take b).drop a := by
      conv => lhs; rw [← List.take_append_drop a (r.take b)]
      rw [List.take_take, Nat.min_eq_left hab]
    rw [← e1, List.take_append_drop], by simp; omega⟩
/-- How many ones, noughts stand ahead of a place. -/
def onesTo (b : List Bool) (i : Nat) : Nat := ((b.take i).filter id).length
def zerosTo (b : List Bool) (i : Nat) : Nat := min i b.length - onesTo b i
theorem onesTo_map (k : Nat) (r : List Int) (i : Nat) : onesTo (r.map (bitb k)) i = (high k (r.take i)).length := by
  unfold onesTo high
  rw [← List.map_take, List.filter_map, List.length_map]; rfl
theorem zerosTo_map (k : Nat) (r : List Int) (i : Nat) : zerosTo (r.map (bitb k)) i = (low k (r.take i)).length := by
  unfold zerosTo
  rw [onesTo_map, List.length_map]
  have := low_length k (r.take i)
  rw [List.length_take] at this
  omega
/-- Where a place of a level leads. -/
def goto (b : List Bool) (i : Nat) (one : Bool) : Nat := if one = true then zerosTo b b.length + onesTo b i else zerosTo b i
theorem Part.down {r s : List Int} {a : Nat} (h : Part r a s) (k : Nat) (one : Bool) :
    Part (down k r) (goto (r.map (bitb k)) a one) (s.filter fun x => bitb k x == one) ∧
      goto (r.map (bitb k)) (a + s.length) one = goto (r.map (bitb k)) a one + (s.filter fun x => bitb k x == one).length := by
  obtain ⟨x, y, rfl, rfl⟩ := h
  have e1 : (x ++ s ++ y).take x.length = x := by rw [List.append_assoc, List.take_left']; rfl
  have e2 : (x ++ s ++ y).take (x.length + s.length) = x ++ s := by rw [List.take_left']; simp
  cases one with
  | false =>
    simp only [goto, Bool.false_eq_true, if_false, zerosTo_map, e1, e2]
    have hl : (s.filter fun x => bitb k x == false) = low k s := by unfold low; congr 1; funext z; cases bitb k z <;> rfl
    rw [hl]
    refine ⟨⟨low k x, low k y ++ high k (x ++ s ++ y), by simp [Bs.down, low], rfl⟩, by simp [low]⟩
  | true =>
    simp only [goto, if_true, zerosTo_map, onesTo_map, e1, e2, List.length_map, List.take_length]
    have hl : (s.filter fun x => bitb k x == true) = high k s := by unfold high; congr 1; funext z; cases bitb k z <;> rfl
    rw [hl]
    refine ⟨⟨low k (x ++ s ++ y) ++ high k x, high k y, by simp [Bs.down, high], by simp⟩, by simp [high]; omega⟩
/-- The upper bits agree. -/
def alike (k : Nat) (c x : Int) : Bool := decide (x.toNat / 2 ^ k = c.toNat / 2 ^ k)
theorem alike_step (k : Nat) (c x : Int) : alike k c x = (alike (k + 1) c x && (bitb k x == bitb k c)) := by
  unfold alike bitb
  have e1 : x.toNat / 2 ^ (k + 1) = x.toNat / 2 ^ k / 2 := by rw [Nat.pow_succ, Nat.div_div_eq_div_mul]
  have e2 : c.toNat / 2 ^ (k + 1) = c.toNat / 2 ^ k / 2 := by rw [Nat.pow_succ, Nat.div_div_eq_div_mul]
  rw [e1, e2]
  generalize x.toNat / 2 ^ k = u
  generalize c.toNat / 2 ^ k = v
  have : (decide (u % 2 = 1) == decide (v % 2 = 1)) = decide (u % 2 = v % 2) := by
    rcases Nat.mod_two_eq_zero_or_one u with h1 | h1 <;> rcases Nat.mod_two_eq_zero_or_one v with h2 | h2 <;> simp [h1, h2]
  rw [this, ← Bool.decide_and]
  congr 1
  exact propext (by omega)
/-- Going down along the bits of c: what is left of a part is what agrees with c. -/
theorem Part.path {w : Nat} {l s : List Int} {a k : Nat} {c : Int} (hk : k < w) (h : Part (rowAt w l (k + 1)) a (s.filter (alike (k + 1) c))) :
    Part (rowAt w l k) (goto ((rowAt w l (k + 1)).map (bitb k)) a (bitb k c)) (s.filter (alike k c)) ∧
      goto ((rowAt w l (k + 1)).map (bitb k)) (a + (s.filter (alike (k + 1) c)).length) (bitb k c) = goto ((rowAt w l (k + 1)).map (bitb k)) a (bitb k c) + (s.filter (alike k c)).length := by
  have h1 := h.down k (bitb k c)
  rw [List.filter_filter] at h1
  have e : (fun a => (bitb k a == bitb k c) && alike (k + 1) c a) = alike k c := by funext x; rw [alike_step k c x, Bool.and_comm]
  rw [e] at h1
  rw [rowAt_step w l k hk]
  exact h1
end Go.Ab.Bs


/- The count of ones of a word; numbers of words. -/
namespace Go.Ab
open Go Go.Proofs Go.Ab.Wd Go.Ab.Bs Go.Ab.Sai
set_option linter.unusedVariables false
set_option linter.unusedSimpArgs false
theorem wrapu64 {x : Int} (h0 : 0 ≤ x) (h1 : x < 18446744073709551616) : IntKind.wrap .u64 x = x := by
  unfold IntKind.wrap
  have e2 : (2 : Int) ^ IntKind.u64.bits = 18446744073709551616 := by decide
  simp [e2, IntKind.signed]; omega
theorem shr_u64 {a s : Nat} (hs : s ≤ 64) : shrI .u64 (a : Int) (s : Int) = ((a / 2 ^ s : Nat) : Int) := by
  have e : IntKind.u64.bits = 64 := by decide
  unfold shrI
  rw [e, Int.toNat_natCast, Nat.min_eq_left hs, Int.fdiv_eq_ediv_of_nonneg _ (Int.le_of_lt (Int.pow_pos (by omega)))]
  simp
end Go.Ab


/- Bits in words. -/
namespace Go.Ab.Bs
open Go.Ab.Wd
set_option linter.unusedVariables false
set_option linter.unusedSimpArgs false
/-- A bit at a place; past the end: none. -/
def bitAt (B : List Bool) (i : Nat) : Bool := B[i]?.getD false
/-- Words hold bits. -/
structure WB (B : List Bool) (ws : List Int) : Prop where
  len : ws.length = (B.length + 63) / 64
  bit : ∀ j : Nat, j < ws.length → ∃ x : Nat, rd ws j = x ∧ x < 2 ^ 64 ∧ ∀ b, b < 64 → x.testBit b = bitAt B (64 * j + b)
/-- Sums ahead of blocks. -/
structure AH (B : List Bool) (ws ah : List Int) : Prop where
  len : ah.length = (ws.length + 7) / 8
  val : ∀ j : Nat, j < ah.length → rd ah j = (onesTo B (512 * j) : Nat)
end Go.Ab.Bs


/- A list of bits with its counts: rank, at. -/
namespace Go.Ab
open Go Go.Proofs Go.Ab.Wd Go.Ab.Bs Go.Ab.Sai
set_option linter.unusedVariables false
set_option linter.unusedSimpArgs false
section
variable {σ : Store} {b es o : Nat} {l : List AV}
theorem row_int {k : IntKind} {x : Int} (r : σ.Row b es l) (h : l[o]? = some (.int k x)) : σ.ldInt k (Ptr.add (some (b, 0)) o) = some x := by
  simp only [Store.ldInt, Ptr.add, Option.map_some, r.cell, Nat.zero_add, h, if_true]
theorem row_sl {x : Hdl} (r : σ.Row b es l) (h : l[o]? = some (.slice x)) : σ.ldSl (Ptr.add (some (b, 0)) o) = some x := by
  simp only [Store.ldSl, Ptr.add, Option.map_some, r.cell, Nat.zero_add, h]
end
/-- A list of bits in memory. -/
structure Vec (σ : Store) (p : Ptr) (B : List Bool) : Prop where
  ex : ∃ b hw ha ws ah, p = some (b, 0) ∧ σ.Row b 4 [.int .i64 B.length, .slice hw, .slice ha, .int .i64 (onesTo B B.length : Nat)] ∧ Store.Nums .u64 σ hw ws ∧ σ.Ints ha ah ∧ WB B ws ∧ AH B ws ah
  small : B.length < 2 ^ 30
theorem Vec.kp {σ σ' : Store} {p : Ptr} {B : List Bool} (v : Vec σ p B) (k : Kp σ.objs.length σ σ') : Vec σ' p B := by
  obtain ⟨b, hw, ha, ws, ah, rfl, R, W, A, wb, ab⟩ := v.ex
  exact ⟨⟨b, hw, ha, ws, ah, rfl, R.kp k R.lt, Store.Sl.kp W k, Store.Sl.kp A k, wb, ab⟩, v.small⟩
/-- The rows of a list of bits are among some. -/
structure VecF (σ : Store) (p : Ptr) (B : List Bool) (F : Nat → Prop) : Prop where
  ex : ∃ b hw ha ws ah, p = some (b, 0) ∧ σ.Row b 4 [.int .i64 B.length, .slice hw, .slice ha, .int .i64 (onesTo B B.length : Nat)] ∧ Store.Nums .u64 σ hw ws ∧ σ.Ints ha ah ∧ WB B ws ∧ AH B ws ah ∧ F b ∧ (∀ x, hw.row = some x → F x) ∧ ∀ x, ha.row = some x → F x
  small : B.length < 2 ^ 30
theorem VecF.keep {σ σ' : Store} {p : Ptr} {B : List Bool} {F : Nat → Prop} (v : VecF σ p B F) (k : ∀ x, F x → σ'.objs[x]? = σ.objs[x]?) : VecF σ' p B F := by
  obtain ⟨b, hw, ha, ws, ah, rfl, R, W, A, wb, ab, f1, f2, f3⟩ := v.ex
  exact ⟨⟨b, hw, ha, ws, ah, rfl, (k b f1).trans R, W.keep fun c o e => k c (f2 c (by simp [Hdl.row, e])), A.keep fun c o e => k c (f3 c (by simp [Hdl.row, e])), wb, ab, f1, f2, f3⟩, v.small⟩
section
variable {σ : Store} {p : Ptr} {B : List Bool}
theorem mn2_eq (a b : Int) : mn2 a b = min a b := by unfold mn2; split <;> omega
theorem mx2_eq (a b : Int) : mx2 a b = max a b := by unfold mx2; split <;> omega
end
end Go.Ab


/- Packed bits: New, Set, Words; a list of bits from them. -/
namespace Go.Ab
open Go Go.Proofs Go.Ab.Wd Go.Ab.Bs Go.Ab.Sai
set_option linter.unusedVariables false
set_option linter.unusedSimpArgs false
/-- slices.Clone. -/
theorem clone_fact {σ : Store} {h : Hdl} {l : List AV} {bs : Nat} (s : σ.Sl h 1 l) (hp : σ.prot ≤ σ.objs.length) (ho : l.all AV.one = true) (hb : 0 < bs) (hc : l.length * bs ≤ 140737488355328) :
    ∃ h' σ', Kp σ.objs.length σ σ' ∧ Grow σ' σ.objs.length h' 1 l ∧
      (if Option.isNone (Hdl.a h) = true then some (.slice Hdl.nil, σ) else Option.bind (Store.readSl (σ.push [] 1) h 1) fun x => Option.bind (Store.app (σ.push [] 1) ⟨some (σ.objs.length, 0), 0, some 0⟩ 1 bs x h.len) fun y => some (AV.slice y.1, y.2)) = some (AV.slice h', σ') := by
  by_cases c : Option.isNone (Hdl.a h) = true
  · rw [if_pos c]
    have hl : l = [] := by
      have hlen := s.len
      rcases s.row with h0 | ⟨b, o, cs, rw, e, _⟩
      · rw [h0] at hlen; exact List.length_eq_zero_iff.1 (by omega)
      · rw [e] at c; cases c
    subst hl
    exact ⟨Hdl.nil, σ, Kp.refl _ _, Grow.nil _ _ _, rfl⟩
  · rw [if_neg c]
    obtain ⟨h', σ', e1, e2, k, g⟩ := copy_app s hp ho hb hc
    exact ⟨h', σ', k, g, by rw [e1, Option.bind_some, e2]; rfl⟩
theorem cloneI_run {σ : Store} {h : Hdl} {l : List Int} (s : σ.Ints h l) (hp : σ.prot ≤ σ.objs.length) (hc : l.length < 2 ^ 40) :
    ∃ h' σ', Runs Try.prog 28 [.slice h] σ (.slice h') σ' ∧ Kp σ.objs.length σ σ' ∧ GrowI σ' σ.objs.length h' l := by
  obtain ⟨h', σ', k, g, e⟩ := clone_fact (bs := 8) s hp (intsL_one _) (by omega) (by simp; omega)
  exact ⟨h', σ', Runs.intro (fn := Try.f28) (by kernel_rfl) (by kernel_rfl) (Ev.of fun m => by rw [f28_eq]; exact e), k, g⟩
def ptrsL (l : List Ptr) : List AV := l.map AV.ptr
@[simp] theorem ptrsL_length (l : List Ptr) : (ptrsL l).length = l.length := by simp [ptrsL]
theorem Bs.WB.set {B : List Bool} {ws : List Int} (w : WB B ws) {i : Nat} (hi : i < B.length) {x z : Nat} (hx : rd ws (i / 64 : Nat) = x) (hz : z < 2 ^ 64) (hb : ∀ b, b < 64 → z.testBit b = (x.testBit b || decide (b = i % 64))) :
    WB (B.set i true) (ws.set (i / 64) (z : Int)) := by
  refine ⟨by simpa using w.len, fun j hj => ?_⟩
  rw [List.length_set] at hj
  obtain ⟨y, y1, y2, y3⟩ := w.bit j hj
  by_cases c : j = i / 64
  · subst c
    have exy : x = y := by omega
    subst exy
    refine ⟨z, ?_, hz, fun b hb' => ?_⟩
    · rw [rd_getElem (by simpa using hj)]; simp
    · rw [hb b hb', y3 b hb']
      unfold bitAt
      rw [List.getElem?_set]
      by_cases c : b = i % 64
      · rw [if_pos (by omega), if_pos (by omega)]; simp [c]
      · rw [if_neg (by omega)]; simp [c]
  · refine ⟨y, ?_, y2, fun b hb' => ?_⟩
    · rw [rd_getElem (show j < (ws.set (i / 64) (z : Int)).length by rw [List.length_set]; exact hj), List.getElem_set_ne (by omega), ← rd_getElem hj]; exact y1
    · rw [y3 b hb']
      unfold bitAt
      rw [List.getElem?_set, if_neg (by omega)]
end Go.Ab


/- A list of bits from packed bits. -/
namespace Go.Ab
open Go Go.Proofs Go.Ab.Wd Go.Ab.Bs Go.Ab.Sai
set_option linter.unusedVariables false
set_option linter.unusedSimpArgs false
theorem st_fld {σ : Store} {b es o : Nat} {l : List AV} (r : σ.Row b es l) (hp : σ.prot ≤ b) (h1 : o < l.length) {v : AV} (hv : v.one = true) :
    σ.stL (Ptr.add (some (b, 0)) o) [v] 0 = some (σ.setO b (.cells (l.set o v) true es)) := by
  have := st_cell r hp h1 hv
  simpa [Ptr.add] using this
end Go.Ab


/- How wide numbers are. -/
namespace Go.Ab
open Go Go.Proofs Go.Ab.Wd Go.Ab.Bs Go.Ab.Sai
set_option linter.unusedVariables false
set_option linter.unusedSimpArgs false
def IsLen (x c : Nat) : Prop := x < 2 ^ c ∧ (c = 0 ∨ 2 ^ (c - 1) ≤ x)
theorem IsLen.shift {x c s : Nat} (h : IsLen (x / 2 ^ s) c) (hs : 2 ^ s ≤ x) : IsLen x (s + c) := by
  obtain ⟨h1, h2⟩ := h
  have p : 0 < 2 ^ s := Nat.two_pow_pos s
  have g : 1 ≤ x / 2 ^ s := (Nat.le_div_iff_mul_le p).2 (by omega)
  have c0 : c ≠ 0 := by rintro rfl; simp at h1; omega
  refine ⟨?_, .inr ?_⟩
  · rw [Nat.pow_add, Nat.mul_comm]; exact (Nat.div_lt_iff_lt_mul p).1 h1
  · rcases h2 with h2 | h2
    · exact absurd h2 c0
    · rw [show s + c - 1 = s + (c - 1) by omega, Nat.pow_add, Nat.mul_comm]
      exact (Nat.le_div_iff_mul_le p).1 h2
theorem tab_ok : ∀ v : Fin 256, ∃ c : Fin 9, strAt len8tab v.val = some (c.val : Int) ∧ (v.val < 2 ^ c.val ∧ (c.val = 0 ∨ 2 ^ (c.val - 1) ≤ v.val)) := by decide +kernel
theorem tab_get {v : Nat} (hv : v < 256) : ∃ c : Nat, c ≤ 8 ∧ strAt len8tab v = some (c : Int) ∧ IsLen v c := by
  obtain ⟨c, h1, h2⟩ := tab_ok ⟨v, hv⟩
  exact ⟨c.val, by omega, h1, h2⟩
theorem wrapu8 {x : Int} (h0 : 0 ≤ x) (h1 : x < 256) : IntKind.wrap .u8 x = x := by
  unfold IntKind.wrap
  have e2 : (2 : Int) ^ IntKind.u8.bits = 256 := by decide
  simp [e2, IntKind.signed]; omega
theorem len64_run (σ : Store) {x : Nat} (hx : x < 2 ^ 24) : ∃ c : Nat, c ≤ 24 ∧ Runs Try.prog 47 [.int .u64 x] σ (.int .i64 c) σ ∧ IsLen x c := by
  have c1 : ¬ (4294967296 : Int) ≤ x := by omega
  have s16 : shrI .u64 (x : Int) 16 = ((x / 65536 : Nat) : Int) := shr_u64 (s := 16) (by omega)
  have s8 : shrI .u64 (x : Int) 8 = ((x / 256 : Nat) : Int) := shr_u64 (s := 8) (by omega)
  by_cases c2 : 65536 ≤ x
  · obtain ⟨c, hc, ht, hl⟩ := tab_get (v := x / 65536) (by omega)
    have c2' : (65536 : Int) ≤ x := by omega
    have c3 : ¬ (256 : Int) ≤ (x / 65536 : Nat) := by omega
    have w1 : IntKind.wrap .u8 ((x / 65536 : Nat) : Int) = (x / 65536 : Nat) := wrapu8 (by omega) (by omega)
    have c4 : (0 : Int) ≤ (x / 65536 : Nat) := by omega
    have w2 : IntKind.wrap .i64 (0 + 16) = 16 := by decide
    have w3 : IntKind.wrap .i64 (c : Int) = c := wrap64 (by omega) (by omega)
    have w4 : IntKind.wrap .i64 (16 + (c : Int)) = (16 + c : Nat) := by rw [wrap64 (by omega) (by omega)]; omega
    exact ⟨16 + c, by omega, Runs.intro (fn := Try.f47) (by kernel_rfl) (by kernel_rfl) (Ev.of fun k => by
      rw [f47_eq]; simp only [Option.bind_some, decide_eq_true_eq, decide_eq_false_iff_not, Bool.not_eq_true', Bool.not_true, Bool.not_false, Bool.false_eq_true, Bool.true_eq_false, Bool.not_eq_eq_eq_not, beq_self_eq_true, beqFT, beqTF, decide_true, decide_false, not_false_eq_true, not_true_eq_false, ne_eq, true_and, and_true, false_and, and_false, and_self, if_true, if_false, ite_true, ite_false, Bool.and_true, Bool.and_false, Bool.true_and, Bool.false_and, Bool.or_true, Bool.true_or, Bool.or_false, Bool.false_or, or_true, true_or, or_false, false_or, or_self, AV.asInt, AV.asBool, AV.asSl, AV.asPtr, AV.asFn, AV.asStr, AV.asMap, AV.asIfc, AV.item, List.length_cons, List.length_nil, List.getElem?_cons_zero, List.getElem?_cons_succ, Nat.zero_add, c1, c2', s16, c3, w1, c4, Int.toNat_natCast, ht, w2, w3, w4]), IsLen.shift (s := 16) hl (by omega)⟩
  · by_cases c3 : 256 ≤ x
    · obtain ⟨c, hc, ht, hl⟩ := tab_get (v := x / 256) (by omega)
      have c2' : ¬ (65536 : Int) ≤ x := by omega
      have c3' : (256 : Int) ≤ x := by omega
      have w1 : IntKind.wrap .u8 ((x / 256 : Nat) : Int) = (x / 256 : Nat) := wrapu8 (by omega) (by omega)
      have c4 : (0 : Int) ≤ (x / 256 : Nat) := by omega
      have w2 : IntKind.wrap .i64 (0 + 8) = 8 := by decide
      have w3 : IntKind.wrap .i64 (c : Int) = c := wrap64 (by omega) (by omega)
      have w4 : IntKind.wrap .i64 (8 + (c : Int)) = (8 + c : Nat) := by rw [wrap64 (by omega) (by omega)]; omega
      exact ⟨8 + c, by omega, Runs.intro (fn := Try.f47) (by kernel_rfl) (by kernel_rfl) (Ev.of fun k => by
        rw [f47_eq]; simp only [Option.bind_some, decide_eq_true_eq, decide_eq_false_iff_not, Bool.not_eq_true', Bool.not_true, Bool.not_false, Bool.false_eq_true, Bool.true_eq_false, Bool.not_eq_eq_eq_not, beq_self_eq_true, beqFT, beqTF, decide_true, decide_false, not_false_eq_true, not_true_eq_false, ne_eq, true_and, and_true, false_and, and_false, and_self, if_true, if_false, ite_true, ite_false, Bool.and_true, Bool.and_false, Bool.true_and, Bool.false_and, Bool.or_true, Bool.true_or, Bool.or_false, Bool.false_or, or_true, true_or, or_false, false_or, or_self, AV.asInt, AV.asBool, AV.asSl, AV.asPtr, AV.asFn, AV.asStr, AV.asMap, AV.asIfc, AV.item, List.length_cons, List.length_nil, List.getElem?_cons_zero, List.getElem?_cons_succ, Nat.zero_add, c1, c2', s8, c3', w1, c4, Int.toNat_natCast, ht, w2, w3, w4]), IsLen.shift (s := 8) hl (by omega)⟩
    · obtain ⟨c, hc, ht, hl⟩ := tab_get (v := x) (by omega)
      have c2' : ¬ (65536 : Int) ≤ x := by omega
      have c3' : ¬ (256 : Int) ≤ x := by omega
      have w1 : IntKind.wrap .u8 (x : Int) = x := wrapu8 (by omega) (by omega)
      have c4 : (0 : Int) ≤ (x : Int) := by omega
      have w3 : IntKind.wrap .i64 (c : Int) = c := wrap64 (by omega) (by omega)
      have w4 : IntKind.wrap .i64 (0 + (c : Int)) = c := by rw [wrap64 (by omega) (by omega)]; omega
      exact ⟨c, by omega, Runs.intro (fn := Try.f47) (by kernel_rfl) (by kernel_rfl) (Ev.of fun k => by
        rw [f47_eq]; simp only [Option.bind_some, decide_eq_true_eq, decide_eq_false_iff_not, Bool.not_eq_true', Bool.not_true, Bool.not_false, Bool.false_eq_true, Bool.true_eq_false, Bool.not_eq_eq_eq_not, beq_self_eq_true, beqFT, beqTF, decide_true, decide_false, not_false_eq_true, not_true_eq_false, ne_eq, true_and, and_true, false_and, and_false, and_self, if_true, if_false, ite_true, ite_false, Bool.and_true, Bool.and_false, Bool.true_and, Bool.false_and, Bool.or_true, Bool.true_or, Bool.or_false, Bool.false_or, or_true, true_or, or_false, false_or, or_self, AV.asInt, AV.asBool, AV.asSl, AV.asPtr, AV.asFn, AV.asStr, AV.asMap, AV.asIfc, AV.item, List.length_cons, List.length_nil, List.getElem?_cons_zero, List.getElem?_cons_succ, Nat.zero_add, c1, c2', c3', w1, c4, Int.toNat_natCast, ht, w3, w4]), hl⟩
end Go.Ab


/- A level of a wavelet matrix. -/
namespace Go.Ab
open Go Go.Proofs Go.Ab.Wd Go.Ab.Bs Go.Ab.Sai
set_option linter.unusedVariables false
set_option linter.unusedSimpArgs false
end Go.Ab


/- A wavelet matrix in memory; how it is made. -/
namespace Go.Ab
open Go Go.Proofs Go.Ab.Wd Go.Ab.Bs Go.Ab.Sai
set_option linter.unusedVariables false
set_option linter.unusedSimpArgs false
/-- The bits of a level. -/
def lev (w : Nat) (l : List Int) (j : Nat) : List Bool := (Bs.rowAt w l (w - j)).map (bitb (w - j - 1))
/-- A matrix in memory. -/
structure Mat (σ : Store) (p : Ptr) (l : List Int) (w : Nat) : Prop where
  ex : ∃ b hl ps, p = some (b, 0) ∧ σ.Row b 3 [.int .i64 l.length, .int .i64 w, .slice hl] ∧ σ.Sl hl 1 (ptrsL ps) ∧ ps.length = w ∧ ∀ j, j < w → ∃ q, ps[j]? = some q ∧ Vec σ q (lev w l j)
  wid : 1 ≤ w ∧ w ≤ 24
  small : l.length ≤ 4194304
  rng : ∀ x ∈ l, 0 ≤ x ∧ x < 2 ^ w
theorem Mat.kp {σ σ' : Store} {p : Ptr} {l : List Int} {w : Nat} (m : Mat σ p l w) (k : Kp σ.objs.length σ σ') : Mat σ' p l w := by
  obtain ⟨b, hl, ps, rfl, R, S, lp, V⟩ := m.ex
  exact ⟨⟨b, hl, ps, rfl, R.kp k R.lt, Store.Sl.kp S k, lp, fun j hj => by obtain ⟨q, e, v⟩ := V j hj; exact ⟨q, e, v.kp k⟩⟩, m.wid, m.small, m.rng⟩
end Go.Ab


/- Counts. -/
namespace Go.Ab
open Go Go.Proofs Go.Ab.Wd Go.Ab.Bs Go.Ab.Sai
set_option linter.unusedVariables false
set_option linter.unusedSimpArgs false
/-- How many are below each number. -/
def below (b : List Int) (c : Int) : Int := (cnt (fun x => decide (x < c)) b : Nat)
end Go.Ab


/- A wavelet matrix is made. -/
namespace Go.Ab
open Go Go.Proofs Go.Ab.Wd Go.Ab.Bs Go.Ab.Sai
set_option linter.unusedVariables false
set_option linter.unusedSimpArgs false
end Go.Ab


/- Going down the levels by a prefix of bits. Plain Lean, no program. -/
namespace Go.Ab.Bs
open Go.Ab.Wd
set_option linter.unusedVariables false
set_option linter.unusedSimpArgs false
/-- The upper bits of a number are c. -/
def pre (k c : Nat) (x : Int) : Bool := decide (x.toNat / 2 ^ k = c)
def bn (b : Bool) : Nat := if b = true then 1 else 0
theorem div_succ (x k : Nat) : x / 2 ^ (k + 1) = x / 2 ^ k / 2 := by rw [Nat.pow_succ, Nat.div_div_eq_div_mul]
theorem pre_step (k c : Nat) (one : Bool) (x : Int) : pre k (2 * c + bn one) x = (pre (k + 1) c x && (bitb k x == one)) := by
  unfold pre bitb bn
  rw [div_succ]
  generalize x.toNat / 2 ^ k = u
  rw [Bool.eq_iff_iff]
  cases one <;> simp <;> omega
theorem Part.step {w : Nat} {l s : List Int} {a k c : Nat} (hk : k < w) (h : Part (rowAt w l (k + 1)) a (s.filter (pre (k + 1) c))) (one : Bool) :
    Part (rowAt w l k) (goto ((rowAt w l (k + 1)).map (bitb k)) a one) (s.filter (pre k (2 * c + bn one))) ∧
      goto ((rowAt w l (k + 1)).map (bitb k)) (a + (s.filter (pre (k + 1) c)).length) one = goto ((rowAt w l (k + 1)).map (bitb k)) a one + (s.filter (pre k (2 * c + bn one))).length := by
  have h1 := h.down k one
  rw [List.filter_filter] at h1
  have e : (fun a => (bitb k a == one) && pre (k + 1) c a) = pre k (2 * c + bn one) := by funext x; rw [pre_step k c one x, Bool.and_comm]
  rw [e] at h1
  rw [rowAt_step w l k hk]
  exact h1
theorem pre_top {w : Nat} {x : Int} (hx : x.toNat < 2 ^ w) : pre w 0 x = true := by
  unfold pre; rw [Nat.div_eq_of_lt hx]; simp
theorem Part.top {w : Nat} {l : List Int} (hl : ∀ x ∈ l, x.toNat < 2 ^ w) {a b : Nat} (hab : a ≤ b) (hb : b ≤ l.length) : Part (rowAt w l w) a (((l.take b).drop a).filter (pre w 0)) := by
  rw [rowAt_top, List.filter_eq_self.2]
  · exact Part.of_take hab hb
  · exact fun x hx => pre_top (hl x (List.mem_of_mem_take (List.mem_of_mem_drop hx)))
theorem pre_zero {c : Nat} {x : Int} (hx : 0 ≤ x) : pre 0 c x = decide (x = c) := by
  unfold pre; simp only [Nat.pow_zero, Nat.div_one]; congr 1; exact propext (by omega)
end Go.Ab.Bs


/- What a wavelet matrix answers: at, span, rank, quantile, below. -/
namespace Go.Ab
open Go Go.Proofs Go.Ab.Wd Go.Ab.Bs Go.Ab.Sai
set_option linter.unusedVariables false
set_option linter.unusedSimpArgs false
section
variable {σ : Store} {p : Ptr} {l : List Int} {w : Nat}
end
end Go.Ab


/- What a wavelet matrix answers: span, rank, quantile, below. -/
namespace Go.Ab
open Go Go.Proofs Go.Ab.Wd Go.Ab.Bs Go.Ab.Sai
set_option linter.unusedVariables false
set_option linter.unusedSimpArgs false
section
variable {σ : Store} {p : Ptr} {l : List Int} {w : Nat}
end
end Go.Ab


/- What a wavelet matrix answers: quantile, below. -/
namespace Go.Ab
open Go Go.Proofs Go.Ab.Wd Go.Ab.Bs Go.Ab.Sai
set_option linter.unusedVariables false
set_option linter.unusedSimpArgs false
def segLo (a : Int) : Nat := (max a 0).toNat
def segHi (l : List Int) (a b : Int) : Nat := (max (max a 0) (min b l.length)).toNat
/-- What of a row is in a range. -/
def seg (l : List Int) (a b : Int) : List Int := (l.take (segHi l a b)).drop (segLo a)
theorem seg_length {l : List Int} {a b : Int} (h : segLo a < l.length) : (seg l a b).length = segHi l a b - segLo a ∧ segLo a ≤ segHi l a b ∧ segHi l a b ≤ l.length := by
  unfold seg segLo segHi at *; simp; omega
section
variable {σ : Store} {p : Ptr} {l : List Int} {w : Nat}
end
end Go.Ab


/- What a wavelet matrix answers: below. -/
namespace Go.Ab
open Go Go.Proofs Go.Ab.Wd Go.Ab.Bs Go.Ab.Sai
set_option linter.unusedVariables false
set_option linter.unusedSimpArgs false
section
variable {σ : Store} {p : Ptr} {l : List Int} {w : Nat}
end
end Go.Ab


/- A matrix of a row, by the laws. -/
namespace Go.Ab
open Go Go.Proofs Go.Ab.Wd Go.Ab.Bs Go.Ab.Sai
set_option linter.unusedVariables false
set_option linter.unusedSimpArgs false
end Go.Ab


/- What a wavelet matrix answers: the numbers there are. -/
namespace Go.Ab
open Go Go.Proofs Go.Ab.Wd Go.Ab.Bs Go.Ab.Sai
set_option linter.unusedVariables false
set_option linter.unusedSimpArgs false
/-- The numbers from one on, n of them, that are there, and how often. -/
def dis (s : List Int) (lo n : Nat) : List (Int × Int) := ((List.range' lo n).filter fun v : Nat => decide (0 < Bs.cnt (fun x => decide (x = (v : Int))) s)).map fun v : Nat => ((v : Int), ((Bs.cnt (fun x => decide (x = (v : Int))) s : Nat) : Int))
theorem dis_split (s : List Int) (lo a b : Nat) : dis s lo (a + b) = dis s lo a ++ dis s (lo + a) b := by
  unfold dis
  rw [← List.map_append, ← List.filter_append]
  rw [List.range'_append_1]
theorem dis_none {s : List Int} {lo n : Nat} (h : ∀ x ∈ s, ¬ (lo ≤ x.toNat ∧ x.toNat < lo + n)) : dis s lo n = [] := by
  unfold dis
  rw [List.filter_eq_nil_iff.2]
  · rfl
  · intro v hv
    simp only [List.mem_range'_1] at hv
    have : Bs.cnt (fun x => decide (x = (v : Int))) s = 0 := by
      unfold Bs.cnt; rw [List.filter_eq_nil_iff.2]
      · rfl
      · intro x hx; have := h x hx; simp; rintro rfl; simp at this; omega
    rw [this]; simp
def pairsL (l : List (Int × Int)) : List AV := l.flatMap fun p => [.int .i64 p.1, .int .i64 p.2]
theorem pairsL_append (a b : List (Int × Int)) : pairsL (a ++ b) = pairsL a ++ pairsL b := by simp [pairsL]
theorem pairsL_length (a : List (Int × Int)) : (pairsL a).length = a.length * 2 := by
  induction a with
  | nil => rfl
  | cons x a ih => rw [show pairsL (x :: a) = [.int .i64 x.1, .int .i64 x.2] ++ pairsL a by simp [pairsL], List.length_append, ih]; simp; omega
section
variable {σ0 : Store} {p : Ptr} {l s : List Int} {w : Nat}
end
end Go.Ab


/- The law WaveSorts. -/
namespace Go.Ab
open Go Go.Proofs Go.Ab.Wd Go.Ab.Bs Go.Ab.Sai
set_option linter.unusedVariables false
set_option linter.unusedSimpArgs false
end Go.Ab


/- The law WaveAdds. -/
namespace Go.Ab
open Go Go.Proofs Go.Ab.Wd Go.Ab.Bs Go.Ab.Sai
set_option linter.unusedVariables false
set_option linter.unusedSimpArgs false
theorem Vec.keep {σ σ' : Store} {p : Ptr} {B : List Bool} (v : Vec σ p B) (k : ∀ x : Nat, x < σ.objs.length → σ'.objs[x]? = σ.objs[x]?) : Vec σ' p B := by
  obtain ⟨b, hw, ha, ws, ah, rfl, R, W, A, wb, ab⟩ := v.ex
  have lt : ∀ {h : Hdl} {l : List AV}, σ.Sl h 1 l → σ'.Sl h 1 l := fun {h l} s => by
    refine ⟨s.len, ?_⟩
    rcases s.row with h1 | ⟨b, o, cs, rw, h1, h2, h3⟩
    · exact .inl h1
    · exact .inr ⟨b, o, cs, rw, h1, (k b (List.getElem?_eq_some_iff.1 h2).1).trans h2, h3⟩
  exact ⟨⟨b, hw, ha, ws, ah, rfl, (k b R.lt).trans R, lt W, lt A, wb, ab⟩, v.small⟩
theorem Mat.keep {σ σ' : Store} {p : Ptr} {l : List Int} {w : Nat} (m : Mat σ p l w) (k : ∀ x : Nat, x < σ.objs.length → σ'.objs[x]? = σ.objs[x]?) : Mat σ' p l w := by
  obtain ⟨b, hl, ps, rfl, R, S, lp, V⟩ := m.ex
  have lt : ∀ {h : Hdl} {l : List AV}, σ.Sl h 1 l → σ'.Sl h 1 l := fun {h l} s => by
    refine ⟨s.len, ?_⟩
    rcases s.row with h1 | ⟨b, o, cs, rw, h1, h2, h3⟩
    · exact .inl h1
    · exact .inr ⟨b, o, cs, rw, h1, (k b (List.getElem?_eq_some_iff.1 h2).1).trans h2, h3⟩
  exact ⟨⟨b, hl, ps, rfl, (k b R.lt).trans R, lt S, lp, fun j hj => by obtain ⟨q, e, v⟩ := V j hj; exact ⟨q, e, v.keep k⟩⟩, m.wid, m.small, m.rng⟩
theorem Mat.quiet {σ : Store} {p : Ptr} {l : List Int} {w : Nat} (m : Mat σ p l w) (n : Nat) : Mat { σ with prot := n } p l w := m.keep fun _ _ => rfl
theorem pairsL_get : ∀ {L : List (Int × Int)} {i : Nat} {u v : Int}, L[i]? = some (u, v) → (pairsL L)[i * 2]? = some (.int .i64 u) ∧ (pairsL L)[i * 2 + 1]? = some (.int .i64 v)
  | [], i, u, v, h => by simp at h
  | x :: L, 0, u, v, h => by simp at h; subst h; simp [pairsL]
  | x :: L, i + 1, u, v, h => by
    have := pairsL_get (L := L) (i := i) (u := u) (v := v) (by simpa using h)
    rw [show pairsL (x :: L) = [.int .i64 x.1, .int .i64 x.2] ++ pairsL L by simp [pairsL]]
    rw [List.getElem?_append_right (by simp; omega), List.getElem?_append_right (by simp; omega)]
    simp only [List.length_cons, List.length_nil, Nat.zero_add]
    rw [show (i + 1) * 2 - 2 = i * 2 by omega, show (i + 1) * 2 + 1 - 2 = i * 2 + 1 by omega]
    exact this
theorem pairs_rd {σ : Store} {h : Hdl} {L : List (Int × Int)} (s : σ.Sl h 2 (pairsL L)) {i : Nat} {u v : Int} (hi : L[i]? = some (u, v)) :
    σ.ldInt .i64 (Ptr.add (h.idx (i : Int) 2) 0) = some u ∧ σ.ldInt .i64 (Ptr.add (h.idx (i : Int) 2) 1) = some v := by
  have hlt : i < L.length := (List.getElem?_eq_some_iff.1 hi).1
  obtain ⟨g0, g1⟩ := pairsL_get hi
  have hl := s.len
  rw [pairsL_length] at hl
  rcases s.row with h0 | ⟨b, o, cs, rw, ha, hb, hc, hd⟩
  · omega
  · have c : ∀ j, j < (pairsL L).length → cs[o + j]? = (pairsL L)[j]? := fun j hj => by
      rw [← hd, List.getElem?_take, if_pos hj, List.getElem?_drop]
    have l2 := pairsL_length L
    have c0 := c (i * 2) (by omega)
    have c1 := c (i * 2 + 1) (by omega)
    rw [g0] at c0
    rw [g1] at c1
    constructor
    · simp only [Store.ldInt, Store.cell, Hdl.idx, Ptr.add, ha, Option.map_some, hb, Int.toNat_natCast, Nat.add_zero, c0, if_true]
    · simp only [Store.ldInt, Store.cell, Hdl.idx, Ptr.add, ha, Option.map_some, hb, Int.toNat_natCast, Nat.add_assoc, c1, if_true]
theorem pairs_len {σ : Store} {h : Hdl} {L : List (Int × Int)} (s : σ.Sl h 2 (pairsL L)) : h.len = L.length := by have := s.len; rw [pairsL_length] at this; omega
/-- A pair is taken into a new row. -/
theorem take2 {σ : Store} {u v : Int} (hp : σ.prot ≤ σ.objs.length) : ∃ σ', Store.stL (σ.push [.int .i64 0, .int .i64 0] 2) (some (σ.objs.length, 0)) [.int .i64 u, .int .i64 v] 0 = some σ' ∧ Kp σ.objs.length σ σ' ∧ σ'.Row σ.objs.length 2 [.int .i64 u, .int .i64 v] := by
  have R : (σ.push [.int .i64 0, .int .i64 0] 2).Row σ.objs.length 2 [.int .i64 0, .int .i64 0] := Store.Row.new
  have t1 := st_fld R (o := 0) (by simpa using hp) (by simp) (v := .int .i64 u) rfl
  obtain ⟨s1, hs1⟩ : ∃ s, s = (σ.push [.int .i64 0, .int .i64 0] 2).setO σ.objs.length (.cells ([.int .i64 0, .int .i64 0].set 0 (.int .i64 u)) true 2) := ⟨_, rfl⟩
  rw [← hs1] at t1
  have R1 : s1.Row σ.objs.length 2 [.int .i64 u, .int .i64 0] := by rw [hs1]; exact Store.Row.setO_eq R.lt
  have p1 : s1.prot ≤ σ.objs.length := by rw [hs1]; exact hp
  have t2 := st_fld R1 (o := 1) p1 (by simp) (v := .int .i64 v) rfl
  refine ⟨s1.setO σ.objs.length (.cells ([.int .i64 u, .int .i64 0].set 1 (.int .i64 v)) true 2), ?_, ?_, Store.Row.setO_eq R1.lt⟩
  · simp only [Store.stL, Ptr.add, Option.map_some, Nat.add_zero, Nat.zero_add, Option.bind_eq_bind] at t1 t2 ⊢
    cases h1 : Store.st (σ.push [.int .i64 0, .int .i64 0] 2) (some (σ.objs.length, 0)) (.int .i64 u) with
    | none => rw [h1] at t1; cases t1
    | some x =>
      rw [h1] at t1
      simp only [Option.bind_some, Option.some.injEq] at t1
      subst t1
      simp only [Option.bind_some]
      exact t2
  · rw [hs1]; exact (((Kp.push _ _ (Nat.le_refl _)).setO (Nat.le_refl _)).setO (Nat.le_refl _))
end Go.Ab


/- The law WaveAdds. -/
namespace Go.Ab
open Go Go.Proofs Go.Ab.Wd Go.Ab.Bs Go.Ab.Sai
set_option linter.unusedVariables false
set_option linter.unusedSimpArgs false
def sum2 (L : List (Int × Int)) : Int := (L.map (·.2)).sum
theorem umod {a : Int} {n : Nat} (hn : n < 2 ^ 40) : IntKind.wrap .u64 (IntKind.wrap .i64 ((n : Int) + 1)) = (n : Int) + 1 ∧ ∃ k : Nat, IntKind.wrap .i64 (Int.tmod (IntKind.wrap .u64 a) ((n : Int) + 1)) = (k : Int) ∧ k ≤ n := by
  have wu : ∀ x : Int, IntKind.wrap .u64 x = x % 18446744073709551616 := fun x => by
    unfold IntKind.wrap
    have e2 : (2 : Int) ^ IntKind.u64.bits = 18446744073709551616 := by decide
    simp [e2, IntKind.signed]
  refine ⟨by rw [wrap64 (by omega) (by omega), wu]; omega, ?_⟩
  rw [wu, Int.tmod_eq_emod_of_nonneg (by omega)]
  have h1 := Int.emod_nonneg (a % 18446744073709551616) (show ((n : Int) + 1) ≠ 0 by omega)
  have h2 := Int.emod_lt_of_pos (a % 18446744073709551616) (show 0 < ((n : Int) + 1) by omega)
  exact ⟨(a % 18446744073709551616 % ((n : Int) + 1)).toNat, by rw [wrap64 (by omega) (by omega)]; omega, by omega⟩
end Go.Ab


/- The law WaveWidths. -/
namespace Go.Ab
open Go Go.Proofs Go.Ab.Wd Go.Ab.Bs Go.Ab.Sai
set_option linter.unusedVariables false
set_option linter.unusedSimpArgs false
end Go.Ab


/- Maps from whole numbers to whole numbers; docs.Back; slices.Sort. -/
namespace Go.Ab
open Go Go.Proofs Go.Ab.Wd Go.Ab.Bs Go.Ab.Sai
set_option linter.unusedVariables false
set_option linter.unusedSimpArgs false
/-! ### maps -/
def mkv (kv : List (Int × Int)) : List (AV × AV) := kv.map fun p => (.int .i64 p.1, .int .i64 p.2)
def mget (x : Int) : List (Int × Int) → Option Int
  | [] => none
  | p :: r => if p.1 = x then some p.2 else mget x r
def mput (x v : Int) : List (Int × Int) → List (Int × Int)
  | [] => [(x, v)]
  | p :: r => if p.1 = x then (x, v) :: r else p :: mput x v r
theorem mget_mput (x v y : Int) : ∀ kv, mget y (mput x v kv) = if y = x then some v else mget y kv
  | [] => by
    simp only [mput, mget]
    by_cases c : y = x
    · rw [if_pos c, if_pos c.symm]
    · rw [if_neg c, if_neg (fun e => c e.symm)]
  | p :: r => by
    unfold mput
    by_cases c : p.1 = x
    · rw [if_pos c]
      simp only [mget]
      by_cases d : y = x
      · rw [if_pos d, if_pos d.symm]
      · rw [if_neg d, if_neg (fun e => d e.symm), if_neg (fun e => d (e.symm.trans c))]
    · rw [if_neg c]
      simp only [mget]
      rw [mget_mput x v y r]
      by_cases d : y = x
      · subst d; simp [c]
      · simp [d]
theorem midx (x v : Int) : ∀ (kv : List (Int × Int)) (i : Nat), (mget x kv = none ∧ mapIdx .i64 x (mkv kv) i = some none ∧ mput x v kv = kv ++ [(x, v)]) ∨
    (∃ j u, mapIdx .i64 x (mkv kv) i = some (some (i + j)) ∧ kv[j]? = some (x, u) ∧ mget x kv = some u ∧ mput x v kv = kv.set j (x, v))
  | [], i => .inl ⟨rfl, rfl, rfl⟩
  | p :: r, i => by
    simp only [mkv, List.map_cons, mapIdx, mget, mput, if_true]
    by_cases c : p.1 = x
    · right
      refine ⟨0, p.2, by rw [if_pos c]; rfl, by simp [← c], by rw [if_pos c], by rw [if_pos c]; rfl⟩
    · rw [if_neg c, if_neg c, if_neg c]
      rcases midx x v r (i + 1) with ⟨h1, h2, h3⟩ | ⟨j, u, h1, h2, h3, h4⟩
      · exact .inl ⟨h1, h2, by rw [h3]; rfl⟩
      · exact .inr ⟨j + 1, u, by rw [show i + (j + 1) = i + 1 + j by omega]; exact h1, by simpa using h2, h3, by rw [h4]; rfl⟩
theorem look_run {σ : Store} {r : Nat} {kv : List (Int × Int)} (h : σ.objs[r]? = some (.map (mkv kv))) (x : Int) : σ.look (some r) .i64 x = some ((mget x kv).map (AV.int .i64)) := by
  simp only [Store.look, h]
  rcases midx x 0 kv 0 with ⟨h1, h2, _⟩ | ⟨j, u, h1, h2, h3, _⟩
  · rw [h2, h1]; rfl
  · rw [h1, h3, Nat.zero_add]
    simp [mkv, h2]
theorem upd_run {σ : Store} {r : Nat} {kv : List (Int × Int)} (h : σ.objs[r]? = some (.map (mkv kv))) (hp : σ.prot ≤ r) (x v : Int) : σ.upd (some r) .i64 x (.int .i64 v) = some (σ.setO r (.map (mkv (mput x v kv)))) := by
  simp only [Store.upd, h, if_pos hp]
  rcases midx x v kv 0 with ⟨h1, h2, h3⟩ | ⟨j, u, h1, h2, h3, h4⟩
  · rw [h2, h3]; simp [mkv, Store.setO]
  · rw [h1, h4, Nat.zero_add]; simp [mkv, Store.setO, List.map_set]
/-! ### the last place ahead -/
def lastI (l : List Int) : Nat → Int → Option Int
  | 0, _ => none
  | i + 1, x => if x = rd l (i : Nat) then some (i : Int) else lastI l i x
def bkI (l : List Int) (i : Nat) : Int := (lastI l i (rd l (i : Nat))).getD (-1)
def bkIL (l : List Int) : List Int := (List.range l.length).map (bkI l)
theorem bkIL_length (l : List Int) : (bkIL l).length = l.length := by simp [bkIL]
theorem lastI_spec (l : List Int) (x : Int) : ∀ i, (lastI l i x = none ∧ ∀ j : Nat, j < i → rd l (j : Nat) ≠ x) ∨ ∃ j : Nat, lastI l i x = some (j : Int) ∧ j < i ∧ rd l (j : Nat) = x ∧ ∀ k : Nat, j < k → k < i → rd l (k : Nat) ≠ x
  | 0 => .inl ⟨rfl, fun j hj => by omega⟩
  | i + 1 => by
    unfold lastI
    by_cases c : x = rd l (i : Nat)
    · rw [if_pos c]; exact .inr ⟨i, rfl, by omega, c.symm, fun k h1 h2 => by omega⟩
    · rw [if_neg c]
      rcases lastI_spec l x i with ⟨h1, h2⟩ | ⟨j, h1, h2, h3, h4⟩
      · refine .inl ⟨h1, fun j hj => ?_⟩
        by_cases e : j = i
        · subst e; exact fun e => c e.symm
        · exact h2 j (by omega)
      · refine .inr ⟨j, h1, by omega, h3, fun k k1 k2 => ?_⟩
        by_cases e : k = i
        · subst e; exact fun e => c e.symm
        · exact h4 k k1 (by omega)
/-- The number is there ahead, behind a place, if its last place is. -/
theorem bk_ge {l : List Int} {i a : Nat} : (a : Int) ≤ bkI l i ↔ ∃ j : Nat, a ≤ j ∧ j < i ∧ rd l (j : Nat) = rd l (i : Nat) := by
  unfold bkI
  rcases lastI_spec l (rd l (i : Nat)) i with ⟨h1, h2⟩ | ⟨j, h1, h2, h3, h4⟩
  · rw [h1]
    constructor
    · intro h; simp at h; omega
    · rintro ⟨j, _, hj, e⟩; exact absurd e (h2 j hj)
  · rw [h1]
    simp only [Option.getD_some]
    constructor
    · intro h; exact ⟨j, by omega, h2, h3⟩
    · rintro ⟨k, k1, k2, k3⟩
      have : ¬ j < k := fun c => h4 k c k2 k3
      omega
theorem bk_lt (l : List Int) (i : Nat) : -1 ≤ bkI l i ∧ bkI l i < i := by
  unfold bkI
  rcases lastI_spec l (rd l (i : Nat)) i with ⟨h1, h2⟩ | ⟨j, h1, h2, h3, h4⟩
  · rw [h1]; simp only [Option.getD_none]; omega
  · rw [h1]; simp only [Option.getD_some]; omega
theorem rd_bkIL {l : List Int} {i : Nat} (hi : i < l.length) : rd (bkIL l) (i : Nat) = bkI l i := by
  unfold bkIL rd
  simp [hi]
theorem docsBack_run {σ : Store} {h : Hdl} {l : List Int} (hT : σ.Ints h l) (hp : σ.prot ≤ σ.objs.length) (hn : l.length < 2 ^ 40) :
    ∃ ho σ', Runs Try.prog 44 [.slice h] σ (.slice ho) σ' ∧ Kp σ.objs.length σ σ' ∧ σ'.Ints ho (bkIL l) ∧ ∀ b, ho.row = some b → σ.objs.length ≤ b ∧ b < σ'.objs.length := by
  have ll := hT.ilen
  obtain ⟨m, hm⟩ : ∃ m, m = σ.objs.length := ⟨_, rfl⟩
  obtain ⟨ho, hho⟩ : ∃ h : Hdl, h = ⟨some (m + 1, 0), l.length, some l.length⟩ := ⟨_, rfl⟩
  have set_bk : ∀ i, i < l.length → ((List.range i).map (bkI l) ++ List.replicate (l.length - i) 0).set i (bkI l i) = (List.range (i + 1)).map (bkI l) ++ List.replicate (l.length - (i + 1)) 0 := fun i hi => by
    have e : l.length - i = (l.length - (i + 1)) + 1 := by omega
    rw [List.set_append, if_neg (by simp), e, List.replicate_succ, List.length_map, List.length_range, Nat.sub_self, List.set_cons_zero, List.range_succ, List.map_append, List.append_assoc]
    rfl
  obtain ⟨r, e, σ', rfl, K, R⟩ := EvI.up (f := fun k s => stepF Try.prog (gm Try.prog k) drawn k Try.f44 [1, 1, 1, 0, 1, 0] [15, 14, 13, 4, 3] s) l.length
    (fun i st => ∃ σ' kv, st = ([.int .i64 i, .int .i64 l.length, .slice h, .slice ho, .map (some m)], σ') ∧ Kp m σ σ' ∧ σ'.objs[m]? = some (.map (mkv kv)) ∧ σ'.Row (m + 1) 1 (intsL ((List.range i).map (bkI l) ++ List.replicate (l.length - i) 0)) ∧ ∀ x, mget x kv = lastI l i x)
    (fun r => ∃ σ', r = (AX.exit 0, [(4, .slice ho)], σ') ∧ Kp m σ σ' ∧ σ'.Row (m + 1) 1 (intsL (bkIL l)))
    (by
      rintro i st hi ⟨σ', kv, rfl, K, Mp, R, G⟩
      have i0 : (0 : Int) ≤ i := by omega
      have i1 : (i : Int) < l.length := by omega
      have i2 : (i : Int) < h.len := by omega
      have i3 : (i : Int) < ho.len := by rw [hho]; exact i1
      have w := wsucc hi (by omega)
      have hTs : σ'.Ints h l := Store.Sl.kp hT (hm ▸ K)
      have rx := hTs.rd i0 i1
      have lk := look_run Mp (rd l (i : Nat))
      have hpm : σ'.prot ≤ m := by rw [K.prot]; omega
      have lr : ((List.range i).map (bkI l) ++ List.replicate (l.length - i) 0).length = l.length := by simp; omega
      have st := st_row R (by omega) (i := (i : Int)) i0 (by rw [intsL_length, lr]; exact i1) (v := .int .i64 (bkI l i)) rfl (len := l.length) (cp := some l.length)
      rw [← hho, Int.toNat_natCast, intsL_set', set_bk i hi] at st
      obtain ⟨σ2, h2⟩ : ∃ s, s = σ'.setO (m + 1) (.cells (intsL ((List.range (i + 1)).map (bkI l) ++ List.replicate (l.length - (i + 1)) 0)) true 1) := ⟨_, rfl⟩
      rw [← h2] at st
      have M2 : σ2.objs[m]? = some (.map (mkv kv)) := by
        rw [h2]; show (σ'.objs.set (m + 1) _)[m]? = _
        rw [List.getElem?_set, if_neg (by omega)]; exact Mp
      have up := upd_run M2 (by rw [h2]; exact hpm) (rd l (i : Nat)) (i : Int)
      have R2 : σ2.Row (m + 1) 1 (intsL ((List.range (i + 1)).map (bkI l) ++ List.replicate (l.length - (i + 1)) 0)) := by rw [h2]; exact Store.Row.setO_eq R.lt
      have lt2 : m < σ2.objs.length := (List.getElem?_eq_some_iff.1 M2).1
      have gl : mget (rd l (i : Nat)) kv = lastI l i (rd l (i : Nat)) := G _
      refine ⟨([.int .i64 (i + 1 : Nat), .int .i64 l.length, .slice h, .slice ho, .map (some m)], σ2.setO m (.map (mkv (mput (rd l (i : Nat)) i kv)))), Ev.of fun k => ?_, _, mput (rd l (i : Nat)) i kv, rfl, (by rw [h2]; exact (K.setO (by omega)).setO (by omega)), ?_, R2.setO_ne (by omega), fun x => ?_⟩
      · simp only [f44_L111010]
        cases hc : lastI l i (rd l (i : Nat)) with
        | none =>
          have hb : bkI l i = -1 := by unfold bkI; rw [hc]; rfl
          rw [hb] at st
          rw [gl, hc] at lk
          simp only [Option.bind_some, decide_eq_true_eq, decide_eq_false_iff_not, Bool.not_eq_true', Bool.not_true, Bool.not_false, Bool.false_eq_true, Bool.true_eq_false, Bool.not_eq_eq_eq_not, beq_self_eq_true, beqFT, beqTF, decide_true, decide_false, not_false_eq_true, not_true_eq_false, ne_eq, true_and, and_true, false_and, and_false, and_self, if_true, if_false, ite_true, ite_false, Bool.and_true, Bool.and_false, Bool.true_and, Bool.false_and, Bool.or_true, Bool.true_or, Bool.or_false, Bool.false_or, or_true, true_or, or_false, false_or, or_self, AV.asInt, AV.asBool, AV.asSl, AV.asPtr, AV.asFn, AV.asStr, AV.asMap, AV.asIfc, AV.item, List.length_cons, List.length_nil, List.getElem?_cons_zero, List.getElem?_cons_succ, Nat.zero_add, i0, i1, i2, rx, lk, Option.map_none, AV.isO, i3, st, up, w]
        | some u =>
          have hb : bkI l i = u := by unfold bkI; rw [hc]; rfl
          rw [hb] at st
          rw [gl, hc] at lk
          simp only [Option.bind_some, decide_eq_true_eq, decide_eq_false_iff_not, Bool.not_eq_true', Bool.not_true, Bool.not_false, Bool.false_eq_true, Bool.true_eq_false, Bool.not_eq_eq_eq_not, beq_self_eq_true, beqFT, beqTF, decide_true, decide_false, not_false_eq_true, not_true_eq_false, ne_eq, true_and, and_true, false_and, and_false, and_self, if_true, if_false, ite_true, ite_false, Bool.and_true, Bool.and_false, Bool.true_and, Bool.false_and, Bool.or_true, Bool.true_or, Bool.or_false, Bool.false_or, or_true, true_or, or_false, false_or, or_self, AV.asInt, AV.asBool, AV.asSl, AV.asPtr, AV.asFn, AV.asStr, AV.asMap, AV.asIfc, AV.item, List.length_cons, List.length_nil, List.getElem?_cons_zero, List.getElem?_cons_succ, Nat.zero_add, i0, i1, i2, rx, lk, Option.map_some, AV.isO, AV.ofO, i3, st, up, w]
      · show (σ2.objs.set m _)[m]? = _
        rw [List.getElem?_set, if_pos rfl, if_pos lt2]
      · rw [mget_mput]; unfold lastI
        by_cases c : x = rd l (i : Nat)
        · rw [if_pos c, if_pos c]
        · rw [if_neg c, if_neg c]; exact G x)
    (by
      rintro st ⟨σ', kv, rfl, K, Mp, R, G⟩
      rw [Nat.sub_self, List.replicate_zero, List.append_nil] at R
      exact ⟨_, Ev.of fun k => by simp only [f44_L111010]; simp only [Option.bind_some, decide_eq_true_eq, decide_eq_false_iff_not, Bool.not_eq_true', Bool.not_true, Bool.not_false, Bool.false_eq_true, Bool.true_eq_false, Bool.not_eq_eq_eq_not, beq_self_eq_true, beqFT, beqTF, decide_true, decide_false, not_false_eq_true, not_true_eq_false, ne_eq, true_and, and_true, false_and, and_false, and_self, if_true, if_false, ite_true, ite_false, Bool.and_true, Bool.and_false, Bool.true_and, Bool.false_and, Bool.or_true, Bool.true_or, Bool.or_false, Bool.false_or, or_true, true_or, or_false, false_or, or_self, AV.asInt, AV.asBool, AV.asSl, AV.asPtr, AV.asFn, AV.asStr, AV.asMap, AV.asIfc, AV.item, List.length_cons, List.length_nil, List.getElem?_cons_zero, List.getElem?_cons_succ, Nat.zero_add, Int.lt_irrefl], σ', rfl, K, R⟩)
    (s := ([.int .i64 0, .int .i64 l.length, .slice h, .slice ho, .map (some m)], Store.push { objs := σ.objs ++ [AObj.map []], prot := σ.prot } (mkCells [.int .i64 0] l.length) 1))
    ⟨_, [], rfl, by
      rw [hm]
      have k1 : Kp σ.objs.length σ { objs := σ.objs ++ [AObj.map []], prot := σ.prot } := ⟨rfl, by simp, fun x hx => List.getElem?_append_left hx⟩
      exact k1.push' (by simp), by simp [Store.push, hm, mkv], by
      have := (Store.Row.new : (Store.push { objs := σ.objs ++ [AObj.map []], prot := σ.prot } (mkCells [.int .i64 0] l.length) 1).Row _ 1 _)
      simp only [List.length_append, List.length_singleton, ← hm] at this
      rw [mkCells_ints] at this ⊢
      simpa using this, fun x => rfl⟩
  obtain ⟨n1, e⟩ := loopF_ev e
  have R' : σ'.Ints ho (bkIL l) := by
    rw [hho]
    have := R.sl (len := l.length) (cp := some l.length) (by rw [intsL_length, bkIL_length]; simp)
    exact this
  refine ⟨ho, σ', Runs.intro (fn := Try.f44) (by kernel_rfl) (by kernel_rfl) ⟨n1, fun k hk => ?_⟩, hm ▸ K, R', fun b hb => by rw [hho] at hb; simp [Hdl.row] at hb; have := R.lt; omega⟩
  have e := e k hk
  simp only at e
  have c1 : ((0 : Int) ≤ l.length ∧ (l.length : Int) ≤ l.length) ∧ (l.length : Int) * ((8 : Nat) : Int) ≤ 281474976710656 := by omega
  have c2 : (σ.objs ++ [AObj.map []]).length = m + 1 := by simp [hm]
  simp only [f44_eq, ll, if_pos c1, Int.toNat_natCast, c2, ← hm, ← hho, e, Option.bind_some]
  rw [f44_X111010_1]
theorem slsortL_run {σ : Store} {n : Nat} {h : Hdl} {l : List Int} (g : GrowI σ n h l) (hp : σ.prot ≤ n) (hl : l.length < 2 ^ 60) : ∃ σ', Runs Try.prog 60 [.slice h] σ (.tuple []) σ' ∧ Kp n σ σ' ∧ GrowI σ' n h (sortL l) ∧ σ'.objs.length = σ.objs.length := by
  have ll := g.ints.ilen
  rcases Nat.eq_zero_or_pos l.length with h0 | h0
  · have : l = [] := List.eq_nil_of_length_eq_zero h0
    subst this
    refine ⟨σ, Runs.told (f := sortT) (by kernel_rfl) ?_, Kp.refl _ _, g, rfl⟩
    obtain ⟨a, len, cap⟩ := h
    simp only [List.length_nil] at ll
    subst ll
    rfl
  · have s := Grow.sl g
    rcases s.row with h1 | ⟨b, o, cs, rw, h1, h2, h3, h4⟩
    · omega
    · obtain ⟨hb, cs', k1, k2, k3⟩ := g.own.own b o h1
      rw [h2] at k1; injection k1 with k1; injection k1 with e1 e2 e3; subst e1 e2
      simp only [intsL_length] at h3 h4
      have hbl : b < σ.objs.length := (List.getElem?_eq_some_iff.1 h2).1
      refine ⟨σ.setO b (.cells (cs.take o ++ (intsL (sortL l) ++ cs.drop (o + l.length))) true 1), Runs.told (f := sortT) (by kernel_rfl) ?_, (Kp.refl _ _).setO hb, ⟨⟨by simp [ll, sortL_length], .inr ⟨b, o, _, true, h1, Store.Row.setO_eq hbl, ?_, ?_⟩⟩, ⟨fun b' o' e => ?_, g.own.nil⟩⟩, by simp⟩
      · obtain ⟨a, len, cap⟩ := h
        simp only at h1 ll
        subst h1 ll
        obtain ⟨m, hm⟩ : ∃ m, l.length = m + 1 := ⟨l.length - 1, by omega⟩
        unfold sortT
        simp only [hm]
        simp only [h2]
        rw [hm] at h3 h4
        rw [h4, intsOf_ints]
        simp only
        rw [if_pos ⟨by omega, h3, by omega⟩]
      · simp only [List.length_append, List.length_take, intsL_length, List.length_drop, sortL_length]; omega
      · have tk : (cs.take o).length = o := by simp; omega
        rw [List.drop_append_of_le_length (by omega), List.drop_of_length_le (by omega), List.nil_append, List.take_append_of_le_length (by simp), List.take_of_length_le (by simp)]
      · rw [h1] at e; injection e with e; injection e with e1 e2; subst e1 e2
        refine ⟨hb, _, Store.Row.setO_eq hbl, ?_, fun c hc => ?_⟩
        · simp only [List.length_append, List.length_take, intsL_length, List.length_drop, sortL_length]; omega
        · have := k3 c hc
          simp only [List.length_append, List.length_take, intsL_length, List.length_drop, sortL_length]; omega
end Go.Ab


/- The least of a range: plain. -/
namespace Go.Ab
open Go Go.Proofs Go.Ab.Wd Go.Ab.Bs Go.Ab.Sai
set_option linter.unusedVariables false
set_option linter.unusedSimpArgs false
/-- The better of two places. -/
def btr (l : List Int) (x y : Int) : Int := if x < 0 then y else if y < 0 then x else if rd l x < rd l y then x else if rd l x = rd l y ∧ x < y then x else y
/-- The place of the least number of a range, the first of like ones. -/
def IsB (l : List Int) (a b i : Int) : Prop := (b ≤ a ∧ i = -1) ∨ (a ≤ i ∧ i < b ∧ ∀ j, a ≤ j → j < b → rd l i < rd l j ∨ (rd l i = rd l j ∧ i ≤ j))
theorem IsB.none {l : List Int} {a b : Int} (h : b ≤ a) : IsB l a b (-1) := .inl ⟨h, rfl⟩
theorem IsB.one (l : List Int) (a : Int) : IsB l a (a + 1) a := .inr ⟨by omega, by omega, fun j h1 h2 => .inr ⟨by rw [show j = a by omega], by omega⟩⟩
theorem IsB.join {l : List Int} {a m c b i j : Int} (h1 : IsB l a m i) (h2 : IsB l c b j) (a0 : 0 ≤ a) (h3 : a ≤ c) (h4 : c ≤ m) (h5 : m ≤ b) : IsB l a b (btr l i j) := by
  unfold btr
  rcases h1 with ⟨p1, rfl⟩ | ⟨p1, p2, p3⟩
  · rw [if_pos (by omega)]
    have : c = a := by omega
    subst this; exact h2
  · rw [if_neg (by omega)]
    rcases h2 with ⟨q1, rfl⟩ | ⟨q1, q2, q3⟩
    · rw [if_pos (by omega)]
      exact .inr ⟨p1, by omega, fun k k1 k2 => p3 k k1 (by omega)⟩
    · rw [if_neg (by omega)]
      right
      by_cases e1 : rd l i < rd l j
      · rw [if_pos e1]
        refine ⟨p1, by omega, fun k k1 k2 => ?_⟩
        by_cases d : k < m
        · exact p3 k k1 d
        · have := q3 k (by omega) k2; omega
      · rw [if_neg e1]
        by_cases e2 : rd l i = rd l j ∧ i < j
        · rw [if_pos e2]
          refine ⟨p1, by omega, fun k k1 k2 => ?_⟩
          by_cases d : k < m
          · exact p3 k k1 d
          · have := q3 k (by omega) k2; omega
        · rw [if_neg e2]
          refine ⟨by omega, q2, fun k k1 k2 => ?_⟩
          by_cases d : k < c
          · have := p3 k k1 (by omega); omega
          · exact q3 k (by omega) k2
/-- The blocks' row at a width. -/
def nbl (n : Nat) : Nat := (n + 31) / 32
structure IsR (l : List Int) (w : Nat) (r : List Int) : Prop where
  len : r.length = nbl l.length + 1 - w
  get : ∀ i : Nat, i < r.length → IsB l (32 * i : Nat) (min (32 * (i + w)) l.length : Nat) (rd r (i : Nat))
theorem IsR.next {l r : List Int} {w : Nat} (h : IsR l w r) (w0 : 0 < w) {i : Nat} (hi : i + w < r.length) : IsB l (32 * i : Nat) (min (32 * (i + 2 * w)) l.length : Nat) (btr l (rd r (i : Nat)) (rd r ((i + w : Nat) : Int))) := by
  have h1 := h.get i (by omega)
  have h2 := h.get (i + w) hi
  have hl := h.len
  unfold nbl at hl
  rw [show i + w + w = i + 2 * w by omega] at h2
  exact h1.join h2 (by omega) (by omega) (by omega) (by omega)
/-- What the table answers by its rows. -/
theorem IsB.mid {l r : List Int} {w x y : Nat} (h : IsR l w r) (hxy : x + w ≤ y) (hy : 32 * y ≤ l.length) (hw : y ≤ x + 2 * w) : IsB l (32 * x : Nat) (32 * y : Nat) (btr l (rd r (x : Nat)) (rd r ((y - w : Nat) : Int))) := by
  have hl := h.len
  unfold nbl at hl
  have h1 := h.get x (by omega)
  have h2 := h.get (y - w) (by omega)
  rw [show min (32 * (x + w)) l.length = 32 * (x + w) by omega] at h1
  rw [show min (32 * (y - w + w)) l.length = 32 * y by omega] at h2
  exact h1.join h2 (by omega) (by omega) (by omega) (by omega)
end Go.Ab


/- The least of a range: better, scan, New. -/
namespace Go.Ab
open Go Go.Proofs Go.Ab.Wd Go.Ab.Bs Go.Ab.Sai
set_option linter.unusedVariables false
set_option linter.unusedSimpArgs false
theorem IsB.le {l : List Int} {a b i : Int} (h : IsB l a b i) (hb : b ≤ l.length) : i < l.length := by
  rcases h with ⟨_, rfl⟩ | ⟨_, h, _⟩
  · omega
  · omega
section
variable {σ : Store} {b : Nat} {hl hr : Hdl} {l : List Int}
theorem better_run (R : σ.Row b 2 [.slice hl, .slice hr]) (T : σ.Ints hl l) {x y : Int} (hx : x < l.length) (hy : y < l.length) : Runs Try.prog 62 [.ptr (some (b, 0)), .int .i64 x, .int .i64 y] σ (.int .i64 (btr l x y)) σ := by
  have ll := T.ilen
  have e0 := row_sl R (o := 0) rfl
  refine Runs.intro (fn := Try.f62) (by kernel_rfl) (by kernel_rfl) (Ev.of fun k => ?_)
  simp only [f62_eq]
  unfold btr
  by_cases c1 : x < 0
  · simp only [Option.bind_some, decide_eq_true_eq, decide_eq_false_iff_not, Bool.not_eq_true', Bool.not_true, Bool.not_false, Bool.false_eq_true, Bool.true_eq_false, Bool.not_eq_eq_eq_not, beq_self_eq_true, beqFT, beqTF, decide_true, decide_false, not_false_eq_true, not_true_eq_false, ne_eq, true_and, and_true, false_and, and_false, and_self, if_true, if_false, ite_true, ite_false, Bool.and_true, Bool.and_false, Bool.true_and, Bool.false_and, Bool.or_true, Bool.true_or, Bool.or_false, Bool.false_or, or_true, true_or, or_false, false_or, or_self, AV.asInt, AV.asBool, AV.asSl, AV.asPtr, AV.asFn, AV.asStr, AV.asMap, AV.asIfc, AV.item, List.length_cons, List.length_nil, List.getElem?_cons_zero, List.getElem?_cons_succ, Nat.zero_add, c1]
  · by_cases c2 : y < 0
    · simp only [Option.bind_some, decide_eq_true_eq, decide_eq_false_iff_not, Bool.not_eq_true', Bool.not_true, Bool.not_false, Bool.false_eq_true, Bool.true_eq_false, Bool.not_eq_eq_eq_not, beq_self_eq_true, beqFT, beqTF, decide_true, decide_false, not_false_eq_true, not_true_eq_false, ne_eq, true_and, and_true, false_and, and_false, and_self, if_true, if_false, ite_true, ite_false, Bool.and_true, Bool.and_false, Bool.true_and, Bool.false_and, Bool.or_true, Bool.true_or, Bool.or_false, Bool.false_or, or_true, true_or, or_false, false_or, or_self, AV.asInt, AV.asBool, AV.asSl, AV.asPtr, AV.asFn, AV.asStr, AV.asMap, AV.asIfc, AV.item, List.length_cons, List.length_nil, List.getElem?_cons_zero, List.getElem?_cons_succ, Nat.zero_add, c1, c2]
    · have x0 : 0 ≤ x := by omega
      have y0 : 0 ≤ y := by omega
      have rx := T.rd x0 hx
      have ry := T.rd y0 hy
      have x1 : x < hl.len := by omega
      have y1 : y < hl.len := by omega
      by_cases c3 : rd l x < rd l y
      · simp only [Option.bind_some, decide_eq_true_eq, decide_eq_false_iff_not, Bool.not_eq_true', Bool.not_true, Bool.not_false, Bool.false_eq_true, Bool.true_eq_false, Bool.not_eq_eq_eq_not, beq_self_eq_true, beqFT, beqTF, decide_true, decide_false, not_false_eq_true, not_true_eq_false, ne_eq, true_and, and_true, false_and, and_false, and_self, if_true, if_false, ite_true, ite_false, Bool.and_true, Bool.and_false, Bool.true_and, Bool.false_and, Bool.or_true, Bool.true_or, Bool.or_false, Bool.false_or, or_true, true_or, or_false, false_or, or_self, AV.asInt, AV.asBool, AV.asSl, AV.asPtr, AV.asFn, AV.asStr, AV.asMap, AV.asIfc, AV.item, List.length_cons, List.length_nil, List.getElem?_cons_zero, List.getElem?_cons_succ, Nat.zero_add, c1, c2, e0, x0, y0, x1, y1, rx, ry, c3]
      · by_cases c4 : rd l x = rd l y
        · by_cases c5 : x < y
          · simp only [Option.bind_some, decide_eq_true_eq, decide_eq_false_iff_not, Bool.not_eq_true', Bool.not_true, Bool.not_false, Bool.false_eq_true, Bool.true_eq_false, Bool.not_eq_eq_eq_not, beq_self_eq_true, beqFT, beqTF, decide_true, decide_false, not_false_eq_true, not_true_eq_false, ne_eq, true_and, and_true, false_and, and_false, and_self, if_true, if_false, ite_true, ite_false, Bool.and_true, Bool.and_false, Bool.true_and, Bool.false_and, Bool.or_true, Bool.true_or, Bool.or_false, Bool.false_or, or_true, true_or, or_false, false_or, or_self, AV.asInt, AV.asBool, AV.asSl, AV.asPtr, AV.asFn, AV.asStr, AV.asMap, AV.asIfc, AV.item, List.length_cons, List.length_nil, List.getElem?_cons_zero, List.getElem?_cons_succ, Nat.zero_add, c1, c2, e0, x0, y0, x1, y1, rx, ry, c3, c4, c5, Int.lt_irrefl]
          · simp only [Option.bind_some, decide_eq_true_eq, decide_eq_false_iff_not, Bool.not_eq_true', Bool.not_true, Bool.not_false, Bool.false_eq_true, Bool.true_eq_false, Bool.not_eq_eq_eq_not, beq_self_eq_true, beqFT, beqTF, decide_true, decide_false, not_false_eq_true, not_true_eq_false, ne_eq, true_and, and_true, false_and, and_false, and_self, if_true, if_false, ite_true, ite_false, Bool.and_true, Bool.and_false, Bool.true_and, Bool.false_and, Bool.or_true, Bool.true_or, Bool.or_false, Bool.false_or, or_true, true_or, or_false, false_or, or_self, AV.asInt, AV.asBool, AV.asSl, AV.asPtr, AV.asFn, AV.asStr, AV.asMap, AV.asIfc, AV.item, List.length_cons, List.length_nil, List.getElem?_cons_zero, List.getElem?_cons_succ, Nat.zero_add, c1, c2, e0, x0, y0, x1, y1, rx, ry, c3, c4, c5, Int.lt_irrefl]
        · simp only [Option.bind_some, decide_eq_true_eq, decide_eq_false_iff_not, Bool.not_eq_true', Bool.not_true, Bool.not_false, Bool.false_eq_true, Bool.true_eq_false, Bool.not_eq_eq_eq_not, beq_self_eq_true, beqFT, beqTF, decide_true, decide_false, not_false_eq_true, not_true_eq_false, ne_eq, true_and, and_true, false_and, and_false, and_self, if_true, if_false, ite_true, ite_false, Bool.and_true, Bool.and_false, Bool.true_and, Bool.false_and, Bool.or_true, Bool.true_or, Bool.or_false, Bool.false_or, or_true, true_or, or_false, false_or, or_self, AV.asInt, AV.asBool, AV.asSl, AV.asPtr, AV.asFn, AV.asStr, AV.asMap, AV.asIfc, AV.item, List.length_cons, List.length_nil, List.getElem?_cons_zero, List.getElem?_cons_succ, Nat.zero_add, c1, c2, e0, x0, y0, x1, y1, rx, ry, c3, c4]
theorem scan_run (R : σ.Row b 2 [.slice hl, .slice hr]) (T : σ.Ints hl l) (hn : l.length ≤ 4194304) {x y : Int} (x0 : 0 ≤ x) (hx : x ≤ 8388608) (hy : y ≤ l.length) : ∃ i, Runs Try.prog 61 [.ptr (some (b, 0)), .int .i64 x, .int .i64 y] σ (.int .i64 i) σ ∧ IsB l x y i := by
  obtain ⟨r, e, i, rfl, hi⟩ := EvI.while (f := fun k s => stepF Try.prog (gm Try.prog k) drawn k Try.f61 [1, 1, 0, 1, 0] [8, 7, 2, 0] s)
    (fun m st => ∃ i best : Int, m = (y - i).toNat ∧ st = ([.int .i64 i, .int .i64 best, .int .i64 y, .ptr (some (b, 0))], σ) ∧ x ≤ i ∧ (i ≤ y ∨ i = x) ∧ IsB l x i best)
    (fun r => ∃ best : Int, r = (AX.exit 0, [(7, .int .i64 best)], σ) ∧ IsB l x y best)
    (by
      rintro m st ⟨i, best, rfl, rfl, h1, h2, hb⟩
      by_cases c : i < y
      · obtain ⟨n1, r1⟩ := better_run R T (x := best) (y := i) (hb.le (by omega)) (by omega)
        have w : IntKind.wrap .i64 (i + 1) = i + 1 := wrap64 (by omega) (by omega)
        refine .inl ⟨(y - (i + 1)).toNat, _, by omega, ⟨n1, fun k hk => ?_⟩, i + 1, btr l best i, rfl, rfl, by omega, .inl (by omega), hb.join (IsB.one l i) x0 h1 (by omega) (by omega)⟩
        have r1 := r1 k hk
        simp only at r1
        simp only [f61_L11010]
        simp only [Option.bind_some, decide_eq_true_eq, decide_eq_false_iff_not, Bool.not_eq_true', Bool.not_true, Bool.not_false, Bool.false_eq_true, Bool.true_eq_false, Bool.not_eq_eq_eq_not, beq_self_eq_true, beqFT, beqTF, decide_true, decide_false, not_false_eq_true, not_true_eq_false, ne_eq, true_and, and_true, false_and, and_false, and_self, if_true, if_false, ite_true, ite_false, Bool.and_true, Bool.and_false, Bool.true_and, Bool.false_and, Bool.or_true, Bool.true_or, Bool.or_false, Bool.false_or, or_true, true_or, or_false, false_or, or_self, AV.asInt, AV.asBool, AV.asSl, AV.asPtr, AV.asFn, AV.asStr, AV.asMap, AV.asIfc, AV.item, List.length_cons, List.length_nil, List.getElem?_cons_zero, List.getElem?_cons_succ, Nat.zero_add, c, r1, w]
      · refine .inr ⟨_, Ev.of fun k => ?_, best, rfl, ?_⟩
        · simp only [f61_L11010]
          simp only [Option.bind_some, decide_eq_true_eq, decide_eq_false_iff_not, Bool.not_eq_true', Bool.not_true, Bool.not_false, Bool.false_eq_true, Bool.true_eq_false, Bool.not_eq_eq_eq_not, beq_self_eq_true, beqFT, beqTF, decide_true, decide_false, not_false_eq_true, not_true_eq_false, ne_eq, true_and, and_true, false_and, and_false, and_self, if_true, if_false, ite_true, ite_false, Bool.and_true, Bool.and_false, Bool.true_and, Bool.false_and, Bool.or_true, Bool.true_or, Bool.or_false, Bool.false_or, or_true, true_or, or_false, false_or, or_self, AV.asInt, AV.asBool, AV.asSl, AV.asPtr, AV.asFn, AV.asStr, AV.asMap, AV.asIfc, AV.item, List.length_cons, List.length_nil, List.getElem?_cons_zero, List.getElem?_cons_succ, Nat.zero_add, c]
        · rcases h2 with h2 | h2
          · have : i = y := by omega
            subst this; exact hb
          · subst h2
            rcases hb with ⟨p, q⟩ | ⟨p, q, _⟩
            · exact .inl ⟨by omega, q⟩
            · omega)
    (y - x).toNat ([.int .i64 x, .int .i64 (-1), .int .i64 y, .ptr (some (b, 0))], σ) ⟨x, -1, rfl, rfl, by omega, .inr rfl, IsB.none (by omega)⟩
  obtain ⟨n1, e⟩ := loopF_ev e
  refine ⟨i, Runs.intro (fn := Try.f61) (by kernel_rfl) (by kernel_rfl) ⟨n1, fun k hk => ?_⟩, hi⟩
  have e := e k hk
  simp only at e
  simp only [f61_eq]
  rw [e, Option.bind_some, f61_X11010_1]
end
/-- A table of least numbers in memory. -/
structure Tab (σ : Store) (p : Ptr) (l : List Int) : Prop where
  ex : ∃ (b : Nat) (hl hr : Hdl) (hs : List Hdl), p = some (b, 0) ∧ σ.Row b 2 [.slice hl, .slice hr] ∧ σ.Ints hl l ∧ σ.Sl hr 1 (hs.map AV.slice) ∧ ∀ k, 2 ^ k ≤ nbl l.length → ∃ h r, hs[k]? = some h ∧ σ.Ints h r ∧ IsR l (2 ^ k) r
  small : l.length ≤ 4194304
theorem Tab.kp {σ σ' : Store} {p : Ptr} {l : List Int} (t : Tab σ p l) (k : Kp σ.objs.length σ σ') : Tab σ' p l := by
  obtain ⟨b, hl, hr, hs, e, R, T, S, G⟩ := t.ex
  refine ⟨⟨b, hl, hr, hs, e, R.kp k R.lt, Store.Sl.kp T k, Store.Sl.kp S k, fun j hj => ?_⟩, t.small⟩
  obtain ⟨h, r, h1, h2, h3⟩ := G j hj
  exact ⟨h, r, h1, Store.Sl.kp h2 k, h3⟩
theorem Tab.keep {σ σ' : Store} {p : Ptr} {l : List Int} (t : Tab σ p l) (k : ∀ x : Nat, x < σ.objs.length → σ'.objs[x]? = σ.objs[x]?) : Tab σ' p l := by
  obtain ⟨b, hl, hr, hs, e, R, T, S, G⟩ := t.ex
  have kk : ∀ {h : Hdl} {L : List AV}, σ.Sl h 1 L → σ'.Sl h 1 L := fun {h L} s => by
    refine ⟨s.len, ?_⟩
    rcases s.row with h1 | ⟨b, o, cs, rw, h1, h2, h3⟩
    · exact .inl h1
    · exact .inr ⟨b, o, cs, rw, h1, (k b (List.getElem?_eq_some_iff.1 h2).1).trans h2, h3⟩
  refine ⟨⟨b, hl, hr, hs, e, (k b R.lt).trans R, kk T, kk S, fun j hj => ?_⟩, t.small⟩
  obtain ⟨h, r, h1, h2, h3⟩ := G j hj
  exact ⟨h, r, h1, kk h2, h3⟩
theorem sls_rd {σ : Store} {h : Hdl} {hs : List Hdl} (s : σ.Sl h 1 (hs.map AV.slice)) {j : Nat} {q : Hdl} (hj : hs[j]? = some q) : σ.ldSl (h.idx (j : Int) 1) = some q := by
  have : σ.cell (h.idx (j : Int) 1) = some (.slice q) := Store.Sl.at s (by omega) (by simp [hj])
  simp [Store.ldSl, this]
theorem tlen_run {σ : Store} {p : Ptr} {l : List Int} (t : Tab σ p l) : Runs Try.prog 65 [.ptr p] σ (.int .i64 l.length) σ := by
  obtain ⟨b, hl, hr, hs, rfl, R, T, S, G⟩ := t.ex
  have e0 := row_sl R (o := 0) rfl
  have ll := T.ilen
  refine Runs.intro (fn := Try.f65) (by kernel_rfl) (by kernel_rfl) (Ev.of fun k => ?_)
  simp only [f65_eq]
  simp only [Option.bind_some, decide_eq_true_eq, decide_eq_false_iff_not, Bool.not_eq_true', Bool.not_true, Bool.not_false, Bool.false_eq_true, Bool.true_eq_false, Bool.not_eq_eq_eq_not, beq_self_eq_true, beqFT, beqTF, decide_true, decide_false, not_false_eq_true, not_true_eq_false, ne_eq, true_and, and_true, false_and, and_false, and_self, if_true, if_false, ite_true, ite_false, Bool.and_true, Bool.and_false, Bool.true_and, Bool.false_and, Bool.or_true, Bool.true_or, Bool.or_false, Bool.false_or, or_true, true_or, or_false, false_or, or_self, AV.asInt, AV.asBool, AV.asSl, AV.asPtr, AV.asFn, AV.asStr, AV.asMap, AV.asIfc, AV.item, List.length_cons, List.length_nil, List.getElem?_cons_zero, List.getElem?_cons_succ, Nat.zero_add, Option.isNone_some, e0, ll]
theorem tdiv32 {x : Int} (h0 : 0 ≤ x) (h1 : x < 2 ^ 40) : IntKind.wrap .i64 (Int.tdiv x 32) = ((x.toNat / 32 : Nat) : Int) := by
  rw [Int.tdiv_eq_ediv_of_nonneg h0, wrap64 (by omega) (by omega)]; omega
theorem len66_run (σ : Store) {x : Nat} (hx : x < 2 ^ 24) : ∃ c : Nat, c ≤ 24 ∧ Runs Try.prog 66 [.int .u64 x] σ (.int .i64 c) σ ∧ IsLen x c := by
  obtain ⟨c, h1, ⟨n1, r1⟩, h2⟩ := len64_run σ hx
  refine ⟨c, h1, Runs.intro (fn := Try.f66) (by kernel_rfl) (by kernel_rfl) ⟨n1, fun k hk => ?_⟩, h2⟩
  have r1 := r1 k hk
  simp only at r1
  simp only [f66_eq]
  simp only [Option.bind_some, decide_eq_true_eq, decide_eq_false_iff_not, Bool.not_eq_true', Bool.not_true, Bool.not_false, Bool.false_eq_true, Bool.true_eq_false, Bool.not_eq_eq_eq_not, beq_self_eq_true, beqFT, beqTF, decide_true, decide_false, not_false_eq_true, not_true_eq_false, ne_eq, true_and, and_true, false_and, and_false, and_self, if_true, if_false, ite_true, ite_false, Bool.and_true, Bool.and_false, Bool.true_and, Bool.false_and, Bool.or_true, Bool.true_or, Bool.or_false, Bool.false_or, or_true, true_or, or_false, false_or, or_self, AV.asInt, AV.asBool, AV.asSl, AV.asPtr, AV.asFn, AV.asStr, AV.asMap, AV.asIfc, AV.item, List.length_cons, List.length_nil, List.getElem?_cons_zero, List.getElem?_cons_succ, Nat.zero_add, r1]
theorem shlI1 {k : Nat} (hk : k ≤ 24) : shlI .i64 1 (k : Int) = ((2 ^ k : Nat) : Int) := by
  have : ∀ k : Fin 25, shlI .i64 1 ((k.val : Nat) : Int) = ((2 ^ k.val : Nat) : Int) := by decide +kernel
  exact this ⟨k, by omega⟩
theorem least14_run {σ : Store} {p : Ptr} {l : List Int} (t : Tab σ p l) {x y : Int} : ∃ i, Runs Try.prog 59 [.ptr p, .int .i64 x, .int .i64 y] σ (.int .i64 i) σ ∧ IsB l (max x 0) (min y l.length) i := by
  obtain ⟨n0, r0⟩ := tlen_run t
  obtain ⟨b, hl, hr, hs, rfl, R, T, S, G⟩ := t.ex
  have sm := t.small
  have mn := mn2_eq y l.length
  have mx := mx2_eq x 0
  obtain ⟨A, hA⟩ : ∃ A, A = max x 0 := ⟨_, rfl⟩
  obtain ⟨B, hB⟩ : ∃ B, B = min y l.length := ⟨_, rfl⟩
  rw [← hA] at mx
  rw [← hB] at mn
  rw [← hA, ← hB]
  have A0 : 0 ≤ A := by omega
  have B1 : B ≤ l.length := by omega
  by_cases c1 : B ≤ A
  · refine ⟨-1, Runs.intro (fn := Try.f59) (by kernel_rfl) (by kernel_rfl) ⟨n0, fun k hk => ?_⟩, IsB.none c1⟩
    have r0 := r0 k hk
    simp only at r0
    simp only [f59_eq]
    simp only [Option.bind_some, decide_eq_true_eq, decide_eq_false_iff_not, Bool.not_eq_true', Bool.not_true, Bool.not_false, Bool.false_eq_true, Bool.true_eq_false, Bool.not_eq_eq_eq_not, beq_self_eq_true, beqFT, beqTF, decide_true, decide_false, not_false_eq_true, not_true_eq_false, ne_eq, true_and, and_true, false_and, and_false, and_self, if_true, if_false, ite_true, ite_false, Bool.and_true, Bool.and_false, Bool.true_and, Bool.false_and, Bool.or_true, Bool.true_or, Bool.or_false, Bool.false_or, or_true, true_or, or_false, false_or, or_self, AV.asInt, AV.asBool, AV.asSl, AV.asPtr, AV.asFn, AV.asStr, AV.asMap, AV.asIfc, AV.item, List.length_cons, List.length_nil, List.getElem?_cons_zero, List.getElem?_cons_succ, Nat.zero_add, r0, mn, mx, c1]
  have A1 : A ≤ 4194304 := by omega
  have w1 : IntKind.wrap .i64 (IntKind.wrap .i64 (A + 32) - 1) = A + 31 := by rw [wrap64 (x := A + 32) (by omega) (by omega), wrap64 (by omega) (by omega)]; omega
  have w2 := tdiv32 (x := A + 31) (by omega) (by omega)
  have w3 := tdiv32 (x := B) (by omega) (by omega)
  obtain ⟨X, hX⟩ : ∃ X, X = (A + 31).toNat / 32 := ⟨_, rfl⟩
  obtain ⟨Y, hY⟩ : ∃ Y, Y = B.toNat / 32 := ⟨_, rfl⟩
  rw [← hX] at w2
  rw [← hY] at w3
  by_cases c2 : (Y : Int) ≤ (X : Int)
  · obtain ⟨i, ⟨n1, r1⟩, hi⟩ := scan_run R T sm (x := A) (y := B) A0 (by omega) B1
    refine ⟨i, Runs.intro (fn := Try.f59) (by kernel_rfl) (by kernel_rfl) ⟨n0 + n1, fun k hk => ?_⟩, hi⟩
    have r0 := r0 k (by omega)
    have r1 := r1 k (by omega)
    simp only at r0 r1
    simp only [f59_eq]
    simp only [Option.bind_some, decide_eq_true_eq, decide_eq_false_iff_not, Bool.not_eq_true', Bool.not_true, Bool.not_false, Bool.false_eq_true, Bool.true_eq_false, Bool.not_eq_eq_eq_not, beq_self_eq_true, beqFT, beqTF, decide_true, decide_false, not_false_eq_true, not_true_eq_false, ne_eq, true_and, and_true, false_and, and_false, and_self, if_true, if_false, ite_true, ite_false, Bool.and_true, Bool.and_false, Bool.true_and, Bool.false_and, Bool.or_true, Bool.true_or, Bool.or_false, Bool.false_or, or_true, true_or, or_false, false_or, or_self, AV.asInt, AV.asBool, AV.asSl, AV.asPtr, AV.asFn, AV.asStr, AV.asMap, AV.asIfc, AV.item, List.length_cons, List.length_nil, List.getElem?_cons_zero, List.getElem?_cons_succ, Nat.zero_add, r0, mn, mx, c1, w1, w2, w3, c2, r1]
  have w4 : IntKind.wrap .i64 ((X : Int) * 32) = ((32 * X : Nat) : Int) := by rw [wrap64 (by omega) (by omega)]; omega
  have w5 : IntKind.wrap .i64 ((Y : Int) * 32) = ((32 * Y : Nat) : Int) := by rw [wrap64 (by omega) (by omega)]; omega
  have w6 : IntKind.wrap .u64 (IntKind.wrap .i64 ((Y : Int) - X)) = ((Y - X : Nat) : Int) := by rw [wrap64 (by omega) (by omega), wrapu64 (by omega) (by omega)]; omega
  obtain ⟨i1, ⟨n1, r1⟩, h1⟩ := scan_run R T sm (x := A) (y := (32 * X : Nat)) A0 (by omega) (by omega)
  obtain ⟨cc, hc24, ⟨n2, r2⟩, hlen⟩ := len66_run σ (x := Y - X) (by omega)
  obtain ⟨K, hK⟩ : ∃ K, cc = K + 1 := by
    cases cc with
    | zero => have := hlen.1; simp at this; omega
    | succ K => exact ⟨K, rfl⟩
  subst hK
  have lo : 2 ^ K ≤ Y - X := by rcases hlen.2 with h | h; omega; simpa using h
  have hi2 : Y - X < 2 * 2 ^ K := by have := hlen.1; rw [Nat.pow_succ] at this; omega
  have w7 : IntKind.wrap .i64 (((K + 1 : Nat) : Int) - 1) = (K : Int) := by rw [wrap64 (by omega) (by omega)]; omega
  have nb : 2 ^ K ≤ nbl l.length := by unfold nbl; omega
  obtain ⟨hk, r, hk1, hk2, IR⟩ := G K nb
  have ir := IR.len
  have nbe : nbl l.length = (l.length + 31) / 32 := rfl
  have lk := hk2.ilen
  have e1 := row_sl R (o := 1) rfl
  have lsr := S.len
  simp only [List.length_map, Nat.mul_one] at lsr
  have kl : K < hs.length := (List.getElem?_eq_some_iff.1 hk1).1
  have k0 : (0 : Int) ≤ K ∧ (K : Int) < hr.len := by omega
  have rd1 := sls_rd S hk1
  have x0 : (0 : Int) ≤ X ∧ (X : Int) < hk.len := by omega
  have gx := hk2.rd (i := (X : Int)) (by omega) (by omega)
  have b1 := h1.le (by omega)
  have IB := IsB.mid (x := X) (y := Y) IR (by omega) (by omega) (by omega)
  have g1 := IR.get X (by omega)
  have g2 := IR.get (Y - 2 ^ K) (by omega)
  have v1 := g1.le (by omega)
  have v2 := g2.le (by omega)
  obtain ⟨n3, r3⟩ := better_run R T (x := i1) (y := rd r (X : Nat)) b1 v1
  have j1 : btr l i1 (rd r (X : Nat)) < l.length := (h1.join g1 A0 (by omega) (by omega) (by omega)).le (by omega)
  obtain ⟨n4, r4⟩ := better_run R T (x := btr l i1 (rd r (X : Nat))) (y := rd r ((Y - 2 ^ K : Nat) : Int)) j1 v2
  have J2 : IsB l A (32 * Y : Nat) (btr l (btr l i1 (rd r (X : Nat))) (rd r ((Y - 2 ^ K : Nat) : Int))) := by
    have h := h1.join g1 A0 (by omega) (by omega) (by omega)
    rw [show min (32 * (X + 2 ^ K)) l.length = 32 * (X + 2 ^ K) by omega] at h
    rw [show min (32 * (Y - 2 ^ K + 2 ^ K)) l.length = 32 * Y by omega] at g2
    exact h.join g2 A0 (by omega) (by omega) (by omega)
  have j2 := J2.le (by omega)
  obtain ⟨i3, ⟨n5, r5⟩, h3⟩ := scan_run R T sm (x := (32 * Y : Nat)) (y := B) (by omega) (by omega) B1
  have b3 := h3.le B1
  obtain ⟨n6, r6⟩ := better_run R T (x := btr l (btr l i1 (rd r (X : Nat))) (rd r ((Y - 2 ^ K : Nat) : Int))) (y := i3) j2 b3
  have J3 := J2.join h3 A0 (by omega) (by omega) (by omega)
  have pk : 2 ^ K ≤ 2 ^ 24 := Nat.pow_le_pow_right (by omega) (by omega)
  have w8 : IntKind.wrap .i64 ((Y : Int) - shlI .i64 1 (K : Int)) = ((Y - 2 ^ K : Nat) : Int) := by
    rw [shlI1 (by omega)]
    exact (fun (t : Nat) (ht : t ≤ Y) => by rw [wrap64 (by omega) (by omega)]; omega : ∀ t : Nat, t ≤ Y → IntKind.wrap .i64 ((Y : Int) - (t : Int)) = ((Y - t : Nat) : Int)) (2 ^ K) (by omega)
  have y0 : (0 : Int) ≤ ((Y - 2 ^ K : Nat) : Int) ∧ ((Y - 2 ^ K : Nat) : Int) < hk.len := by omega
  have gy := hk2.rd (i := ((Y - 2 ^ K : Nat) : Int)) (by omega) (by omega)
  refine ⟨_, Runs.intro (fn := Try.f59) (by kernel_rfl) (by kernel_rfl) ⟨n0 + n1 + n2 + n3 + n4 + n5 + n6, fun k hk' => ?_⟩, J3⟩
  have r0 := r0 k (by omega)
  have r1 := r1 k (by omega)
  have r2 := r2 k (by omega)
  have r3 := r3 k (by omega)
  have r4 := r4 k (by omega)
  have r5 := r5 k (by omega)
  have r6 := r6 k (by omega)
  simp only at r0 r1 r2 r3 r4 r5 r6
  have kk0 : (0 : Int) ≤ (K : Int) := by omega
  simp only [f59_eq]
  simp only [Option.bind_some, r0, AV.asInt, if_true, mn, mx, decide_eq_true_eq, if_neg c1, w1, w2, w3, if_neg c2, w4, r1, w6, r2, e1, w7, if_pos k0, rd1, if_pos x0, gx, r3, if_pos kk0, w8, if_pos y0, gy, r4, w5, r5, r6]
end Go.Ab


/- A table of least numbers is made. -/
namespace Go.Ab
open Go Go.Proofs Go.Ab.Wd Go.Ab.Bs Go.Ab.Sai
set_option linter.unusedVariables false
set_option linter.unusedSimpArgs false
theorem hrow {σ : Store} {n : Nat} {h : Hdl} {es : Nat} {l : List AV} (g : Grow σ n h es l) : ∀ b, h.row = some b → n ≤ b ∧ b < σ.objs.length := fun b e => by
  cases ha : h.a with
  | none => simp [Hdl.row, ha] at e
  | some bo => obtain ⟨c, o⟩ := bo; simp [Hdl.row, ha] at e; subst e; exact g.rowLt c o ha
theorem sl_keepX {σ σ' : Store} {h : Hdl} {es : Nat} {l : List AV} (s : σ.Sl h es l) (k : ∀ b, h.row = some b → σ'.objs[b]? = σ.objs[b]?) : σ'.Sl h es l := s.keep fun b o e => k b (by simp [Hdl.row, e])
theorem rd_snoc {q : List Int} {x : Int} {j : Nat} : rd (q ++ [x]) (j : Nat) = if j < q.length then rd q (j : Nat) else if j = q.length then x else 0 := by
  unfold rd
  simp only [Int.toNat_natCast, List.getD_eq_getElem?_getD]
  by_cases c : j < q.length
  · rw [if_pos c, List.getElem?_append_left c]
  · rw [if_neg c, List.getElem?_append_right (by omega)]
    by_cases d : j = q.length
    · rw [if_pos d, d]; simp
    · rw [if_neg d, List.getElem?_eq_none (by simp; omega)]; rfl
structure TabI (σ1 : Store) (b m : Nat) (h2 : Hdl) (l : List Int) (k : Nat) (row hr : Hdl) (r : List Int) (hs : List Hdl) (σ' : Store) : Prop where
  K : Kp b σ1 σ'
  R : σ'.Row b 2 [.slice h2, .slice hr]
  g : GrowI σ' m row r
  gr : Grow σ' m hr 1 (hs.map AV.slice)
  ap : ∀ x, row.row = some x → hr.row ≠ some x
  hk : hs.length = k
  ir : IsR l (2 ^ k) r
  ent : ∀ j, j < k → ∃ hj rj, hs[j]? = some hj ∧ σ'.Ints hj rj ∧ IsR l (2 ^ j) rj ∧ ∀ x, hj.row = some x → m ≤ x ∧ x < σ'.objs.length ∧ hr.row ≠ some x
theorem pow_of_len {l r : List Int} {k : Nat} (h : IsR l (2 ^ k) r) (h0 : 0 < r.length) (hn : l.length ≤ 4194304) : 2 ^ k ≤ 131072 ∧ r.length ≤ 131072 := by
  have := h.len
  unfold nbl at this
  have := Nat.two_pow_pos k
  omega
theorem tab_inner {σb : Store} {b : Nat} {h2 hr row : Hdl} {l r : List Int} {k : Nat} (R : σb.Row b 2 [.slice h2, .slice hr]) (T : σb.Ints h2 l) (G : σb.Ints row r) (ir : IsR l (2 ^ k) r) (h0 : 0 < r.length) (hn : l.length ≤ 4194304) (hp : σb.prot ≤ σb.objs.length) :
    ∃ next q σc, EvI (fun kk s => stepF Try.prog (gm Try.prog kk) drawn kk Try.f45 [1, 1, 1, 1, 1, 0, 1, 0, 0, 1, 0, 0, 1, 1, 0, 1, 0] [9, 8, 7, 5, 4] s)
      ([.int .i64 0, .slice Hdl.nil, .int .i64 (2 ^ k : Nat), .slice row, .ptr (some (b, 0))], σb) (AX.exit 4, [(8, .slice next), (7, .int .i64 (2 ^ k : Nat)), (4, .ptr (some (b, 0)))], σc) ∧
      Kp σb.objs.length σb σc ∧ GrowI σc σb.objs.length next q ∧ IsR l (2 ^ (k + 1)) q ∧ q.length < r.length := by
  obtain ⟨p1, p2⟩ := pow_of_len ir h0 hn
  obtain ⟨w, hw⟩ : ∃ w, w = 2 ^ k := ⟨_, rfl⟩
  have wpos : 0 < w := by rw [hw]; exact Nat.two_pow_pos k
  rw [← hw] at ir p1 ⊢
  have lr := G.ilen
  have irl := ir.len
  have nbe : nbl l.length = (l.length + 31) / 32 := rfl
  obtain ⟨r', e, next, q, σc, rfl, Kc, Gc, lq, gq⟩ := EvI.up (f := fun kk s => stepF Try.prog (gm Try.prog kk) drawn kk Try.f45 [1, 1, 1, 1, 1, 0, 1, 0, 0, 1, 0, 0, 1, 1, 0, 1, 0] [9, 8, 7, 5, 4] s) (r.length - w)
    (fun i st => ∃ next q σc, st = ([.int .i64 (i : Nat), .slice next, .int .i64 (w : Nat), .slice row, .ptr (some (b, 0))], σc) ∧ Kp σb.objs.length σb σc ∧ GrowI σc σb.objs.length next q ∧ q.length = i ∧ ∀ j : Nat, j < i → IsB l (32 * j : Nat) (min (32 * (j + 2 * w)) l.length : Nat) (rd q (j : Nat)))
    (fun r' => ∃ next q σc, r' = (AX.exit 4, [(8, .slice next), (7, .int .i64 (w : Nat)), (4, .ptr (some (b, 0)))], σc) ∧ Kp σb.objs.length σb σc ∧ GrowI σc σb.objs.length next q ∧ q.length = r.length - w ∧ ∀ j : Nat, j < r.length - w → IsB l (32 * j : Nat) (min (32 * (j + 2 * w)) l.length : Nat) (rd q (j : Nat)))
    (by
      rintro i st hi ⟨next, q, σc, rfl, Kc, Gc, lq, gq⟩
      have Rc := R.kp Kc R.lt
      have Tc : σc.Ints h2 l := Store.Sl.kp T Kc
      have Gr : σc.Ints row r := Store.Sl.kp G Kc
      have w1 : IntKind.wrap .i64 ((i : Int) + (w : Int)) = ((i + w : Nat) : Int) := by rw [wrap64 (by omega) (by omega)]; omega
      have w2 : IntKind.wrap .i64 ((i : Int) + 1) = ((i + 1 : Nat) : Int) := by rw [wrap64 (by omega) (by omega)]; omega
      have c1 : ((i + w : Nat) : Int) < row.len := by omega
      have c2 : (0 : Int) ≤ i ∧ (i : Int) < row.len := by omega
      have c3 : (0 : Int) ≤ ((i + w : Nat) : Int) ∧ ((i + w : Nat) : Int) < row.len := by omega
      have rx := Gr.rd (i := (i : Int)) (by omega) (by omega)
      have ry := Gr.rd (i := ((i + w : Nat) : Int)) (by omega) (by omega)
      have b1 := (ir.get i (by omega)).le (by omega)
      have b2 := (ir.get (i + w) (by omega)).le (by omega)
      obtain ⟨n1, r1⟩ := better_run Rc Tc b1 b2
      have hpc : σc.prot ≤ σb.objs.length := by rw [Kc.prot]; exact hp
      obtain ⟨h', σd, e2, k2, g2⟩ := Gc.app hpc Kc.len (btr l (rd r (i : Nat)) (rd r ((i + w : Nat) : Int))) (by omega)
      refine ⟨([.int .i64 (i + 1 : Nat), .slice h', .int .i64 (w : Nat), .slice row, .ptr (some (b, 0))], σd), ⟨n1, fun kk hk => ?_⟩, h', _, σd, rfl, Kc.trans k2, g2, by rw [List.length_append, lq]; rfl, fun j hj => ?_⟩
      · have r1 := r1 kk hk
        simp only at r1
        simp only [f45_L11111010010011010]
        simp only [decide_eq_true_eq, w1, if_pos c1, if_pos c2, if_pos c3, rx, ry, Option.bind_some, r1, AV.asInt, if_true, read1, e2, w2]
      · rw [rd_snoc, lq]
        by_cases d : j < i
        · rw [if_pos d]; exact gq j d
        · have : j = i := by omega
          subst this
          rw [if_neg d, if_pos rfl]
          exact ir.next wpos (by omega))
    (by
      rintro st ⟨next, q, σc, rfl, Kc, Gc, lq, gq⟩
      have w1 : IntKind.wrap .i64 (((r.length - w : Nat) : Int) + (w : Int)) = ((r.length - w + w : Nat) : Int) := by rw [wrap64 (by omega) (by omega)]; omega
      have c1 : ¬ ((r.length - w + w : Nat) : Int) < row.len := by omega
      refine ⟨_, Ev.of fun kk => ?_, next, q, σc, rfl, Kc, Gc, lq, gq⟩
      simp only [f45_L11111010010011010]
      simp only [decide_eq_true_eq, w1, if_neg c1])
    (s := ([.int .i64 0, .slice Hdl.nil, .int .i64 (w : Nat), .slice row, .ptr (some (b, 0))], σb)) ⟨Hdl.nil, [], σb, rfl, Kp.refl _ _, Grow.nil _ _ _, rfl, fun j hj => by omega⟩
  refine ⟨next, q, σc, e, Kc, Gc, ⟨?_, fun i hi => ?_⟩, by omega⟩
  · rw [Nat.pow_succ, ← hw]; omega
  · rw [Nat.pow_succ, ← hw, Nat.mul_comm w 2]; exact gq i (by omega)
theorem rmqNew_run {σ : Store} {h : Hdl} {l : List Int} (hT : σ.Ints h l) (hp : σ.prot ≤ σ.objs.length) (hn : l.length ≤ 4194304) :
    ∃ p σ', Runs Try.prog 45 [.slice h] σ (.tuple [.ptr p, .int .i64 0]) σ' ∧ Kp σ.objs.length σ σ' ∧ (∀ σ'' : Store, (∀ x, σ.objs.length ≤ x → x < σ'.objs.length → σ''.objs[x]? = σ'.objs[x]?) → Tab σ'' p l) := by
  have ll := hT.ilen
  obtain ⟨h2, σ1, ⟨n1, r1⟩, K1, G1⟩ := cloneI_run hT hp (by omega)
  obtain ⟨b, hb⟩ : ∃ b, b = σ1.objs.length := ⟨_, rfl⟩
  obtain ⟨σ2, h2_⟩ : ∃ s, s = σ1.push [.slice h2, .slice Hdl.nil] 2 := ⟨_, rfl⟩
  have K2 : Kp b σ1 σ2 := by rw [h2_, hb]; exact Kp.push _ _ (Nat.le_refl _)
  have R2 : σ2.Row b 2 [.slice h2, .slice Hdl.nil] := by rw [h2_, hb]; exact Store.Row.new
  have T2 : σ2.Ints h2 l := Store.Sl.kp G1.ints (hb ▸ K2)
  have m2 : σ2.objs.length = b + 1 := by rw [h2_, hb]; simp
  have bn : σ.objs.length ≤ b := by rw [hb]; exact K1.len
  have pr2 : σ2.prot ≤ σ.objs.length := by rw [K2.prot, K1.prot]; exact hp
  have nbe : nbl l.length = (l.length + 31) / 32 := rfl
  -- the first row
  obtain ⟨r', e1, row, r, σ3, rfl, K3, G3, lr, gr⟩ := EvI.up (f := fun kk s => stepF Try.prog (gm Try.prog kk) drawn kk Try.f45 [1, 1, 1, 1, 0, 1, 0] [6, 5, 4, 0] s) (nbl l.length)
    (fun t st => ∃ row r σ', st = ([.int .i64 (32 * t : Nat), .slice row, .ptr (some (b, 0)), .slice h], σ') ∧ Kp σ2.objs.length σ2 σ' ∧ GrowI σ' σ2.objs.length row r ∧ r.length = t ∧ ∀ j : Nat, j < t → IsB l (32 * j : Nat) (min (32 * (j + 1)) l.length : Nat) (rd r (j : Nat)))
    (fun r' => ∃ row r σ', r' = (AX.exit 0, [(5, .slice row), (4, .ptr (some (b, 0)))], σ') ∧ Kp σ2.objs.length σ2 σ' ∧ GrowI σ' σ2.objs.length row r ∧ r.length = nbl l.length ∧ ∀ j : Nat, j < nbl l.length → IsB l (32 * j : Nat) (min (32 * (j + 1)) l.length : Nat) (rd r (j : Nat)))
    (by
      rintro t st ht ⟨row, r, σ', rfl, K, G, lr, gr⟩
      have Rc := R2.kp K R2.lt
      have Tc : σ'.Ints h2 l := Store.Sl.kp T2 K
      have c1 : ((32 * t : Nat) : Int) < h.len := by omega
      have w1 : IntKind.wrap .i64 (((32 * t : Nat) : Int) + 32) = ((32 * (t + 1) : Nat) : Int) := by rw [wrap64 (by omega) (by omega)]; omega
      have w2 : mn2 ((32 * (t + 1) : Nat) : Int) h.len = ((min (32 * (t + 1)) l.length : Nat) : Int) := by rw [mn2_eq]; omega
      obtain ⟨i, ⟨n1, r1⟩, hi⟩ := scan_run Rc Tc hn (x := (32 * t : Nat)) (y := (min (32 * (t + 1)) l.length : Nat)) (by omega) (by omega) (by omega)
      obtain ⟨h', σd, e2, k2, g2⟩ := G.app (by rw [K.prot]; omega) K.len i (by omega)
      refine ⟨([.int .i64 (32 * (t + 1) : Nat), .slice h', .ptr (some (b, 0)), .slice h], σd), ⟨n1, fun kk hk => ?_⟩, h', _, σd, rfl, K.trans k2, g2, by rw [List.length_append, lr]; rfl, fun j hj => ?_⟩
      · have r1 := r1 kk hk
        simp only at r1
        simp only [f45_L1111010]
        simp only [decide_eq_true_eq, if_pos c1, w1, w2, r1, Option.bind_some, AV.asInt, if_true, read1, e2]
      · rw [rd_snoc, lr]
        by_cases d : j < t
        · rw [if_pos d]; exact gr j d
        · have : j = t := by omega
          subst this
          rw [if_neg d, if_pos rfl]; exact hi)
    (by
      rintro st ⟨row, r, σ', rfl, K, G, lr, gr⟩
      have c1 : ¬ ((32 * nbl l.length : Nat) : Int) < h.len := by omega
      refine ⟨_, Ev.of fun kk => ?_, row, r, σ', rfl, K, G, lr, gr⟩
      simp only [f45_L1111010]
      simp only [decide_eq_true_eq, if_neg c1])
    (s := ([.int .i64 0, .slice Hdl.nil, .ptr (some (b, 0)), .slice h], σ2)) ⟨Hdl.nil, [], σ2, rfl, Kp.refl _ _, Grow.nil _ _ _, rfl, fun j hj => by omega⟩
  rw [m2] at K3 G3
  have K13 : Kp b σ1 σ3 := K2.trans (K3.mono (by omega))
  have ir0 : IsR l (2 ^ 0) r := ⟨by rw [lr]; simp, fun i hi => gr i (by omega)⟩
  have I0 : TabI σ1 b (b + 1) h2 l 0 row Hdl.nil r [] σ3 := ⟨K13, R2.kp (m2 ▸ K3) R2.lt, G3, Grow.nil _ _ _, fun x _ => by simp [Hdl.row, Hdl.nil], rfl, ir0, fun j hj => by omega⟩
  -- the other rows
  obtain ⟨r', e2, k, row', r2, hr, hs, σ4, rfl, I, rz⟩ := EvI.while (f := fun kk s => stepF Try.prog (gm Try.prog kk) drawn kk Try.f45 [1, 1, 1, 1, 1, 0, 1, 0] [7, 5, 4] s)
    (fun μ st => ∃ k row r hr hs σ', μ = r.length ∧ st = ([.int .i64 (2 ^ k : Nat), .slice row, .ptr (some (b, 0))], σ') ∧ TabI σ1 b (b + 1) h2 l k row hr r hs σ')
    (fun r' => ∃ k row r hr hs σ', r' = (AX.exit 2, [(4, .ptr (some (b, 0)))], σ') ∧ TabI σ1 b (b + 1) h2 l k row hr r hs σ' ∧ r.length = 0)
    (by
      rintro μ st ⟨k, row, r, hr, hs, σ', rfl, rfl, I⟩
      have lr := I.g.ints.ilen
      rcases Nat.eq_zero_or_pos r.length with h0 | h0
      · refine .inr ⟨_, Ev.of fun kk => ?_, k, row, r, hr, hs, σ', rfl, I, h0⟩
        have c : ¬ (0 : Int) < row.len := by omega
        simp only [f45_L11111010]
        simp only [decide_eq_true_eq, if_neg c]
      · obtain ⟨p1, p2⟩ := pow_of_len I.ir h0 hn
        have kb : k ≤ 17 := Nat.le_of_not_lt fun c => by
          have : 2 ^ 18 ≤ 2 ^ k := Nat.pow_le_pow_right (by omega) c
          omega
        have pr : σ'.prot ≤ σ.objs.length := by rw [I.K.prot, K1.prot]; exact hp
        have lb : b + 1 ≤ σ'.objs.length := I.R.lt
        have e0 := row_sl I.R (o := 1) rfl
        obtain ⟨hr', σa, ea, ka, ga, fa, hra⟩ := I.gr.app1X (by omega) lb (v := .slice row) rfl (bs := 24) (by omega) (by rw [List.length_map, I.hk]; omega)
        have Ra : σa.Row b 2 [.slice h2, .slice hr] := (ka.keep b (by omega)).trans I.R
        have eb := st_fld Ra (by rw [ka.prot]; omega) (o := 1) (by simp) (v := .slice hr') rfl
        obtain ⟨σb, hb_⟩ : ∃ s, s = σa.setO b (.cells ([.slice h2, .slice hr].set 1 (.slice hr')) true 2) := ⟨_, rfl⟩
        rw [← hb_] at eb
        have Rb : σb.Row b 2 [.slice h2, .slice hr'] := by rw [hb_]; exact Store.Row.setO_eq Ra.lt
        have lab : σb.objs.length = σa.objs.length := by rw [hb_]; simp
        have lka := ka.len
        have fb : ∀ x, x ≠ b → σb.objs[x]? = σa.objs[x]? := fun x hx => by
          rw [hb_]; show (σa.objs.set b _)[x]? = _
          rw [List.getElem?_set, if_neg (Ne.symm hx)]
        have Kb : Kp b σ1 σb := by rw [hb_]; exact (I.K.trans (ka.mono (by omega))).setO (Nat.le_refl _)
        have Tb : σb.Ints h2 l := Store.Sl.kp G1.ints (hb ▸ Kb)
        have rowlt : ∀ x, row.row = some x → b + 1 ≤ x ∧ x < σ'.objs.length := hrow I.g
        have Gb : Grow σb (b + 1) row 1 (intsL r) := I.g.keepX fun x hx => (fb x (by have := rowlt x hx; omega)).trans (fa x (rowlt x hx).2 (I.ap x hx))
        have gb : Grow σb (b + 1) hr' 1 ((hs ++ [row]).map AV.slice) := by
          rw [List.map_append]
          exact ga.keepX fun x hx => fb x (by have := (hrow ga x hx).1; omega)
        have hrlt := hrow gb
        obtain ⟨next, q, σc, e3, kc, gc, irq, lq⟩ := tab_inner Rb Tb (show σb.Ints row r from Gb.sl) I.ir h0 hn (by rw [Kb.prot, K1.prot]; omega)
        obtain ⟨n3, e3⟩ := loopF_ev e3
        have apx : ∀ x, x < σ'.objs.length → hr.row ≠ some x → hr'.row ≠ some x := fun x hx hne e => by
          rcases hra with r | r
          · exact hne (r ▸ e)
          · have := r x e; omega
        refine .inl ⟨q.length, _, lq, ⟨n3, fun kk hk => ?_⟩, k + 1, next, q, hr', hs ++ [row], σc, rfl, rfl, ⟨Kb.trans (kc.mono (by omega)), Rb.kp kc Rb.lt, Grow.mono gc (by omega), gb.kp kc, fun x hx e => ?_, by rw [List.length_append, I.hk]; rfl, irq, fun j hj => ?_⟩⟩
        · have e3 := e3 kk hk
          simp only at e3
          have c : (0 : Int) < row.len := by omega
          have w2 : IntKind.wrap .i64 (((2 ^ k : Nat) : Int) * 2) = ((2 ^ (k + 1) : Nat) : Int) := by
            rw [Nat.pow_succ]
            exact (fun (t : Nat) (ht : t ≤ 131072) => by rw [wrap64 (by omega) (by omega)]; omega : ∀ t : Nat, t ≤ 131072 → IntKind.wrap .i64 ((t : Int) * 2) = ((t * 2 : Nat) : Int)) (2 ^ k) p1
          have fin : contFL Try.prog (gm Try.prog kk) drawn kk Try.f45 [1, 1, 1, 1, 1, 0, 1, 0] [7, 5, 4] [1, 0, 0, 1, 1, 0, 1, 0] (AX.exit 4, [(8, .slice next), (7, .int .i64 (2 ^ k : Nat)), (4, .ptr (some (b, 0)))], σc) = some (.inl ([.int .i64 (2 ^ (k + 1) : Nat), .slice next, .ptr (some (b, 0))], σc)) := by
            rw [f45_X11111010010011010_1, w2]
          simp only [f45_L11111010]
          simp only [decide_eq_true_eq, if_pos c, Option.bind_some, e0, read1, ea, eb, e3, fin]
        · have := (hrow gc x hx).1
          have := (hrlt x e).2
          omega
        · have lc := kc.len
          by_cases d : j < k
          · obtain ⟨hj', rj, h1, h3, h4, h5⟩ := I.ent j d
            refine ⟨hj', rj, by rw [List.getElem?_append_left (by rw [I.hk]; exact d)]; exact h1, Store.Sl.kp (sl_keepX h3 fun x hx => ?_) kc, h4, fun x hx => ?_⟩
            · obtain ⟨q1, q2, q3⟩ := h5 x hx
              exact (fb x (by omega)).trans (fa x q2 q3)
            · obtain ⟨q1, q2, q3⟩ := h5 x hx
              exact ⟨q1, by omega, apx x q2 q3⟩
          · have : j = k := by omega
            subst this
            refine ⟨row, r, by rw [List.getElem?_append_right (by rw [I.hk]; exact Nat.le_refl _), I.hk]; simp, Store.Sl.kp Gb.sl kc, I.ir, fun x hx => ?_⟩
            have := rowlt x hx
            exact ⟨this.1, by omega, apx x this.2 (I.ap x hx)⟩)
    r.length ([.int .i64 1, .slice row, .ptr (some (b, 0))], σ3) ⟨0, row, r, Hdl.nil, [], σ3, rfl, rfl, I0⟩
  obtain ⟨n2, e1⟩ := loopF_ev e1
  obtain ⟨n3, e2⟩ := loopF_ev e2
  refine ⟨some (b, 0), σ4, Runs.intro (fn := Try.f45) (by kernel_rfl) (by kernel_rfl) ⟨n1 + n2 + n3, fun kk hk => ?_⟩, K1.trans (I.K.mono bn), fun σ'' kq => ⟨⟨b, h2, hr, hs, rfl, (kq b bn I.R.lt).trans I.R, sl_keepX (show σ4.Ints h2 l from Store.Sl.kp G1.ints (hb ▸ I.K)) fun x hx => kq x (hrow G1 x hx).1 (by have := (hrow G1 x hx).2; have := I.K.len; omega), sl_keepX I.gr.sl fun x hx => kq x (by have := (hrow I.gr x hx).1; omega) (hrow I.gr x hx).2, fun j hj => ?_⟩, hn⟩⟩
  · have r1 := r1 kk (by omega)
    have e1 := e1 kk (by omega)
    have e2 := e2 kk (by omega)
    simp only at r1 e1 e2
    have c : ¬ (4194304 : Int) < h.len := by omega
    simp only [f45_eq]
    simp only [decide_eq_true_eq, if_neg c, r1, Option.bind_some, AV.asSl, ← hb, ← h2_, e1]
    rw [f45_X1111010_1, e2, Option.bind_some, f45_X11111010_1]
  · have jk : j < k := Nat.lt_of_not_le fun c => by
      have : 2 ^ k ≤ 2 ^ j := Nat.pow_le_pow_right (by omega) c
      have := I.ir.len
      omega
    obtain ⟨hj', rj, h1, h3, h4, h5⟩ := I.ent j jk
    exact ⟨hj', rj, h1, sl_keepX h3 fun x hx => kq x (by have := (h5 x hx).1; omega) (h5 x hx).2.1, h4⟩
end Go.Ab


/- The unlike numbers of a range: plain. -/
namespace Go.Ab
open Go Go.Proofs Go.Ab.Wd Go.Ab.Bs Go.Ab.Sai
set_option linter.unusedVariables false
set_option linter.unusedSimpArgs false
/-! ### places of a span -/
def rngN (u : Int) : Nat → List Int
  | 0 => []
  | n + 1 => u :: rngN (u + 1) n
theorem rngN_add : ∀ (p : Nat) (u : Int) (q : Nat), rngN u (p + q) = rngN u p ++ rngN (u + p) q
  | 0, u, q => by simp [rngN]
  | p + 1, u, q => by
    rw [show p + 1 + q = (p + q) + 1 by omega, rngN, rngN, rngN_add p (u + 1) q, show u + 1 + (p : Int) = u + ((p + 1 : Nat) : Int) by omega]; rfl
theorem mem_rngN : ∀ (n : Nat) (u x : Int), x ∈ rngN u n ↔ u ≤ x ∧ x < u + n
  | 0, u, x => by simp [rngN]
  | n + 1, u, x => by rw [rngN, List.mem_cons, mem_rngN n (u + 1) x]; omega
theorem nodup_rngN : ∀ (n : Nat) (u : Int), (rngN u n).Nodup
  | 0, u => by simp [rngN]
  | n + 1, u => by rw [rngN, List.nodup_cons, mem_rngN]; exact ⟨by omega, nodup_rngN n _⟩
def rng (s : Int × Int) : List Int := rngN s.1 (s.2 - s.1).toNat
theorem mem_rng {s : Int × Int} {x : Int} : x ∈ rng s ↔ s.1 ≤ x ∧ x < s.2 := by unfold rng; rw [mem_rngN]; omega
theorem rng_split {u v i : Int} (h1 : u ≤ i) (h2 : i < v) : rng (u, v) = rng (u, i) ++ i :: rng (i + 1, v) := by
  unfold rng
  simp only
  obtain ⟨p, hp⟩ : ∃ p : Nat, i = u + p := ⟨(i - u).toNat, by omega⟩
  obtain ⟨q, hq⟩ : ∃ q : Nat, v = i + 1 + q := ⟨(v - (i + 1)).toNat, by omega⟩
  have e1 : (v - u).toNat = p + (q + 1) := by omega
  have e2 : (i - u).toNat = p := by omega
  have e3 : (v - (i + 1)).toNat = q := by omega
  rw [e1, e2, e3, rngN_add, ← hp]; rfl
/-! ### first places -/
def fo (l : List Int) (A B i : Int) : Prop := A ≤ i ∧ i < B ∧ bkI l i.toNat < A
structure SomeI (l : List Int) (A B : Int) (I : List Int) (S : List (Int × Int)) : Prop where
  nd : (I ++ S.flatMap rng).Nodup
  mem : ∀ i ∈ I, fo l A B i
  cov : ∀ i, fo l A B i → i ∈ I ∨ i ∈ S.flatMap rng
  sp : ∀ s ∈ S, A ≤ s.1 ∧ s.2 ≤ B
theorem SomeI.start (l : List Int) (A B : Int) : SomeI l A B [] [(A, B)] :=
  ⟨by simp only [List.flatMap_cons, List.flatMap_nil, List.append_nil, List.nil_append]; exact nodup_rngN _ _, by simp, fun i h => .inr (by simp only [List.flatMap_cons, List.flatMap_nil, List.append_nil]; exact mem_rng.2 ⟨h.1, h.2.1⟩), fun s hs => by rw [List.mem_singleton] at hs; subst hs; exact ⟨Int.le_refl _, Int.le_refl _⟩⟩
theorem SomeI.drop {l : List Int} {A B : Int} {I : List Int} {S : List (Int × Int)} {u v : Int} (h : SomeI l A B I (S ++ [(u, v)])) (hn : ∀ i, u ≤ i → i < v → ¬ fo l A B i) : SomeI l A B I S := by
  have e : (S ++ [(u, v)]).flatMap rng = S.flatMap rng ++ rng (u, v) := by simp
  have nd := h.nd
  rw [e, ← List.append_assoc] at nd
  refine ⟨(List.nodup_append.1 nd).1, h.mem, fun i hi => ?_, fun s hs => h.sp s (by simp [hs])⟩
  rcases h.cov i hi with h1 | h1
  · exact .inl h1
  · rw [e] at h1
    rcases List.mem_append.1 h1 with h1 | h1
    · exact .inr h1
    · obtain ⟨q1, q2⟩ := mem_rng.1 h1; exact absurd hi (hn i q1 q2)
theorem SomeI.take {l : List Int} {A B : Int} {I : List Int} {S : List (Int × Int)} {u v i : Int} (h : SomeI l A B I (S ++ [(u, v)])) (h1 : u ≤ i) (h2 : i < v) (hf : fo l A B i) : SomeI l A B (I ++ [i]) (S ++ [(u, i), (i + 1, v)]) := by
  have e : (S ++ [(u, v)]).flatMap rng = S.flatMap rng ++ (rng (u, i) ++ i :: rng (i + 1, v)) := by rw [← rng_split h1 h2]; simp
  have e2 : (S ++ [(u, i), (i + 1, v)]).flatMap rng = S.flatMap rng ++ (rng (u, i) ++ rng (i + 1, v)) := by simp
  have p : (I ++ [i] ++ (S ++ [(u, i), (i + 1, v)]).flatMap rng).Perm (I ++ (S ++ [(u, v)]).flatMap rng) := by
    rw [e, e2, List.append_assoc]
    refine List.Perm.append_left I ?_
    rw [← List.append_assoc (S.flatMap rng), ← List.append_assoc (S.flatMap rng)]
    rw [List.singleton_append]
    exact List.perm_middle.symm
  refine ⟨p.nodup_iff.2 h.nd, fun j hj => ?_, fun j hj => ?_, fun s hs => ?_⟩
  · rcases List.mem_append.1 hj with hj | hj
    · exact h.mem j hj
    · rw [List.mem_singleton] at hj; subst hj; exact hf
  · have : j ∈ I ++ (S ++ [(u, v)]).flatMap rng := by
      rcases h.cov j hj with h | h
      · exact List.mem_append_left _ h
      · exact List.mem_append_right _ h
    exact List.mem_append.1 (p.mem_iff.2 this)
  · have := h.sp (u, v) (by simp)
    simp only at this
    simp only [List.mem_append, List.mem_cons, List.not_mem_nil, or_false] at hs
    rcases hs with hs | rfl | rfl
    · exact h.sp s (by simp [hs])
    · simp only; omega
    · simp only; omega
theorem SomeI.len {l : List Int} {A B : Int} {I : List Int} {S : List (Int × Int)} (h : SomeI l A B I S) (A0 : 0 ≤ A) (Bn : B ≤ l.length) : (I ++ S.flatMap rng).length ≤ l.length := by
  have := nodup_sub_len (m := rngN 0 l.length) h.nd fun x hx => by
    rw [mem_rngN]
    rcases List.mem_append.1 hx with hx | hx
    · have := h.mem x hx; unfold fo at this; omega
    · obtain ⟨s, hs, hx⟩ := List.mem_flatMap.1 hx
      have := h.sp s hs
      have := mem_rng.1 hx
      omega
  have len : ∀ (n : Nat) (u : Int), (rngN u n).length = n := fun n => by
    induction n with
    | zero => intro u; rfl
    | succ n ih => intro u; rw [rngN, List.length_cons, ih]
  rw [len] at this; exact this
theorem SomeI.done {l : List Int} {A B : Int} {I : List Int} {S : List (Int × Int)} (h : SomeI l A B I S) (A0 : 0 ≤ A) (Bn : B ≤ l.length) (hd : S = [] ∨ l.length ≤ I.length) : I.Nodup ∧ ∀ i, fo l A B i ↔ i ∈ I := by
  refine ⟨(List.nodup_append.1 h.nd).1, fun i => ⟨fun hi => ?_, h.mem i⟩⟩
  rcases h.cov i hi with h1 | h1
  · exact h1
  · rcases hd with rfl | hd
    · simp at h1
    · have := h.len A0 Bn
      rw [List.length_append] at this
      rw [List.eq_nil_of_length_eq_zero (l := S.flatMap rng) (by omega)] at h1
      cases h1
/-! ### rising lists -/
abbrev Inc (L : List Int) : Prop := L.Pairwise (· < ·)
theorem inc_uniq : ∀ {a b : List Int}, Inc a → Inc b → (∀ x, x ∈ a ↔ x ∈ b) → a = b
  | [], b, _, _, h => by
    cases b with
    | nil => rfl
    | cons y b => have := (h y).2 (by simp); cases this
  | x :: a, [], _, _, h => by have := (h x).1 (by simp); cases this
  | x :: a, y :: b, ha, hb, h => by
    rw [Inc, List.pairwise_cons] at ha hb
    have h1 : x ∈ y :: b := (h x).1 (by simp)
    have h2 : y ∈ x :: a := (h y).2 (by simp)
    have e : x = y := by
      rcases List.mem_cons.1 h1 with h1 | h1
      · exact h1
      · rcases List.mem_cons.1 h2 with h2 | h2
        · exact h2.symm
        · have := ha.1 y h2; have := hb.1 x h1; omega
    subst e
    rw [inc_uniq ha.2 hb.2 fun z => ⟨fun hz => ?_, fun hz => ?_⟩]
    · rcases List.mem_cons.1 ((h z).1 (by simp [hz])) with e | e
      · subst e; have := ha.1 z hz; omega
      · exact e
    · rcases List.mem_cons.1 ((h z).2 (by simp [hz])) with e | e
      · subst e; have := hb.1 z hz; omega
      · exact e
def ltN (x : Int) : List Int → Nat
  | [] => 0
  | y :: o => if y < x then ltN x o + 1 else 0
def insD (x : Int) : List Int → List Int
  | [] => [x]
  | y :: o => if y < x then y :: insD x o else if y = x then y :: o else x :: y :: o
theorem insD_eq (x : Int) : ∀ o, ltN x o ≤ o.length ∧ ((∃ h : ltN x o < o.length, o[ltN x o] = x) → insD x o = o) ∧ ((¬ ∃ h : ltN x o < o.length, o[ltN x o] = x) → o.take (ltN x o) ++ x :: o.drop (ltN x o) = insD x o)
  | [] => by simp [ltN, insD]
  | y :: o => by
    obtain ⟨h1, h2, h3⟩ := insD_eq x o
    unfold ltN insD
    by_cases c : y < x
    · simp only [if_pos c]
      refine ⟨by simp; exact h1, fun ⟨q, e⟩ => ?_, fun hn => ?_⟩
      · rw [h2 ⟨by simpa using q, by simpa using e⟩]
      · rw [List.take_succ_cons, List.drop_succ_cons, List.cons_append, h3 fun ⟨q, e⟩ => hn ⟨by simpa using q, by simpa using e⟩]
    · simp only [if_neg c]
      refine ⟨by simp, fun ⟨q, e⟩ => ?_, fun hn => ?_⟩
      · have e' : y = x := by simpa using e
        rw [if_pos e']
      · have : ¬ y = x := fun e => hn ⟨by simp, by simpa using e⟩
        rw [if_neg this]; rfl
theorem mem_insD {x z : Int} : ∀ {o : List Int}, z ∈ insD x o ↔ z = x ∨ z ∈ o
  | [] => by simp [insD]
  | y :: o => by
    unfold insD
    split
    · rw [List.mem_cons, mem_insD, List.mem_cons]; constructor <;> rintro (h | h | h) <;> simp [h]
    · split
      · rename_i e; subst e; simp
      · simp
theorem insD_inc {x : Int} : ∀ {o : List Int}, Inc o → Inc (insD x o)
  | [], _ => by simp [insD]
  | y :: o, h => by
    have h' := h
    rw [Inc, List.pairwise_cons] at h
    unfold insD
    split
    · rw [Inc, List.pairwise_cons]
      refine ⟨fun z hz => ?_, insD_inc h.2⟩
      rcases mem_insD.1 hz with rfl | hz
      · assumption
      · exact h.1 z hz
    · split
      · exact h'
      · rw [Inc, List.pairwise_cons]
        refine ⟨fun z hz => ?_, h'⟩
        rcases List.mem_cons.1 hz with rfl | hz
        · omega
        · have := h.1 z hz; omega
def dOf (acc : List Int) : List Int → List Int
  | [] => acc
  | x :: l => dOf (insD x acc) l
theorem dOf_inc : ∀ (l acc : List Int), Inc acc → Inc (dOf acc l)
  | [], acc, h => h
  | x :: l, acc, h => dOf_inc l _ (insD_inc h)
theorem mem_dOf {z : Int} : ∀ (l acc : List Int), z ∈ dOf acc l ↔ z ∈ acc ∨ z ∈ l
  | [], acc => by simp [dOf]
  | x :: l, acc => by
    rw [dOf, mem_dOf l, mem_insD, List.mem_cons]
    constructor
    · rintro ((h | h) | h) <;> simp [h]
    · rintro (h | h | h) <;> simp [h]
theorem dOf_app (x : Int) : ∀ (l acc : List Int), dOf acc (l ++ [x]) = insD x (dOf acc l)
  | [], acc => rfl
  | y :: l, acc => by rw [List.cons_append, dOf, dOf, dOf_app x l]
theorem dOf_len : ∀ (l acc : List Int), (dOf acc l).length ≤ acc.length + l.length
  | [], acc => by simp [dOf]
  | x :: l, acc => by
    rw [dOf]
    have h := dOf_len l (insD x acc)
    have e : ∀ o : List Int, (insD x o).length ≤ o.length + 1 := fun o => by
      induction o with
      | nil => simp [insD]
      | cons y o ih => unfold insD; split; simp; exact ih; split <;> simp
    have := e acc
    simp only [List.length_cons]; omega
/-! ### what is listed -/
theorem fo_val {l : List Int} {A B x : Int} (A0 : 0 ≤ A) (Bn : B ≤ l.length) : (∃ i, fo l A B i ∧ rd l i = x) ↔ x ∈ seg l A B := by
  constructor
  · rintro ⟨i, ⟨h1, h2, h3⟩, rfl⟩
    have hi : i.toNat < l.length := by omega
    unfold seg segLo segHi
    rw [List.mem_iff_getElem?]
    refine ⟨i.toNat - (max A 0).toNat, ?_⟩
    rw [List.getElem?_drop, List.getElem?_take, if_pos (by omega), show (max A 0).toNat + (i.toNat - (max A 0).toNat) = i.toNat by omega]
    unfold rd
    rw [List.getElem?_eq_getElem hi]; simp [hi]
  · intro hx
    unfold seg segLo segHi at hx
    rw [List.mem_iff_getElem?] at hx
    obtain ⟨m, hm⟩ := hx
    rw [List.getElem?_drop, List.getElem?_take] at hm
    split at hm
    · rename_i hlt
      obtain ⟨j, hj⟩ : ∃ j, j = (max A 0).toNat + m := ⟨_, rfl⟩
      rw [← hj] at hm hlt
      have jl : j < l.length := (List.getElem?_eq_some_iff.1 hm).1
      have jr : rd l (j : Nat) = x := by unfold rd; simp [hm]
      have jA : A ≤ j := by omega
      have jB : (j : Int) < B := by omega
      have : ∀ (n j : Nat), j ≤ n → A ≤ j → (j : Int) < B → rd l (j : Nat) = x → ∃ i, fo l A B i ∧ rd l i = x := fun n => by
        induction n with
        | zero =>
          intro j hj h1 h2 h3
          refine ⟨j, ⟨h1, h2, ?_⟩, h3⟩
          have := bk_lt l j
          rw [Int.toNat_natCast]; omega
        | succ n ih =>
          intro j hj h1 h2 h3
          by_cases c : bkI l j < A
          · exact ⟨j, ⟨h1, h2, by rw [Int.toNat_natCast]; exact c⟩, h3⟩
          · obtain ⟨i, i1, i2, i3⟩ := (bk_ge (l := l) (i := j) (a := A.toNat)).1 (by omega)
            exact ih i (by omega) (by omega) (by omega) (i3.trans h3)
      exact this j j (Nat.le_refl _) jA jB jr
    · cases hm
theorem fo_inj {l : List Int} {A B i j : Int} (A0 : 0 ≤ A) (hi : fo l A B i) (hj : fo l A B j) (e : rd l i = rd l j) : i = j := by
  have key : ∀ i j : Int, fo l A B i → fo l A B j → rd l i = rd l j → i < j → False := fun i j hi hj e c => by
    have := (bk_ge (l := l) (i := j.toNat) (a := A.toNat)).2 ⟨i.toNat, by have := hi.1; omega, by have := hi.1; omega, by
      have h1 := hi.1
      have h2 := hj.1
      rw [show ((i.toNat : Nat) : Int) = i by omega, show ((j.toNat : Nat) : Int) = j by omega]; exact e⟩
    have := hj.2.2
    omega
  rcases Int.lt_trichotomy i j with h | h | h
  · exact (key i j hi hj e h).elim
  · exact h
  · exact (key j i hj hi e.symm h).elim
theorem nodup_map_on {α β : Type} {f : α → β} : ∀ {l : List α}, l.Nodup → (∀ a ∈ l, ∀ b ∈ l, f a = f b → a = b) → (l.map f).Nodup
  | [], _, _ => by simp
  | x :: l, h, hf => by
    rw [List.nodup_cons] at h
    rw [List.map_cons, List.nodup_cons]
    refine ⟨fun hx => ?_, nodup_map_on h.2 fun a ha b hb => hf a (by simp [ha]) b (by simp [hb])⟩
    obtain ⟨y, hy, e⟩ := List.mem_map.1 hx
    have := hf y (by simp [hy]) x (by simp) e
    subst this; exact h.1 hy
theorem some_docs {l I : List Int} {A B : Int} (A0 : 0 ≤ A) (Bn : B ≤ l.length) (nd : I.Nodup) (hI : ∀ i, fo l A B i ↔ i ∈ I) : sortL (I.map (rd l)) = dOf [] (seg l A B) := by
  have vn : (I.map (rd l)).Nodup := nodup_map_on nd fun a ha b hb e => fo_inj A0 ((hI a).2 ha) ((hI b).2 hb) e
  have sn : (sortL (I.map (rd l))).Nodup := (sortL_perm _).nodup_iff.2 vn
  refine inc_uniq ?_ (dOf_inc _ _ (by simp)) fun x => ?_
  · have h := (sortL_sorted (I.map (rd l))).and (List.nodup_iff_pairwise_ne.1 sn)
    exact h.imp fun ⟨a, b⟩ => by omega
  · rw [(sortL_perm _).mem_iff, mem_dOf, ← fo_val A0 Bn, List.mem_map]
    constructor
    · rintro ⟨i, hi, e⟩; exact .inr ⟨i, (hI i).2 hi, e⟩
    · rintro (h | ⟨i, hi, e⟩)
      · cases h
      · exact ⟨i, (hI i).1 hi, e⟩
end Go.Ab


/- Heaps on lists: what goes up, what goes down, the first is the best. Plain Lean, no program. -/
namespace Go.Ab.Hp
set_option linter.unusedVariables false
set_option linter.unusedSimpArgs false
section
variable {α : Type} [Inhabited α]
def at_ (l : List α) (i : Nat) : α := l.getD i default
theorem at_get {l : List α} {i : Nat} (h : i < l.length) : at_ l i = l[i] := by unfold at_; rw [List.getD_eq_getElem?_getD, List.getElem?_eq_getElem h]; rfl
def swap (l : List α) (i j : Nat) : List α := (l.set i (at_ l j)).set j (at_ l i)
@[simp] theorem swap_length (l : List α) (i j : Nat) : (swap l i j).length = l.length := by simp [swap]
theorem at_swap {l : List α} {i j k : Nat} (hi : i < l.length) (hj : j < l.length) (hk : k < l.length) : at_ (swap l i j) k = if k = j then at_ l i else if k = i then at_ l j else at_ l k := by
  rw [at_get (by simpa using hk)]
  unfold swap
  rw [List.getElem_set]
  by_cases c : j = k
  · rw [if_pos c, if_pos c.symm]
  · rw [if_neg c, if_neg (Ne.symm c), List.getElem_set]
    by_cases d : i = k
    · rw [if_pos d, if_pos d.symm]
    · rw [if_neg d, if_neg (Ne.symm d), at_get hk]
/-- Better-than: a strict order of which "not better" may be chained. -/
structure Ord (lt : α → α → Bool) : Prop where
  irr : ∀ a, lt a a = false
  tr : ∀ a b c, lt a b = false → lt b c = false → lt a c = false
  asy : ∀ a b, lt a b = true → lt b a = false
variable {lt : α → α → Bool}
def Heap (lt : α → α → Bool) (l : List α) (n : Nat) : Prop := ∀ i, 0 < i → i < n → lt (at_ l i) (at_ l ((i - 1) / 2)) = false
/-- All is well but for one that may have to go up. -/
structure UpI (lt : α → α → Bool) (l : List α) (n j : Nat) : Prop where
  ok : ∀ i, 0 < i → i < n → i ≠ j → lt (at_ l i) (at_ l ((i - 1) / 2)) = false
  gr : ∀ i, 0 < i → i < n → (i - 1) / 2 = j → 0 < j → lt (at_ l i) (at_ l ((j - 1) / 2)) = false
theorem UpI.step (O : Ord lt) {l : List α} {n j : Nat} (h : UpI lt l n j) (hn : n ≤ l.length) (h0 : 0 < j) (hj : j < n) (hl : lt (at_ l j) (at_ l ((j - 1) / 2)) = true) : UpI lt (swap l ((j - 1) / 2) j) n ((j - 1) / 2) := by
  obtain ⟨p, hp⟩ : ∃ p, p = (j - 1) / 2 := ⟨_, rfl⟩
  rw [← hp] at hl ⊢
  have pj : p < j := by omega
  have pl : p < l.length := by omega
  have jl : j < l.length := by omega
  refine ⟨fun i i0 i1 ip => ?_, fun i i0 i1 ie p0 => ?_⟩
  · rw [at_swap pl jl (by omega), at_swap pl jl (by omega)]
    by_cases c : i = j
    · subst c
      rw [if_pos rfl, ← hp, if_neg (by omega), if_pos rfl]
      exact O.asy _ _ hl
    · rw [if_neg c, if_neg ip]
      by_cases d : (i - 1) / 2 = j
      · rw [if_pos d, hp]; exact h.gr i i0 i1 d h0
      · rw [if_neg d]
        by_cases e : (i - 1) / 2 = p
        · rw [if_pos e]
          have h1 := h.ok i i0 i1 c
          rw [e] at h1
          exact O.tr _ _ _ h1 (O.asy _ _ hl)
        · rw [if_neg e]; exact h.ok i i0 i1 c
  · rw [at_swap pl jl (by omega), at_swap pl jl (by omega)]
    rw [if_neg (show ¬ (p - 1) / 2 = j by omega), if_neg (show ¬ (p - 1) / 2 = p by omega)]
    have hpp := h.ok p p0 (by omega) (by omega)
    by_cases c : i = j
    · rw [if_pos c]; exact hpp
    · rw [if_neg c, if_neg (by omega)]
      have h1 := h.ok i i0 i1 c
      rw [ie] at h1
      exact O.tr _ _ _ h1 hpp
/-- All is well but for one that may have to go down. -/
structure DnI (lt : α → α → Bool) (l : List α) (n i : Nat) : Prop where
  ok : ∀ k, 0 < k → k < n → (k - 1) / 2 ≠ i → lt (at_ l k) (at_ l ((k - 1) / 2)) = false
  gr : ∀ k, 0 < k → k < n → (k - 1) / 2 = i → 0 < i → lt (at_ l k) (at_ l ((i - 1) / 2)) = false
theorem DnI.step (O : Ord lt) {l : List α} {n i j : Nat} (h : DnI lt l n i) (hn : n ≤ l.length) (hj : j = 2 * i + 1 ∨ j = 2 * i + 2) (jn : j < n) (hl : lt (at_ l j) (at_ l i) = true)
    (hb : ∀ k, k = 2 * i + 1 ∨ k = 2 * i + 2 → k < n → lt (at_ l k) (at_ l j) = false) : DnI lt (swap l i j) n j := by
  have il : i < l.length := by omega
  have jl : j < l.length := by omega
  refine ⟨fun k k0 k1 kp => ?_, fun k k0 k1 ke j0 => ?_⟩
  · rw [at_swap il jl (by omega), at_swap il jl (by omega)]
    by_cases c : k = j
    · subst c
      rw [if_pos rfl, show (k - 1) / 2 = i by omega, if_neg (by omega), if_pos rfl]
      exact O.asy _ _ hl
    · rw [if_neg c, if_neg kp]
      by_cases d : (k - 1) / 2 = i
      · rw [if_neg (by omega), if_pos d]
        exact hb k (by omega) k1
      · rw [if_neg d]
        by_cases e : k = i
        · rw [if_pos e]
          subst e
          exact h.gr j (by omega) jn (by omega) k0
        · rw [if_neg e]; exact h.ok k k0 k1 d
  · rw [at_swap il jl (by omega), at_swap il jl (by omega)]
    rw [if_neg (by omega), if_neg (by omega), show (j - 1) / 2 = i by omega, if_neg (by omega), if_pos rfl]
    have := h.ok k k0 k1 (by omega)
    rw [ke] at this; exact this
/-- The first is the best. -/
theorem Heap.first (O : Ord lt) {l : List α} {n : Nat} (h : Heap lt l n) (i : Nat) (hi : i < n) : lt (at_ l i) (at_ l 0) = false := by
  induction i using Nat.strongRecOn with
  | ind i ih =>
    rcases Nat.eq_zero_or_pos i with rfl | h0
    · exact O.irr _
    · exact O.tr _ _ _ (h i h0 hi) (ih ((i - 1) / 2) (by omega) (by omega))
end
end Go.Ab.Hp


/- The best numbers of some: parts by the bits that they begin with; what a search has told and what it has left. -/
namespace Go.Ab
open Go Go.Proofs Go.Ab.Wd Go.Ab.Bs Go.Ab.Sai
set_option linter.unusedVariables false
set_option linter.unusedSimpArgs false
/-- A pair is better: it is there more often, or as often, and less. -/
def bet (a b : Int × Int) : Bool := decide (b.2 < a.2) || (decide (a.2 = b.2) && decide (a.1 < b.1))
theorem bet_iff {a b : Int × Int} : bet a b = true ↔ b.2 < a.2 ∨ (a.2 = b.2 ∧ a.1 < b.1) := by unfold bet; simp
abbrev Srt (l : List (Int × Int)) : Prop := l.Pairwise fun a b => bet a b = true
def insB (x : Int × Int) : List (Int × Int) → List (Int × Int)
  | [] => [x]
  | y :: l => if bet x y = true then x :: y :: l else y :: insB x l
def rk : List (Int × Int) → List (Int × Int)
  | [] => []
  | x :: l => insB x (rk l)
theorem insB_perm (x : Int × Int) : ∀ l, (insB x l).Perm (x :: l)
  | [] => List.Perm.refl _
  | y :: l => by
    unfold insB
    split
    · exact List.Perm.refl _
    · exact ((insB_perm x l).cons y).trans (List.Perm.swap x y l)
theorem rk_perm : ∀ l, (rk l).Perm l
  | [] => List.Perm.refl _
  | x :: l => (insB_perm x _).trans ((rk_perm l).cons x)
theorem bet_tri {x y : Int × Int} (h : x.1 ≠ y.1) : bet x y = true ∨ bet y x = true := by
  rw [bet_iff, bet_iff]; omega
theorem bet_tr {x y z : Int × Int} (h : bet x y = true) (k : bet y z = true) : bet x z = true := by
  rw [bet_iff] at *; omega
theorem bet_as {x y : Int × Int} (h : bet x y = true) (k : bet y x = true) : False := by rw [bet_iff] at *; omega
theorem insB_srt (x : Int × Int) : ∀ l, Srt l → (∀ y ∈ l, x.1 ≠ y.1) → Srt (insB x l)
  | [], _, _ => by simp [insB]
  | y :: l, h, hx => by
    rw [Srt, List.pairwise_cons] at h
    unfold insB
    split
    · rename_i c
      rw [Srt, List.pairwise_cons]
      refine ⟨fun z hz => ?_, List.pairwise_cons.2 h⟩
      rcases List.mem_cons.1 hz with rfl | hz
      · exact c
      · exact bet_tr c (h.1 z hz)
    · rename_i c
      rw [Srt, List.pairwise_cons]
      refine ⟨fun z hz => ?_, insB_srt x l h.2 fun z hz => hx z (by simp [hz])⟩
      rcases List.mem_cons.1 ((insB_perm x l).mem_iff.1 hz) with rfl | hz
      · exact (bet_tri (hx y (by simp))).resolve_left c
      · exact h.1 z hz
/-- The first of the pairs are unlike. -/
abbrev Uq (l : List (Int × Int)) : Prop := (l.map (·.1)).Nodup
theorem rk_srt : ∀ l, Uq l → Srt (rk l)
  | [], _ => by simp [rk]
  | x :: l, h => by
    rw [Uq, List.map_cons, List.nodup_cons] at h
    refine insB_srt x _ (rk_srt l h.2) fun y hy e => h.1 ?_
    rw [e]; exact List.mem_map.2 ⟨y, (rk_perm l).mem_iff.1 hy, rfl⟩
theorem srt_uniq {a b : List (Int × Int)} (p : a.Perm b) (ha : Srt a) (hb : Srt b) : a = b := by
  induction a generalizing b with
  | nil => exact (List.nil_perm.1 p).symm ▸ rfl
  | cons x l ih =>
    cases b with
    | nil => exact absurd p.symm (by intro h; have := h.length_eq; simp at this)
    | cons y m =>
      rw [Srt, List.pairwise_cons] at ha hb
      have h1 : y ∈ x :: l := p.mem_iff.2 (by simp)
      have h2 : x ∈ y :: m := p.mem_iff.1 (by simp)
      have e : x = y := by
        rcases List.mem_cons.1 h1 with h1 | h1
        · exact h1.symm
        · rcases List.mem_cons.1 h2 with h2 | h2
          · exact h2
          · exact (bet_as (ha.1 y h1) (hb.1 x h2)).elim
      subst e
      rw [ih (List.Perm.cons_inv p) ha.2 hb.2]
theorem rk_of {a b : List (Int × Int)} (p : a.Perm b) (hb : Srt b) (hu : Uq a) : rk a = b := srt_uniq ((rk_perm a).trans p) (rk_srt a hu) hb
/-! ### the pairs of some numbers -/
theorem dis_fst_mem {s : List Int} {lo n : Nat} {e : Int × Int} (h : e ∈ dis s lo n) : ∃ v : Nat, lo ≤ v ∧ v < lo + n ∧ e = ((v : Int), ((Bs.cnt (fun x => decide (x = (v : Int))) s : Nat) : Int)) ∧ 0 < Bs.cnt (fun x => decide (x = (v : Int))) s := by
  unfold dis at h
  obtain ⟨v, hv, rfl⟩ := List.mem_map.1 h
  obtain ⟨h1, h2⟩ := List.mem_filter.1 hv
  rw [List.mem_range'_1] at h1
  exact ⟨v, h1.1, h1.2, rfl, by simpa using h2⟩
theorem dis_uq (s : List Int) (lo n : Nat) : Uq (dis s lo n) := by
  unfold dis Uq
  rw [List.map_map]
  have : ((List.range' lo n).filter fun v : Nat => decide (0 < Bs.cnt (fun x => decide (x = (v : Int))) s)).Nodup := (List.nodup_range').sublist List.filter_sublist
  exact nodup_map_inj (f := fun v : Nat => (v : Int)) (fun a b e => by have e' : ((a : Int)) = b := e; omega) this
/-- How many numbers begin with some bits. -/
def nOf (s : List Int) (p : Nat × Nat) : Nat := (s.filter (pre p.1 p.2)).length
def eOf (s : List Int) (p : Nat × Nat) : List (Int × Int) := dis s (p.2 * 2 ^ p.1) (2 ^ p.1)
def loOf (p : Nat × Nat) : Nat := p.2 * 2 ^ p.1
theorem pre_iff {k c : Nat} {x : Int} : pre k c x = true ↔ c * 2 ^ k ≤ x.toNat ∧ x.toNat < c * 2 ^ k + 2 ^ k := by
  unfold pre
  rw [decide_eq_true_eq]
  have hp : 0 < 2 ^ k := Nat.two_pow_pos k
  constructor
  · rintro rfl
    have h1 := Nat.div_mul_le_self x.toNat (2 ^ k)
    have h2 := Nat.lt_div_mul_add hp (a := x.toNat)
    omega
  · rintro ⟨h1, h2⟩
    have := Nat.div_eq_of_lt_le (m := x.toNat) (n := 2 ^ k) (k := c) (by omega) (by rw [Nat.add_mul, Nat.one_mul]; omega)
    exact this
theorem eOf_nil {s : List Int} {p : Nat × Nat} (h : nOf s p = 0) : eOf s p = [] := by
  unfold eOf
  refine dis_none fun x hx hb => ?_
  unfold nOf at h
  have : x ∈ s.filter (pre p.1 p.2) := List.mem_filter.2 ⟨hx, pre_iff.2 hb⟩
  rw [List.eq_nil_of_length_eq_zero h] at this
  cases this
theorem cnt_le_nOf {s : List Int} {p : Nat × Nat} {v : Nat} (h0 : loOf p ≤ v) (h1 : v < loOf p + 2 ^ p.1) : Bs.cnt (fun x => decide (x = (v : Int))) s ≤ nOf s p := by
  unfold Bs.cnt nOf
  rw [← List.countP_eq_length_filter, ← List.countP_eq_length_filter]
  refine List.countP_mono_left fun x _ hx => ?_
  have : x = (v : Int) := by simpa using hx
  subst this
  exact pre_iff.2 ⟨by rw [Int.toNat_natCast]; exact h0, by rw [Int.toNat_natCast]; exact h1⟩
theorem eOf_zero {s : List Int} {c : Nat} (h : 0 < nOf s (0, c)) (hs : ∀ x ∈ s, 0 ≤ x) : eOf s (0, c) = [((c : Int), ((nOf s (0, c) : Nat) : Int))] ∧ nOf s (0, c) = Bs.cnt (fun x => decide (x = (c : Int))) s := by
  have e : nOf s (0, c) = Bs.cnt (fun x => decide (x = (c : Int))) s := by
    unfold nOf Bs.cnt
    congr 1
    exact List.filter_congr fun x hx => by rw [pre_zero (hs x hx)]
  refine ⟨?_, e⟩
  unfold eOf dis
  simp only [Nat.pow_zero, Nat.mul_one]
  have r : List.range' c 1 = [c] := rfl
  rw [r, List.filter_cons, if_pos (by rw [e] at h; simpa using h)]
  simp [e]
theorem eOf_succ (s : List Int) (k c : Nat) : eOf s (k + 1, c) = eOf s (k, 2 * c) ++ eOf s (k, 2 * c + 1) := by
  unfold eOf
  simp only
  have h := dis_split s (c * 2 ^ (k + 1)) (2 ^ k) (2 ^ k)
  have e1 : 2 ^ (k + 1) = 2 ^ k + 2 ^ k := by rw [Nat.pow_succ]; omega
  rw [← e1] at h
  rw [h]
  have e2 : c * (2 ^ k + 2 ^ k) = 2 * c * 2 ^ k := by generalize 2 ^ k = m; rw [Nat.mul_add, Nat.mul_assoc, Nat.two_mul]
  have e3 : c * (2 ^ k + 2 ^ k) + 2 ^ k = (2 * c + 1) * 2 ^ k := by rw [e2, Nat.add_mul, Nat.one_mul]
  rw [e1, e3, e2]
def nlt (s : List Int) (p q : Nat × Nat) : Bool := decide (nOf s q < nOf s p) || (decide (nOf s p = nOf s q) && decide (loOf p < loOf q))
theorem nlt_iff {s : List Int} {p q : Nat × Nat} : nlt s p q = true ↔ nOf s q < nOf s p ∨ (nOf s p = nOf s q ∧ loOf p < loOf q) := by unfold nlt; simp
theorem nlt_not {s : List Int} {p q : Nat × Nat} : nlt s p q = false ↔ nOf s p < nOf s q ∨ (nOf s p = nOf s q ∧ loOf q ≤ loOf p) := by
  rw [← Bool.not_eq_true, nlt_iff]; omega
/-- What is told, and what is left. -/
structure SI (s : List Int) (M : Nat) (O : List (Int × Int)) (S : List (Nat × Nat)) : Prop where
  perm : (O ++ S.flatMap (eOf s)).Perm (dis s 0 M)
  srt : Srt O
  all : ∀ o ∈ O, ∀ e ∈ S.flatMap (eOf s), bet o e = true
  pos : ∀ p ∈ S, 0 < nOf s p
theorem SI.congr {s : List Int} {M : Nat} {O : List (Int × Int)} {S S' : List (Nat × Nat)} (h : SI s M O S) (p : S.Perm S') : SI s M O S' := by
  have f : (S.flatMap (eOf s)).Perm (S'.flatMap (eOf s)) := p.flatMap_right _
  exact ⟨(f.symm.append_left O).trans h.perm, h.srt, fun o ho e he => h.all o ho e (f.mem_iff.2 he), fun q hq => h.pos q (p.mem_iff.2 hq)⟩
theorem SI.uq {s : List Int} {M : Nat} {O : List (Int × Int)} {S : List (Nat × Nat)} (h : SI s M O S) : Uq (O ++ S.flatMap (eOf s)) := (h.perm.map (·.1)).nodup_iff.2 (dis_uq s 0 M)
theorem SI.tell {s : List Int} {M : Nat} {O : List (Int × Int)} {S : List (Nat × Nat)} {c : Nat} (h : SI s M O ((0, c) :: S)) (hs : ∀ x ∈ s, 0 ≤ x) (hb : ∀ q ∈ S, nlt s q (0, c) = false) : SI s M (O ++ [((c : Int), ((nOf s (0, c) : Nat) : Int))]) S := by
  obtain ⟨e0, e1⟩ := eOf_zero (c := c) (h.pos _ (List.mem_cons_self)) hs
  have fl : ((0, c) :: S).flatMap (eOf s) = [((c : Int), ((nOf s (0, c) : Nat) : Int))] ++ S.flatMap (eOf s) := by rw [List.flatMap_cons, e0]
  have hu := h.uq
  have hp := h.perm
  have ha := h.all
  rw [fl] at hu hp ha
  rw [← List.append_assoc] at hu hp
  have out : ∀ e ∈ S.flatMap (eOf s), bet ((c : Int), ((nOf s (0, c) : Nat) : Int)) e = true := fun e he => by
    obtain ⟨q, hq, he'⟩ := List.mem_flatMap.1 he
    obtain ⟨v, v0, v1, rfl, _⟩ := dis_fst_mem he'
    have hle := cnt_le_nOf (s := s) (p := q) (v := v) v0 v1
    have hne : (v : Int) ≠ (c : Int) := fun ev => by
      unfold Uq at hu
      rw [List.map_append, List.nodup_append] at hu
      exact hu.2.2 c (List.mem_map.2 ⟨((c : Int), ((nOf s (0, c) : Nat) : Int)), List.mem_append_right O (List.mem_singleton.2 rfl), rfl⟩) v (List.mem_map.2 ⟨_, he, rfl⟩) ev.symm
    have := hb q hq
    rw [nlt_not] at this
    have l0 : loOf (0, c) = c := by simp [loOf]
    rw [l0] at this
    have v0' : loOf q ≤ v := v0
    rw [bet_iff]
    simp only
    omega
  refine ⟨hp, ?_, fun o ho e he => ?_, fun p hp => h.pos p (by simp [hp])⟩
  · rw [Srt, List.pairwise_append]
    exact ⟨h.srt, by simp, fun a ha' b hb' => by rw [List.mem_singleton] at hb'; subst hb'; exact ha a ha' _ (List.mem_append_left _ (List.mem_cons_self))⟩
  · rcases List.mem_append.1 ho with ho | ho
    · exact ha o ho e (List.mem_append_right [((c : Int), ((nOf s (0, c) : Nat) : Int))] he)
    · rw [List.mem_singleton] at ho; subst ho; exact out e he
/-- The two halves of a part, where there is anything. -/
def kid (s : List Int) (p : Nat × Nat) : List (Nat × Nat) := if 0 < nOf s p then [p] else []
theorem kid_flat (s : List Int) (p : Nat × Nat) : (kid s p).flatMap (eOf s) = eOf s p := by
  unfold kid
  split
  · simp
  · rename_i h; rw [eOf_nil (by omega)]; rfl
theorem SI.split {s : List Int} {M : Nat} {O : List (Int × Int)} {S : List (Nat × Nat)} {k c : Nat} (h : SI s M O ((k + 1, c) :: S)) : SI s M O (S ++ kid s (k, 2 * c) ++ kid s (k, 2 * c + 1)) := by
  have f : ((S ++ kid s (k, 2 * c) ++ kid s (k, 2 * c + 1)).flatMap (eOf s)).Perm (((k + 1, c) :: S).flatMap (eOf s)) := by
    rw [List.flatMap_append, List.flatMap_append, kid_flat, kid_flat, List.flatMap_cons, eOf_succ, List.append_assoc]
    exact List.perm_append_comm
  refine ⟨(f.append_left O).trans h.perm, h.srt, fun o ho e he => h.all o ho e (f.mem_iff.1 he), fun p hp => ?_⟩
  rcases List.mem_append.1 hp with hp | hp
  · rcases List.mem_append.1 hp with hp | hp
    · exact h.pos p (by simp [hp])
    · unfold kid at hp; split at hp
      · rw [List.mem_singleton] at hp; subst hp; assumption
      · cases hp
  · unfold kid at hp; split at hp
    · rw [List.mem_singleton] at hp; subst hp; assumption
    · cases hp
theorem SI.start {s : List Int} {w : Nat} : SI s (2 ^ w) [] (kid s (w, 0)) := by
  refine ⟨?_, by simp, by simp, fun p hp => ?_⟩
  · rw [List.nil_append, kid_flat]; unfold eOf; simp
  · unfold kid at hp; split at hp
    · rw [List.mem_singleton] at hp; subst hp; assumption
    · cases hp
theorem SI.res {s : List Int} {M : Nat} {O : List (Int × Int)} {S : List (Nat × Nat)} (h : SI s M O S) : rk (dis s 0 M) = O ++ rk (S.flatMap (eOf s)) := by
  have hu := h.uq
  have hu2 : Uq (S.flatMap (eOf s)) := by
    unfold Uq at hu ⊢
    rw [List.map_append, List.nodup_append] at hu; exact hu.2.1
  refine rk_of (h.perm.symm.trans ((rk_perm _).symm.append_left O)) ?_ (dis_uq s 0 M)
  rw [Srt, List.pairwise_append]
  exact ⟨h.srt, rk_srt _ hu2, fun a ha b hb => h.all a ha b ((rk_perm _).mem_iff.1 hb)⟩
theorem SI.done {s : List Int} {M : Nat} {O : List (Int × Int)} (h : SI s M O []) : O = rk (dis s 0 M) := by
  have := h.res; simpa [rk] using this.symm
theorem SI.take {s : List Int} {M : Nat} {O : List (Int × Int)} {S : List (Nat × Nat)} (h : SI s M O S) : O = (rk (dis s 0 M)).take O.length := by
  rw [h.res]; simp
end Go.Ab


/- Rows of structs: reading, writing, appending. -/
namespace Go.Ab
open Go
set_option linter.unusedVariables false
set_option linter.unusedSimpArgs false
/-- All of one length. -/
abbrev Uni (es : Nat) (L : List (List AV)) : Prop := ∀ x ∈ L, x.length = es
theorem flat_length {es : Nat} : ∀ {L : List (List AV)}, Uni es L → L.flatten.length = L.length * es
  | [], _ => by simp
  | x :: L, h => by
    rw [List.flatten_cons, List.length_append, flat_length (fun y hy => h y (by simp [hy])), h x (by simp), List.length_cons, Nat.add_mul]; omega
section
variable {σ σ' : Store} {n es : Nat} {h : Hdl} {L : List (List AV)}
theorem slS_len (s : σ.Sl h es L.flatten) (u : Uni es L) (he : 0 < es) : h.len = L.length := by
  have := s.len; rw [flat_length u] at this
  exact Nat.eq_of_mul_eq_mul_right he this
end
end Go.Ab


/- The reference's parts, sorted rows, pairs. -/
namespace Go.Ab
open Go Go.Proofs Go.Ab.Wd Go.Ab.Bs Go.Ab.Sai
set_option linter.unusedVariables false
set_option linter.unusedSimpArgs false
/-! ### plain -/
def insr (x : Int) : List Int → List Int
  | [] => [x]
  | y :: o => if y ≤ x then y :: insr x o else x :: y :: o
def srt (l : List Int) : List Int := l.foldl (fun o x => insr x o) []
/-! ### Part -/
def pt (l : List Int) (a b : Int) (i : Nat) : List Int := (l.take (min i b.toNat)).drop a.toNat
theorem pt_end (l : List Int) (a b : Int) : pt l a b l.length = seg l a b := by
  unfold pt seg segLo segHi
  have e1 : (max a 0).toNat = a.toNat := by omega
  rw [e1]
  by_cases c : a.toNat ≤ min l.length b.toNat
  · congr 2; omega
  · rw [List.drop_eq_nil_iff.2 (by simp; omega), List.drop_eq_nil_iff.2 (by simp; omega)]
/-! ### Sorted -/
end Go.Ab


/- The law WaveRanges. -/
namespace Go.Ab
open Go Go.Proofs Go.Ab.Wd Go.Ab.Bs Go.Ab.Sai
set_option linter.unusedVariables false
set_option linter.unusedSimpArgs false
end Go.Ab


/- Parts in memory: Len, Less, Swap. -/
namespace Go.Ab
open Go Go.Proofs Go.Ab.Wd Go.Ab.Bs Go.Ab.Sai
set_option linter.unusedVariables false
set_option linter.unusedSimpArgs false
abbrev Pt := Nat × Nat × Nat × Nat × Nat
def pcs (x : Pt) : List AV := [.int .i64 x.1, .int .i64 x.2.1, .int .i64 x.2.2.1, .int .i64 x.2.2.2.1, .int .i64 x.2.2.2.2]
abbrev pfl (L : List Pt) : List AV := (L.map pcs).flatten
def pn (x : Pt) : Nat := x.2.2.2.2 - x.2.2.2.1
def plt (x y : Pt) : Bool := decide (pn y < pn x) || (decide (pn x = pn y) && decide (x.2.2.1 < y.2.2.1))
section
variable {σ : Store} {h : Hdl} {L : List Pt}
/-- Nothing changes but what a slice lies in. -/
structure Mw (h : Hdl) (σ σ' : Store) : Prop where
  prot : σ'.prot = σ.prot
  len : σ.objs.length ≤ σ'.objs.length
  kp : ∀ x, x < σ.objs.length → h.row ≠ some x → σ'.objs[x]? = σ.objs[x]?
theorem Mw.refl (h : Hdl) (σ : Store) : Mw h σ σ := ⟨rfl, Nat.le_refl _, fun _ _ _ => rfl⟩
theorem Mw.trans {σ1 σ2 : Store} (a : Mw h σ σ1) (b : Mw h σ1 σ2) : Mw h σ σ2 := ⟨b.prot.trans a.prot, Nat.le_trans a.len b.len, fun x hx hr => (b.kp x (Nat.lt_of_lt_of_le hx a.len) hr).trans (a.kp x hx hr)⟩
theorem Mw.kpl {σ' : Store} (k : Kp σ.objs.length σ σ') : Mw h σ σ' := ⟨k.prot, k.len, fun x hx _ => k.keep x hx⟩
theorem Mw.push (h : Hdl) (σ : Store) (l : List AV) (es : Nat) : Mw h σ (σ.push l es) := Mw.kpl (Kp.push l es (Nat.le_refl _))
theorem Mw.row {σ' : Store} {b es : Nat} {l : List AV} (m : Mw h σ σ') (r : σ.Row b es l) (hb : h.row ≠ some b) : σ'.Row b es l := (m.kp b r.lt hb).trans r
end
end Go.Ab


/- Parts in memory: a heap's up and down. -/
namespace Go.Ab
open Go Go.Proofs Go.Ab.Wd Go.Ab.Bs Go.Ab.Sai
set_option linter.unusedVariables false
set_option linter.unusedSimpArgs false
section
variable {σ : Store} {h : Hdl} {L : List Pt} {n b : Nat} {pm : Ptr}
end
end Go.Ab


/- Parts in memory: Push, Pop; of a heap. -/
namespace Go.Ab
open Go Go.Proofs Go.Ab.Wd Go.Ab.Bs Go.Ab.Sai
set_option linter.unusedVariables false
set_option linter.unusedSimpArgs false
/-- What a search may change: its own row, and what its parts lie in. -/
structure Mv (b : Nat) (h h' : Hdl) (σ σ' : Store) : Prop where
  prot : σ'.prot = σ.prot
  len : σ.objs.length ≤ σ'.objs.length
  kp : ∀ x, x < σ.objs.length → x ≠ b → h.row ≠ some x → σ'.objs[x]? = σ.objs[x]?
  row : h'.row = h.row ∨ ∀ x, h'.row = some x → σ.objs.length ≤ x
theorem Mv.trans {b : Nat} {h h1 h2 : Hdl} {σ σ1 σ2 : Store} (a : Mv b h h1 σ σ1) (c : Mv b h1 h2 σ1 σ2) : Mv b h h2 σ σ2 := by
  refine ⟨c.prot.trans a.prot, Nat.le_trans a.len c.len, fun x hx hb hr => ?_, ?_⟩
  · have : h1.row ≠ some x := fun e => by
      rcases a.row with r | r
      · exact hr (r ▸ e)
      · have := r x e; omega
    exact (c.kp x (Nat.lt_of_lt_of_le hx a.len) hb this).trans (a.kp x hx hb hr)
  · rcases c.row with r | r
    · rcases a.row with q | q
      · exact .inl (r.trans q)
      · exact .inr fun x hx => q x (r ▸ hx)
    · exact .inr fun x hx => Nat.le_trans a.len (r x hx)
theorem Mw.mv {b : Nat} {h : Hdl} {σ σ' : Store} (m : Mw h σ σ') : Mv b h h σ σ' := ⟨m.prot, m.len, fun x hx _ hr => m.kp x hx hr, .inl rfl⟩
theorem Mv.kpl {b : Nat} {h : Hdl} {σ σ' : Store} (k : Kp σ.objs.length σ σ') : Mv b h h σ σ' := (Mw.kpl k).mv
/-- A search in memory. -/
structure Srch (σ : Store) (n b : Nat) (pm : Ptr) (h : Hdl) (L : List Pt) : Prop where
  nb : n ≤ b
  R : σ.Row b 2 [.ptr pm, .slice h]
  hb : h.row ≠ some b
  g : Grow σ n h 5 (pfl L)
theorem Srch.kp {σ σ' : Store} {n b : Nat} {pm : Ptr} {h : Hdl} {L : List Pt} (s : Srch σ n b pm h L) (k : Kp σ.objs.length σ σ') : Srch σ' n b pm h L := ⟨s.nb, s.R.kp k s.R.lt, s.hb, s.g.kp k⟩
section
variable {σ : Store} {h : Hdl} {L : List Pt} {n b : Nat} {pm : Ptr}
theorem growS_cut {es : Nat} {K : List (List AV)} (g : Grow σ n h es K.flatten) (u : Uni es K) (he : 0 < es) {m : Nat} (hm : m ≤ K.length) :
    ∃ h', σ.sub h es none (some (m : Int)) none = some h' ∧ Grow σ n h' es (K.take m).flatten ∧ h'.row = h.row := by
  have s := g.sl
  have hl := slS_len s u he
  have hes : σ.esOk h es = true := by
    unfold Store.esOk
    cases ha : h.a with
    | none => rfl
    | some bo =>
      obtain ⟨b, o⟩ := bo
      rcases s.row with h1 | ⟨b', o', cs, rw, k1, k2, _⟩
      · simp [h1]
      · rw [ha] at k1; injection k1 with k1; injection k1 with k1 k1'; subst k1 k1'
        simp only [k2]
        cases Nat.beq h.len 0 <;> simp
  have ut : Uni es (K.take m) := fun x hx => u x (List.mem_of_mem_take hx)
  have ft : (K.take m).flatten = K.flatten.take (m * es) := by
    have e : K.flatten = (K.take m).flatten ++ (K.drop m).flatten := by rw [← List.flatten_append, List.take_append_drop]
    have hm' : (K.take m).flatten.length = m * es := by rw [flat_length ut, List.length_take, Nat.min_eq_left hm]
    exact (by rw [e, ← hm']; exact List.take_left.symm : (K.take m).flatten = K.flatten.take (m * es))
  have mle : m * es ≤ K.length * es := Nat.mul_le_mul_right _ hm
  have fl := flat_length u
  refine ⟨⟨h.a.map fun x => (x.1, x.2 + 0 * es), m - 0, h.cap.map (· - 0)⟩, ?_, ⟨⟨?_, ?_⟩, ⟨fun b o e => ?_, fun e => ?_⟩⟩, ?_⟩
  · unfold Store.sub
    rw [if_pos ⟨⟨hes, by simp, by simp⟩, ⟨by simp, by simp; omega⟩, by simp, by simp⟩]
    simp
  · rw [flat_length ut, List.length_take, Nat.min_eq_left hm]; simp
  · by_cases c : m = 0
    · exact .inl (by simp [c])
    · rcases s.row with k0 | ⟨b, o, cs, rw, k1, k2, k3, k4⟩
      · omega
      · refine .inr ⟨b, o, cs, rw, by simp [k1], k2, ?_, ?_⟩
        · rw [flat_length ut, List.length_take, Nat.min_eq_left hm]; omega
        · rw [flat_length ut, List.length_take, Nat.min_eq_left hm, ft, ← k4, List.take_take, fl, Nat.min_eq_left mle]
  · cases ha : h.a with
    | none => simp [ha] at e
    | some bo =>
      obtain ⟨b', o'⟩ := bo
      rw [ha] at e
      simp only [Option.map_some, Option.some.injEq, Prod.mk.injEq, Nat.zero_mul, Nat.add_zero] at e
      obtain ⟨rfl, rfl⟩ := e
      obtain ⟨h1, cs, h2, h3, h4⟩ := g.own.own b' o' ha
      refine ⟨h1, cs, h2, ?_, fun c hc => ?_⟩
      · rw [hl] at h3; simp only [Nat.sub_zero]; omega
      · cases hq : h.cap with
        | none => rw [hq] at hc; cases hc
        | some q => rw [hq] at hc; simp at hc; subst hc; exact h4 q hq
  · cases ha : h.a with
    | none => have := g.own.nil ha; simp only [Nat.sub_zero]; omega
    | some bo => simp [ha] at e
  · cases ha : h.a with
    | none => simp [Hdl.row, ha]
    | some bo => simp [Hdl.row, ha]
end
end Go.Ab


/- A search: what it holds; put. -/
namespace Go.Ab
open Go Go.Proofs Go.Ab.Wd Go.Ab.Bs Go.Ab.Sai
set_option linter.unusedVariables false
set_option linter.unusedSimpArgs false
/-! ### how much is left -/
def nsum (s : List Int) (S : List (Nat × Nat)) : Nat := (S.map (nOf s)).sum
def qsum (s : List Int) (S : List (Nat × Nat)) : Nat := (S.map fun p => nOf s p * p.1).sum
/-! ### what a part is -/
def abx (w : Nat) (x : Pt) : Nat × Nat := (w - x.1, x.2.1)
structure Okp (w : Nat) (l s : List Int) (x : Pt) : Prop where
  lv : x.1 ≤ w
  c : x.2.1 < 2 ^ x.1
  e : x.2.2.1 = loOf (abx w x)
  b : x.2.2.2.2 = x.2.2.2.1 + nOf s (abx w x)
  p : Part (Bs.rowAt w l (w - x.1)) x.2.2.2.1 (s.filter (pre (w - x.1) x.2.1))
section
variable {σ : Store} {h : Hdl} {L : List Pt} {n b : Nat} {pm : Ptr}
end
/-- A search over the numbers of a range: what it has told. -/
structure Sst (σ : Store) (n b : Nat) (pm : Ptr) (h : Hdl) (l s : List Int) (w : Nat) (O : List (Int × Int)) (q : Nat) : Prop where
  ex : ∃ L, Srch σ n b pm h L ∧ Hp.Heap plt L L.length ∧ (∀ x ∈ L, Okp w l s x) ∧ SI s (2 ^ w) O (L.map (abx w)) ∧ ((nsum s (L.map (abx w)) : Nat) : Int) + sum2 O = s.length ∧ qsum s (L.map (abx w)) = q
theorem Sst.kp {σ σ' : Store} {n b : Nat} {pm : Ptr} {h : Hdl} {l s : List Int} {w q : Nat} {O : List (Int × Int)} (S : Sst σ n b pm h l s w O q) (k : Kp σ.objs.length σ σ') : Sst σ' n b pm h l s w O q := by
  obtain ⟨L, a, c⟩ := S.ex
  exact ⟨L, a.kp k, c⟩
end Go.Ab


/- A step of a search. -/
namespace Go.Ab
open Go Go.Proofs Go.Ab.Wd Go.Ab.Bs Go.Ab.Sai
set_option linter.unusedVariables false
set_option linter.unusedSimpArgs false
theorem Mv.setO {b : Nat} {h h' : Hdl} {σ σ' : Store} (m : Mv b h h' σ σ') {r : Nat} (hr : σ.objs.length ≤ r) {o : AObj} : Mv b h h' σ (σ'.setO r o) :=
  ⟨m.prot, by simpa using m.len, fun x hx hb hh => by
    show (σ'.objs.set r o)[x]? = _
    rw [List.getElem?_set, if_neg (by omega)]; exact m.kp x hx hb hh, m.row⟩
theorem Srch.setO {σ : Store} {n b : Nat} {pm : Ptr} {h : Hdl} {L : List Pt} (s : Srch σ n b pm h L) {r : Nat} (h1 : r ≠ b) (h2 : h.row ≠ some r) {o : AObj} : Srch (σ.setO r o) n b pm h L :=
  ⟨s.nb, s.R.setO_ne h1, s.hb, s.g.keepX fun c hc => by
    show (σ.objs.set r o)[c]? = _
    rw [List.getElem?_set, if_neg (show ¬ r = c from fun e => h2 (e ▸ hc))]⟩
section
variable {σ0 σ : Store} {h : Hdl} {n b w q : Nat} {pm : Ptr} {l s : List Int} {O : List (Int × Int)}
end
end Go.Ab


/- A new search; its next number. -/
namespace Go.Ab
open Go Go.Proofs Go.Ab.Wd Go.Ab.Bs Go.Ab.Sai
set_option linter.unusedVariables false
set_option linter.unusedSimpArgs false
theorem Sst.setO {σ : Store} {n b : Nat} {pm : Ptr} {h : Hdl} {l s : List Int} {w q : Nat} {O : List (Int × Int)} (S : Sst σ n b pm h l s w O q) {r : Nat} (h1 : r ≠ b) (h2 : h.row ≠ some r) {o : AObj} : Sst (σ.setO r o) n b pm h l s w O q := by
  obtain ⟨L, a, c⟩ := S.ex
  exact ⟨L, a.setO h1 h2, c⟩
theorem Sst.lt {σ : Store} {n b : Nat} {pm : Ptr} {h : Hdl} {l s : List Int} {w q : Nat} {O : List (Int × Int)} (S : Sst σ n b pm h l s w O q) : n ≤ b ∧ b < σ.objs.length ∧ h.row ≠ some b ∧ ∀ x, h.row = some x → n ≤ x ∧ x < σ.objs.length := by
  obtain ⟨L, a, c⟩ := S.ex
  exact ⟨a.nb, a.R.lt, a.hb, fun x hx => a.g.row x hx⟩
section
variable {σ0 σ : Store} {h : Hdl} {n b w q : Nat} {pm : Ptr} {l s : List Int} {O : List (Int × Int)}
end
end Go.Ab


/- The top numbers of a range. -/
namespace Go.Ab
open Go Go.Proofs Go.Ab.Wd Go.Ab.Bs Go.Ab.Sai
set_option linter.unusedVariables false
set_option linter.unusedSimpArgs false
end Go.Ab


/- The law BestFirsts. -/
namespace Go.Ab
open Go Go.Proofs Go.Ab.Wd Go.Ab.Bs Go.Ab.Sai
set_option linter.unusedVariables false
set_option linter.unusedSimpArgs false
theorem pairsL_flat (L : List (Int × Int)) : pairsL L = (L.map fun p => [AV.int .i64 p.1, AV.int .i64 p.2]).flatten := rfl
theorem pairs_cut {σ : Store} {n : Nat} {h : Hdl} {L : List (Int × Int)} (g : Grow σ n h 2 (pairsL L)) {m : Nat} (hm : m ≤ L.length) :
    ∃ h', σ.sub h 2 none (some (m : Int)) none = some h' ∧ Grow σ n h' 2 (pairsL (L.take m)) ∧ h'.row = h.row := by
  rw [pairsL_flat] at g
  obtain ⟨h', e, g', r⟩ := growS_cut g (fun x hx => by obtain ⟨y, _, rfl⟩ := List.mem_map.1 hx; rfl) (by omega) (m := m) (by simpa using hm)
  refine ⟨h', e, ?_, r⟩
  rw [pairsL_flat, List.map_take]; exact g'
end Go.Ab

