/- A part of the proof of the law WaveRanges: lemmas alone; what each says stands at it. No conditions. -/
import Derived.Test.YtmbbcabhgcagaaaAbWaveRanges1
import Derived.Test.YtmbbcabhgcagaaaProg
set_option maxRecDepth 100000
set_option linter.unusedVariables false
namespace Go.Ab
open Go Go.Proofs
noncomputable instance toldTry : Told Try.prog := ⟨tell [15,26]⟩
theorem f9_eq : ∀ (Γ : Gam) (k : Nat) (σ : Store) (h0 : Hdl) (i1 i2 i3 : Int),
  evBody Try.prog Γ drawn k Try.f9 [AV.slice h0, AV.int IntKind.i64 i1, AV.agg [AV.int IntKind.i64 i2, AV.int IntKind.i64 i3]] σ =
    Option.bind (Γ (Fun.fn 26) [] (Store.push σ [AV.int IntKind.i64 i2, AV.int IntKind.i64 i3] 2)) fun x4 ↦
      Option.bind (AV.asBool (Prod.fst x4)) fun x5 ↦
        if (!x5) = true then some (AV.bool false, Prod.snd x4)
        else
          if decide (1000 < (↑(Hdl.len h0) : Int)) = true then some (AV.bool true, Prod.snd x4)
          else
            Option.bind (Γ (Fun.fn 28) [AV.slice h0, AV.int IntKind.i64 300] (Prod.snd x4)) fun x6 ↦
              Option.bind (AV.asBool (Prod.fst x6)) fun x7 ↦
                if (!x7) = true then some (AV.bool true, Prod.snd x6)
                else
                  Option.bind (Γ (Fun.fn 27) [AV.slice h0, AV.int IntKind.i64 300] (Prod.snd x6)) fun x8 ↦
                    Option.bind (AV.item 0 2 (Prod.fst x8)) fun x9 ↦
                      Option.bind (AV.asPtr x9) fun x10 ↦
                        Option.bind (AV.item 1 2 (Prod.fst x8)) fun x11 ↦
                          Option.bind (AV.asBool x11) fun x12 ↦
                            Option.bind (Store.ldInt (Prod.snd x8) IntKind.i64 (Ptr.add (some (List.length (Store.objs σ), 0)) 0)) fun x13 ↦
                              Option.bind (Store.ldInt (Prod.snd x8) IntKind.i64 (Ptr.add (some (List.length (Store.objs σ), 0)) 1)) fun x14 ↦
                                if decide (0 ≤ x13) = true then
                                  if decide (x13 < (↑(Hdl.len h0) : Int)) = true then
                                    if 0 ≤ x13 ∧ x13 < (↑(Hdl.len h0) : Int) then
                                      Option.bind (Store.ldInt (Prod.snd x8) IntKind.i64 (Hdl.idx h0 x13 1)) fun x15 ↦
                                        Option.bind
                                          (loopF Try.prog Γ drawn k Try.f9 [1, 1, 1, 1, 1, 1, 1, 1, 0, 1, 0] [49, 48, 47, 13, 12, 11, 10, 9, 7, 1, 0]
                                            ([AV.int IntKind.i64 0, AV.int IntKind.i64 (↑(Hdl.len h0) : Int), AV.slice h0, AV.int IntKind.i64 0, AV.int IntKind.i64 (-1), AV.int IntKind.i64 x15, AV.int IntKind.i64 x14, AV.int IntKind.i64 x13, AV.ptr x10, AV.int IntKind.i64 i1, AV.slice h0], Prod.snd x8))
                                          (contF Try.prog Γ drawn k Try.f9 [1, 1, 1, 1, 1, 1, 1, 1, 0, 1, 0])
                                    else none
                                  else
                                    Option.bind
                                      (loopF Try.prog Γ drawn k Try.f9 [1, 1, 1, 1, 1, 1, 1, 1, 0, 1, 0] [49, 48, 47, 13, 12, 11, 10, 9, 7, 1, 0]
                                        ([AV.int IntKind.i64 0, AV.int IntKind.i64 (↑(Hdl.len h0) : Int), AV.slice h0, AV.int IntKind.i64 0, AV.int IntKind.i64 (-1), AV.int IntKind.i64 (-1), AV.int IntKind.i64 x14, AV.int IntKind.i64 x13, AV.ptr x10, AV.int IntKind.i64 i1, AV.slice h0], Prod.snd x8))
                                      (contF Try.prog Γ drawn k Try.f9 [1, 1, 1, 1, 1, 1, 1, 1, 0, 1, 0])
                                else
                                  Option.bind
                                    (loopF Try.prog Γ drawn k Try.f9 [1, 1, 1, 1, 1, 1, 1, 1, 0, 1, 0] [49, 48, 47, 13, 12, 11, 10, 9, 7, 1, 0]
                                      ([AV.int IntKind.i64 0, AV.int IntKind.i64 (↑(Hdl.len h0) : Int), AV.slice h0, AV.int IntKind.i64 0, AV.int IntKind.i64 (-1), AV.int IntKind.i64 (-1), AV.int IntKind.i64 x14, AV.int IntKind.i64 x13, AV.ptr x10, AV.int IntKind.i64 i1, AV.slice h0], Prod.snd x8))
                                    (contF Try.prog Γ drawn k Try.f9 [1, 1, 1, 1, 1, 1, 1, 1, 0, 1, 0]) := by intros; kernel_rfl

theorem f9_L11111111010 : ∀ (Γ : Gam) (k : Nat) (σ : Store) (i16 i17 : Int) (h18 : Hdl) (i19 i20 i21 i22 i23 : Int) (p24 : Ptr) (i25 : Int) (h26 : Hdl),
  stepF Try.prog Γ drawn k Try.f9 [1, 1, 1, 1, 1, 1, 1, 1, 0, 1, 0] [49, 48, 47, 13, 12, 11, 10, 9, 7, 1, 0] ([AV.int IntKind.i64 i16, AV.int IntKind.i64 i17, AV.slice h18, AV.int IntKind.i64 i19, AV.int IntKind.i64 i20, AV.int IntKind.i64 i21, AV.int IntKind.i64 i22, AV.int IntKind.i64 i23, AV.ptr p24, AV.int IntKind.i64 i25, AV.slice h26], σ) =
    if decide (i16 < i17) = true then
      if 0 ≤ i16 ∧ i16 < (↑(Hdl.len h18) : Int) then
        Option.bind (Store.ldInt σ IntKind.i64 (Hdl.idx h18 i16 1)) fun x27 ↦
          if decide (x27 = i25) = true then
            if decide (i19 = i22) = true then some (Sum.inl ([AV.int IntKind.i64 (IntKind.wrap IntKind.i64 (i16 + 1)), AV.int IntKind.i64 i17, AV.slice h18, AV.int IntKind.i64 (IntKind.wrap IntKind.i64 (i19 + 1)), AV.int IntKind.i64 i16, AV.int IntKind.i64 i21, AV.int IntKind.i64 i22, AV.int IntKind.i64 i23, AV.ptr p24, AV.int IntKind.i64 i25, AV.slice h26], σ))
            else some (Sum.inl ([AV.int IntKind.i64 (IntKind.wrap IntKind.i64 (i16 + 1)), AV.int IntKind.i64 i17, AV.slice h18, AV.int IntKind.i64 (IntKind.wrap IntKind.i64 (i19 + 1)), AV.int IntKind.i64 i20, AV.int IntKind.i64 i21, AV.int IntKind.i64 i22, AV.int IntKind.i64 i23, AV.ptr p24, AV.int IntKind.i64 i25, AV.slice h26], σ))
          else some (Sum.inl ([AV.int IntKind.i64 (IntKind.wrap IntKind.i64 (i16 + 1)), AV.int IntKind.i64 i17, AV.slice h18, AV.int IntKind.i64 i19, AV.int IntKind.i64 i20, AV.int IntKind.i64 i21, AV.int IntKind.i64 i22, AV.int IntKind.i64 i23, AV.ptr p24, AV.int IntKind.i64 i25, AV.slice h26], σ))
      else none
    else some (Sum.inr (AX.exit 0, [(12, AV.int IntKind.i64 i20), (11, AV.int IntKind.i64 i21), (10, AV.int IntKind.i64 i22), (9, AV.int IntKind.i64 i23), (7, AV.ptr p24), (1, AV.int IntKind.i64 i25), (0, AV.slice h26)], σ)) := by intros; kernel_rfl

theorem f9_X11111111010_1 : ∀ (Γ : Gam) (k : Nat) (σ : Store) (i28 i29 i30 i31 : Int) (p32 : Ptr) (i33 : Int) (h34 : Hdl),
  contF Try.prog Γ drawn k Try.f9 [1, 1, 1, 1, 1, 1, 1, 1, 0, 1, 0] (AX.exit 0, [(12, AV.int IntKind.i64 i28), (11, AV.int IntKind.i64 i29), (10, AV.int IntKind.i64 i30), (9, AV.int IntKind.i64 i31), (7, AV.ptr p32), (1, AV.int IntKind.i64 i33), (0, AV.slice h34)], σ) =
    Option.bind (Γ (Fun.fn 34) [AV.ptr p32, AV.int IntKind.i64 i31] σ) fun x35 ↦
      Option.bind (AV.asInt IntKind.i64 (Prod.fst x35)) fun x36 ↦
        if decide (x36 = i29) = true then
          Option.bind (Γ (Fun.fn 35) [AV.ptr p32, AV.int IntKind.i64 i33, AV.int IntKind.i64 i31] (Prod.snd x35)) fun x37 ↦
            Option.bind (AV.asInt IntKind.i64 (Prod.fst x37)) fun x38 ↦
              Option.bind (Γ (Fun.fn 36) [AV.slice h34, AV.int IntKind.i64 i33, AV.int IntKind.i64 0, AV.int IntKind.i64 i31] (Prod.snd x37)) fun x39 ↦
                Option.bind (AV.asInt IntKind.i64 (Prod.fst x39)) fun x40 ↦ if decide (x38 = x40) = true then Option.bind (Γ (Fun.fn 37) [AV.ptr p32, AV.int IntKind.i64 i33, AV.int IntKind.i64 i30] (Prod.snd x39)) fun x41 ↦ Option.bind (AV.asInt IntKind.i64 (Prod.fst x41)) fun x42 ↦ some (AV.bool (decide (x42 = i28)), Prod.snd x41) else some (AV.bool false, Prod.snd x39)
        else some (AV.bool false, Prod.snd x35) := by intros; kernel_rfl

theorem f10_eq : ∀ (Γ : Gam) (k : Nat) (σ : Store) (h0 : Hdl) (i1 i2 i3 i4 : Int),
  evBody Try.prog Γ drawn k Try.f10 [AV.slice h0, AV.agg [AV.int IntKind.i64 i1, AV.int IntKind.i64 i2], AV.agg [AV.int IntKind.i64 i3, AV.int IntKind.i64 i4]] σ =
    Option.bind (Γ (Fun.fn 26) [] (Store.push (Store.push σ [AV.int IntKind.i64 i1, AV.int IntKind.i64 i2] 2) [AV.int IntKind.i64 i3, AV.int IntKind.i64 i4] 2)) fun x5 ↦
      Option.bind (AV.asBool (Prod.fst x5)) fun x6 ↦
        if (!x6) = true then some (AV.bool false, Prod.snd x5)
        else
          if decide (300 < (↑(Hdl.len h0) : Int)) = true then some (AV.bool true, Prod.snd x5)
          else
            Option.bind (Γ (Fun.fn 28) [AV.slice h0, AV.int IntKind.i64 300] (Prod.snd x5)) fun x7 ↦
              Option.bind (AV.asBool (Prod.fst x7)) fun x8 ↦
                if (!x8) = true then some (AV.bool true, Prod.snd x7)
                else
                  Option.bind (Γ (Fun.fn 27) [AV.slice h0, AV.int IntKind.i64 300] (Prod.snd x7)) fun x9 ↦
                    Option.bind (AV.item 0 2 (Prod.fst x9)) fun x10 ↦
                      Option.bind (AV.asPtr x10) fun x11 ↦
                        Option.bind (AV.item 1 2 (Prod.fst x9)) fun x12 ↦
                          Option.bind (AV.asBool x12) fun x13 ↦
                            Option.bind (Store.ldInt (Prod.snd x9) IntKind.i64 (Ptr.add (some (List.length (Store.objs σ), 0)) 0)) fun x14 ↦
                              Option.bind (Store.ldInt (Prod.snd x9) IntKind.i64 (Ptr.add (some (List.length (Store.objs σ), 0)) 1)) fun x15 ↦
                                Option.bind (Γ (Fun.fn 38) [AV.slice h0, AV.int IntKind.i64 x14, AV.int IntKind.i64 x15] (Prod.snd x9)) fun x16 ↦
                                  Option.bind (AV.asSl (Prod.fst x16)) fun x17 ↦
                                    Option.bind (Γ (Fun.fn 39) [AV.slice x17] (Prod.snd x16)) fun x18 ↦
                                      Option.bind (AV.asSl (Prod.fst x18)) fun x19 ↦
                                        Option.bind (Store.ldInt (Prod.snd x18) IntKind.i64 (Ptr.add (some (List.length (Store.objs (Store.push σ [AV.int IntKind.i64 i1, AV.int IntKind.i64 i2] 2)), 0)) 0)) fun x20 ↦
                                          Option.bind (Store.ldInt (Prod.snd x18) IntKind.i64 (Ptr.add (some (List.length (Store.objs (Store.push σ [AV.int IntKind.i64 i1, AV.int IntKind.i64 i2] 2)), 0)) 1)) fun x21 ↦
                                            if decide (0 ≤ x20) = true then
                                              if decide (x20 < (↑(Hdl.len x19) : Int)) = true then
                                                if 0 ≤ x20 ∧ x20 < (↑(Hdl.len x19) : Int) then
                                                  Option.bind (Store.ldInt (Prod.snd x18) IntKind.i64 (Hdl.idx x19 x20 1)) fun x22 ↦
                                                    Option.bind
                                                      (loopF Try.prog Γ drawn k Try.f10 [1, 1, 1, 1, 1, 1, 1, 1, 1, 1, 0, 1, 0] [58, 57, 56, 14, 13, 12, 11, 9, 7, 4]
                                                        ([AV.int IntKind.i64 0, AV.int IntKind.i64 (↑(Hdl.len x17) : Int), AV.slice x17, AV.int IntKind.i64 0, AV.int IntKind.i64 x22, AV.int IntKind.i64 x21, AV.int IntKind.i64 x20, AV.slice x17, AV.ptr x11, AV.ptr (some (List.length (Store.objs σ), 0))], Prod.snd x18))
                                                      (contF Try.prog Γ drawn k Try.f10 [1, 1, 1, 1, 1, 1, 1, 1, 1, 1, 0, 1, 0])
                                                else none
                                              else
                                                Option.bind
                                                  (loopF Try.prog Γ drawn k Try.f10 [1, 1, 1, 1, 1, 1, 1, 1, 1, 1, 0, 1, 0] [58, 57, 56, 14, 13, 12, 11, 9, 7, 4]
                                                    ([AV.int IntKind.i64 0, AV.int IntKind.i64 (↑(Hdl.len x17) : Int), AV.slice x17, AV.int IntKind.i64 0, AV.int IntKind.i64 (-1), AV.int IntKind.i64 x21, AV.int IntKind.i64 x20, AV.slice x17, AV.ptr x11, AV.ptr (some (List.length (Store.objs σ), 0))], Prod.snd x18))
                                                  (contF Try.prog Γ drawn k Try.f10 [1, 1, 1, 1, 1, 1, 1, 1, 1, 1, 0, 1, 0])
                                            else
                                              Option.bind
                                                (loopF Try.prog Γ drawn k Try.f10 [1, 1, 1, 1, 1, 1, 1, 1, 1, 1, 0, 1, 0] [58, 57, 56, 14, 13, 12, 11, 9, 7, 4]
                                                  ([AV.int IntKind.i64 0, AV.int IntKind.i64 (↑(Hdl.len x17) : Int), AV.slice x17, AV.int IntKind.i64 0, AV.int IntKind.i64 (-1), AV.int IntKind.i64 x21, AV.int IntKind.i64 x20, AV.slice x17, AV.ptr x11, AV.ptr (some (List.length (Store.objs σ), 0))], Prod.snd x18))
                                                (contF Try.prog Γ drawn k Try.f10 [1, 1, 1, 1, 1, 1, 1, 1, 1, 1, 0, 1, 0]) := by intros; kernel_rfl

theorem f10_L1111111111010 : ∀ (Γ : Gam) (k : Nat) (σ : Store) (i23 i24 : Int) (h25 : Hdl) (i26 i27 i28 i29 : Int) (h30 : Hdl) (p31 p32 : Ptr),
  stepF Try.prog Γ drawn k Try.f10 [1, 1, 1, 1, 1, 1, 1, 1, 1, 1, 0, 1, 0] [58, 57, 56, 14, 13, 12, 11, 9, 7, 4] ([AV.int IntKind.i64 i23, AV.int IntKind.i64 i24, AV.slice h25, AV.int IntKind.i64 i26, AV.int IntKind.i64 i27, AV.int IntKind.i64 i28, AV.int IntKind.i64 i29, AV.slice h30, AV.ptr p31, AV.ptr p32], σ) =
    if decide (i23 < i24) = true then
      if 0 ≤ i23 ∧ i23 < (↑(Hdl.len h25) : Int) then
        Option.bind (Store.ldInt σ IntKind.i64 (Hdl.idx h25 i23 1)) fun x33 ↦
          if decide (x33 < i28) = true then some (Sum.inl ([AV.int IntKind.i64 (IntKind.wrap IntKind.i64 (i23 + 1)), AV.int IntKind.i64 i24, AV.slice h25, AV.int IntKind.i64 (IntKind.wrap IntKind.i64 (i26 + 1)), AV.int IntKind.i64 i27, AV.int IntKind.i64 i28, AV.int IntKind.i64 i29, AV.slice h30, AV.ptr p31, AV.ptr p32], σ))
          else some (Sum.inl ([AV.int IntKind.i64 (IntKind.wrap IntKind.i64 (i23 + 1)), AV.int IntKind.i64 i24, AV.slice h25, AV.int IntKind.i64 i26, AV.int IntKind.i64 i27, AV.int IntKind.i64 i28, AV.int IntKind.i64 i29, AV.slice h30, AV.ptr p31, AV.ptr p32], σ))
      else none
    else some (Sum.inr (AX.exit 0, [(14, AV.int IntKind.i64 i26), (13, AV.int IntKind.i64 i27), (12, AV.int IntKind.i64 i28), (11, AV.int IntKind.i64 i29), (9, AV.slice h30), (7, AV.ptr p31), (4, AV.ptr p32)], σ)) := by intros; kernel_rfl

theorem f10_X1111111111010_1 : ∀ (Γ : Gam) (k : Nat) (σ : Store) (i34 i35 i36 i37 : Int) (h38 : Hdl) (p39 p40 : Ptr),
  contF Try.prog Γ drawn k Try.f10 [1, 1, 1, 1, 1, 1, 1, 1, 1, 1, 0, 1, 0] (AX.exit 0, [(14, AV.int IntKind.i64 i34), (13, AV.int IntKind.i64 i35), (12, AV.int IntKind.i64 i36), (11, AV.int IntKind.i64 i37), (9, AV.slice h38), (7, AV.ptr p39), (4, AV.ptr p40)], σ) =
    Option.bind p40 fun x41 ↦
      Option.bind (Store.ldInt σ IntKind.i64 (Ptr.add (some x41) 0)) fun x42 ↦
        Option.bind p40 fun x43 ↦
          Option.bind (Store.ldInt σ IntKind.i64 (Ptr.add (some x43) 1)) fun x44 ↦
            Option.bind (Γ (Fun.fn 40) [AV.ptr p39, AV.int IntKind.i64 x42, AV.int IntKind.i64 x44, AV.int IntKind.i64 i37] σ) fun x45 ↦
              Option.bind (AV.asInt IntKind.i64 (Prod.fst x45)) fun x46 ↦
                if decide (x46 = i35) = true then
                  Option.bind p40 fun x47 ↦
                    Option.bind (Store.ldInt (Prod.snd x45) IntKind.i64 (Ptr.add (some x47) 0)) fun x48 ↦
                      Option.bind p40 fun x49 ↦
                        Option.bind (Store.ldInt (Prod.snd x45) IntKind.i64 (Ptr.add (some x49) 1)) fun x50 ↦
                          Option.bind (Γ (Fun.fn 41) [AV.ptr p39, AV.int IntKind.i64 x48, AV.int IntKind.i64 x50, AV.int IntKind.i64 i36] (Prod.snd x45)) fun x51 ↦
                            Option.bind (AV.asInt IntKind.i64 (Prod.fst x51)) fun x52 ↦
                              if decide (x52 = i34) = true then
                                Option.bind p40 fun x53 ↦
                                  Option.bind (Store.ldInt (Prod.snd x51) IntKind.i64 (Ptr.add (some x53) 0)) fun x54 ↦
                                    Option.bind p40 fun x55 ↦
                                      Option.bind (Store.ldInt (Prod.snd x51) IntKind.i64 (Ptr.add (some x55) 1)) fun x56 ↦
                                        Option.bind (Γ (Fun.fn 43) [AV.ptr p39, AV.int IntKind.i64 x54, AV.int IntKind.i64 x56] (Prod.snd x51)) fun x57 ↦
                                          Option.bind (AV.asSl (Prod.fst x57)) fun x58 ↦ Option.bind (Γ (Fun.fn 44) [AV.slice h38] (Prod.snd x57)) fun x59 ↦ Option.bind (AV.asSl (Prod.fst x59)) fun x60 ↦ Option.bind (Γ (Fun.fn 42) [AV.slice x58, AV.slice x60] (Prod.snd x59)) fun x61 ↦ Option.bind (AV.asBool (Prod.fst x61)) fun x62 ↦ some (AV.bool x62, Prod.snd x61)
                              else some (AV.bool false, Prod.snd x51)
                else some (AV.bool false, Prod.snd x45) := by intros; kernel_rfl

theorem f12_eq : ∀ (Γ : Gam) (k : Nat) (σ : Store) (h0 : Hdl) (i1 i2 : Int),
  evBody Try.prog Γ drawn k Try.f12 [AV.slice h0, AV.agg [AV.int IntKind.i64 i1, AV.int IntKind.i64 i2]] σ =
    Option.bind (Γ (Fun.fn 26) [] (Store.push σ [AV.int IntKind.i64 i1, AV.int IntKind.i64 i2] 2)) fun x3 ↦
      Option.bind (AV.asBool (Prod.fst x3)) fun x4 ↦
        if (!x4) = true then some (AV.bool false, Prod.snd x3)
        else
          if decide (200 < (↑(Hdl.len h0) : Int)) = true then some (AV.bool true, Prod.snd x3)
          else
            Option.bind (Γ (Fun.fn 28) [AV.slice h0, AV.int IntKind.i64 300] (Prod.snd x3)) fun x5 ↦
              Option.bind (AV.asBool (Prod.fst x5)) fun x6 ↦
                if (!x6) = true then some (AV.bool true, Prod.snd x5)
                else
                  Option.bind (Γ (Fun.fn 27) [AV.slice h0, AV.int IntKind.i64 300] (Prod.snd x5)) fun x7 ↦
                    Option.bind (AV.item 0 2 (Prod.fst x7)) fun x8 ↦
                      Option.bind (AV.asPtr x8) fun x9 ↦
                        Option.bind (AV.item 1 2 (Prod.fst x7)) fun x10 ↦
                          Option.bind (AV.asBool x10) fun x11 ↦
                            Option.bind (Store.ldInt (Prod.snd x7) IntKind.i64 (Ptr.add (some (List.length (Store.objs σ), 0)) 0)) fun x12 ↦
                              Option.bind (Store.ldInt (Prod.snd x7) IntKind.i64 (Ptr.add (some (List.length (Store.objs σ), 0)) 1)) fun x13 ↦
                                Option.bind
                                  (loopF Try.prog Γ drawn k Try.f12 [1, 1, 1, 1, 1, 1, 1, 0, 1, 0] [44, 43, 10, 9, 8, 7, 5]
                                    ([AV.int IntKind.i64 0, AV.int IntKind.i64 (IntKind.wrap IntKind.i64 (mx2 (mx2 (Int.ofNat 0) (mn2 x12 (↑(Hdl.len h0) : Int))) (mn2 x13 (↑(Hdl.len h0) : Int)) - mx2 (Int.ofNat 0) (mn2 x12 (↑(Hdl.len h0) : Int)))), AV.int IntKind.i64 0, AV.int IntKind.i64 (-1),
                                        AV.int IntKind.i64 (mx2 (mx2 (Int.ofNat 0) (mn2 x12 (↑(Hdl.len h0) : Int))) (mn2 x13 (↑(Hdl.len h0) : Int))), AV.int IntKind.i64 (mx2 (Int.ofNat 0) (mn2 x12 (↑(Hdl.len h0) : Int))), AV.ptr x9],
                                      Prod.snd x7))
                                  (contF Try.prog Γ drawn k Try.f12 [1, 1, 1, 1, 1, 1, 1, 0, 1, 0]) := by intros; kernel_rfl

theorem f12_L1111111010 : ∀ (Γ : Gam) (k : Nat) (σ : Store) (i14 i15 i16 i17 i18 i19 : Int) (p20 : Ptr),
  stepF Try.prog Γ drawn k Try.f12 [1, 1, 1, 1, 1, 1, 1, 0, 1, 0] [44, 43, 10, 9, 8, 7, 5] ([AV.int IntKind.i64 i14, AV.int IntKind.i64 i15, AV.int IntKind.i64 i16, AV.int IntKind.i64 i17, AV.int IntKind.i64 i18, AV.int IntKind.i64 i19, AV.ptr p20], σ) =
    if decide (i14 < i15) = true then
      Option.bind (Γ (Fun.fn 40) [AV.ptr p20, AV.int IntKind.i64 i19, AV.int IntKind.i64 i18, AV.int IntKind.i64 i14] σ) fun x21 ↦
        Option.bind (AV.asInt IntKind.i64 (Prod.fst x21)) fun x22 ↦
          if decide (x22 < i17) = true then some (Sum.inr (AX.ret, [(4, AV.bool false)], Prod.snd x21))
          else
            if decide (i17 < x22) = true then
              Option.bind (Γ (Fun.fn 41) [AV.ptr p20, AV.int IntKind.i64 i19, AV.int IntKind.i64 i18, AV.int IntKind.i64 x22] (Prod.snd x21)) fun x23 ↦
                Option.bind (AV.asInt IntKind.i64 (Prod.fst x23)) fun x24 ↦
                  if decide (x24 ≠ i14) = true then some (Sum.inr (AX.ret, [(4, AV.bool false)], Prod.snd x23))
                  else
                    Option.bind (Γ (Fun.fn 35) [AV.ptr p20, AV.int IntKind.i64 x22, AV.int IntKind.i64 i18] (Prod.snd x23)) fun x25 ↦
                      Option.bind (AV.asInt IntKind.i64 (Prod.fst x25)) fun x26 ↦
                        Option.bind (Γ (Fun.fn 35) [AV.ptr p20, AV.int IntKind.i64 x22, AV.int IntKind.i64 i19] (Prod.snd x25)) fun x27 ↦
                          Option.bind (AV.asInt IntKind.i64 (Prod.fst x27)) fun x28 ↦
                            if decide (x26 = x28) = true then some (Sum.inr (AX.ret, [(4, AV.bool false)], Prod.snd x27)) else some (Sum.inl ([AV.int IntKind.i64 (IntKind.wrap IntKind.i64 (i14 + 1)), AV.int IntKind.i64 i15, AV.int IntKind.i64 i14, AV.int IntKind.i64 x22, AV.int IntKind.i64 i18, AV.int IntKind.i64 i19, AV.ptr p20], Prod.snd x27))
            else
              Option.bind (Γ (Fun.fn 41) [AV.ptr p20, AV.int IntKind.i64 i19, AV.int IntKind.i64 i18, AV.int IntKind.i64 x22] (Prod.snd x21)) fun x29 ↦
                Option.bind (AV.asInt IntKind.i64 (Prod.fst x29)) fun x30 ↦
                  if decide (x30 ≠ i16) = true then some (Sum.inr (AX.ret, [(4, AV.bool false)], Prod.snd x29))
                  else
                    Option.bind (Γ (Fun.fn 35) [AV.ptr p20, AV.int IntKind.i64 x22, AV.int IntKind.i64 i18] (Prod.snd x29)) fun x31 ↦
                      Option.bind (AV.asInt IntKind.i64 (Prod.fst x31)) fun x32 ↦
                        Option.bind (Γ (Fun.fn 35) [AV.ptr p20, AV.int IntKind.i64 x22, AV.int IntKind.i64 i19] (Prod.snd x31)) fun x33 ↦
                          Option.bind (AV.asInt IntKind.i64 (Prod.fst x33)) fun x34 ↦
                            if decide (x32 = x34) = true then some (Sum.inr (AX.ret, [(4, AV.bool false)], Prod.snd x33)) else some (Sum.inl ([AV.int IntKind.i64 (IntKind.wrap IntKind.i64 (i14 + 1)), AV.int IntKind.i64 i15, AV.int IntKind.i64 i16, AV.int IntKind.i64 x22, AV.int IntKind.i64 i18, AV.int IntKind.i64 i19, AV.ptr p20], Prod.snd x33))
    else some (Sum.inr (AX.exit 0, [(8, AV.int IntKind.i64 i18), (7, AV.int IntKind.i64 i19), (5, AV.ptr p20)], σ)) := by intros; kernel_rfl

theorem f12_X1111111010_2 : ∀ (Γ : Gam) (k : Nat) (σ : Store) (i36 i37 : Int) (p38 : Ptr),
  contF Try.prog Γ drawn k Try.f12 [1, 1, 1, 1, 1, 1, 1, 0, 1, 0] (AX.exit 0, [(8, AV.int IntKind.i64 i36), (7, AV.int IntKind.i64 i37), (5, AV.ptr p38)], σ) =
    Option.bind (Γ (Fun.fn 40) [AV.ptr p38, AV.int IntKind.i64 i37, AV.int IntKind.i64 i36, AV.int IntKind.i64 (IntKind.wrap IntKind.i64 (i36 - i37))] σ) fun x39 ↦
      Option.bind (AV.asInt IntKind.i64 (Prod.fst x39)) fun x40 ↦
        if decide (x40 = -1) = true then Option.bind (Γ (Fun.fn 41) [AV.ptr p38, AV.int IntKind.i64 i37, AV.int IntKind.i64 i36, AV.int IntKind.i64 301] (Prod.snd x39)) fun x41 ↦ Option.bind (AV.asInt IntKind.i64 (Prod.fst x41)) fun x42 ↦ some (AV.bool (decide (x42 = IntKind.wrap IntKind.i64 (i36 - i37))), Prod.snd x41) else some (AV.bool false, Prod.snd x39) := by intros; kernel_rfl

theorem f13_eq : ∀ (Γ : Gam) (k : Nat) (σ : Store) (h0 : Hdl) (i1 i2 i3 i4 : Int),
  evBody Try.prog Γ drawn k Try.f13 [AV.slice h0, AV.agg [AV.int IntKind.i64 i1, AV.int IntKind.i64 i2, AV.int IntKind.i64 i3], AV.int IntKind.i64 i4] σ =
    Option.bind (Γ (Fun.fn 26) [] (Store.push σ [AV.int IntKind.i64 i1, AV.int IntKind.i64 i2, AV.int IntKind.i64 i3] 3)) fun x5 ↦
      Option.bind (AV.asBool (Prod.fst x5)) fun x6 ↦
        if (!x6) = true then some (AV.bool false, Prod.snd x5)
        else
          if decide (300 < (↑(Hdl.len h0) : Int)) = true then some (AV.bool true, Prod.snd x5)
          else
            Option.bind (Γ (Fun.fn 28) [AV.slice h0, AV.int IntKind.i64 300] (Prod.snd x5)) fun x7 ↦
              Option.bind (AV.asBool (Prod.fst x7)) fun x8 ↦
                if (!x8) = true then some (AV.bool true, Prod.snd x7)
                else
                  Option.bind (Γ (Fun.fn 27) [AV.slice h0, AV.int IntKind.i64 300] (Prod.snd x7)) fun x9 ↦
                    Option.bind (AV.item 0 2 (Prod.fst x9)) fun x10 ↦
                      Option.bind (AV.asPtr x10) fun x11 ↦
                        Option.bind (AV.item 1 2 (Prod.fst x9)) fun x12 ↦
                          Option.bind (AV.asBool x12) fun x13 ↦
                            Option.bind (Store.ldInt (Prod.snd x9) IntKind.i64 (Ptr.add (some (List.length (Store.objs σ), 0)) 0)) fun x14 ↦
                              if IntKind.wrap IntKind.u64 (IntKind.wrap IntKind.i64 ((↑(Hdl.len h0) : Int) + 1)) = 0 then none
                              else
                                Option.bind (Store.ldInt (Prod.snd x9) IntKind.i64 (Ptr.add (some (List.length (Store.objs σ), 0)) 1)) fun x15 ↦
                                  if IntKind.wrap IntKind.u64 (IntKind.wrap IntKind.i64 ((↑(Hdl.len h0) : Int) + 1)) = 0 then none
                                  else
                                    Option.bind (Store.ldInt (Prod.snd x9) IntKind.i64 (Ptr.add (some (List.length (Store.objs σ), 0)) 2)) fun x16 ↦
                                      if IntKind.wrap IntKind.u64 (IntKind.wrap IntKind.i64 ((↑(Hdl.len h0) : Int) + 1)) = 0 then none
                                      else
                                        Option.bind
                                          (Γ (Fun.fn 43)
                                            [AV.ptr x11, AV.int IntKind.i64 (mn2 (IntKind.wrap IntKind.i64 (Int.tmod (IntKind.wrap IntKind.u64 x14) (IntKind.wrap IntKind.u64 (IntKind.wrap IntKind.i64 ((↑(Hdl.len h0) : Int) + 1))))) (IntKind.wrap IntKind.i64 (Int.tmod (IntKind.wrap IntKind.u64 x16) (IntKind.wrap IntKind.u64 (IntKind.wrap IntKind.i64 ((↑(Hdl.len h0) : Int) + 1)))))),
                                              AV.int IntKind.i64 (mx2 (IntKind.wrap IntKind.i64 (Int.tmod (IntKind.wrap IntKind.u64 x14) (IntKind.wrap IntKind.u64 (IntKind.wrap IntKind.i64 ((↑(Hdl.len h0) : Int) + 1))))) (IntKind.wrap IntKind.i64 (Int.tmod (IntKind.wrap IntKind.u64 x16) (IntKind.wrap IntKind.u64 (IntKind.wrap IntKind.i64 ((↑(Hdl.len h0) : Int) + 1))))))]
                                            (Prod.snd x9))
                                          fun x17 ↦
                                          Option.bind (AV.asSl (Prod.fst x17)) fun x18 ↦
                                            Option.bind
                                              (loopF Try.prog Γ drawn k Try.f13 [1, 1, 1, 1, 1, 1, 1, 1, 1, 0, 1, 0] [69, 68, 67, 13, 12, 11, 10, 7, 2]
                                                ([AV.int IntKind.i64 0, AV.int IntKind.i64 (↑(Hdl.len x18) : Int), AV.slice x18, AV.int IntKind.i64 0,
                                                    AV.int IntKind.i64 (mx2 (IntKind.wrap IntKind.i64 (Int.tmod (IntKind.wrap IntKind.u64 x14) (IntKind.wrap IntKind.u64 (IntKind.wrap IntKind.i64 ((↑(Hdl.len h0) : Int) + 1))))) (IntKind.wrap IntKind.i64 (Int.tmod (IntKind.wrap IntKind.u64 x16) (IntKind.wrap IntKind.u64 (IntKind.wrap IntKind.i64 ((↑(Hdl.len h0) : Int) + 1)))))),
                                                    AV.int IntKind.i64
                                                      (mx2 (mn2 (IntKind.wrap IntKind.i64 (Int.tmod (IntKind.wrap IntKind.u64 x14) (IntKind.wrap IntKind.u64 (IntKind.wrap IntKind.i64 ((↑(Hdl.len h0) : Int) + 1))))) (IntKind.wrap IntKind.i64 (Int.tmod (IntKind.wrap IntKind.u64 x16) (IntKind.wrap IntKind.u64 (IntKind.wrap IntKind.i64 ((↑(Hdl.len h0) : Int) + 1))))))
                                                        (mn2 (IntKind.wrap IntKind.i64 (Int.tmod (IntKind.wrap IntKind.u64 x15) (IntKind.wrap IntKind.u64 (IntKind.wrap IntKind.i64 ((↑(Hdl.len h0) : Int) + 1)))))
                                                          (mx2 (IntKind.wrap IntKind.i64 (Int.tmod (IntKind.wrap IntKind.u64 x14) (IntKind.wrap IntKind.u64 (IntKind.wrap IntKind.i64 ((↑(Hdl.len h0) : Int) + 1))))) (IntKind.wrap IntKind.i64 (Int.tmod (IntKind.wrap IntKind.u64 x16) (IntKind.wrap IntKind.u64 (IntKind.wrap IntKind.i64 ((↑(Hdl.len h0) : Int) + 1)))))))),
                                                    AV.int IntKind.i64 (mn2 (IntKind.wrap IntKind.i64 (Int.tmod (IntKind.wrap IntKind.u64 x14) (IntKind.wrap IntKind.u64 (IntKind.wrap IntKind.i64 ((↑(Hdl.len h0) : Int) + 1))))) (IntKind.wrap IntKind.i64 (Int.tmod (IntKind.wrap IntKind.u64 x16) (IntKind.wrap IntKind.u64 (IntKind.wrap IntKind.i64 ((↑(Hdl.len h0) : Int) + 1)))))), AV.ptr x11,
                                                    AV.int IntKind.i64 i4],
                                                  Prod.snd x17))
                                              (contF Try.prog Γ drawn k Try.f13 [1, 1, 1, 1, 1, 1, 1, 1, 1, 0, 1, 0]) := by intros; kernel_rfl

theorem f13_L111111111010 : ∀ (Γ : Gam) (k : Nat) (σ : Store) (i19 i20 : Int) (h21 : Hdl) (i22 i23 i24 i25 : Int) (p26 : Ptr) (i27 : Int),
  stepF Try.prog Γ drawn k Try.f13 [1, 1, 1, 1, 1, 1, 1, 1, 1, 0, 1, 0] [69, 68, 67, 13, 12, 11, 10, 7, 2] ([AV.int IntKind.i64 i19, AV.int IntKind.i64 i20, AV.slice h21, AV.int IntKind.i64 i22, AV.int IntKind.i64 i23, AV.int IntKind.i64 i24, AV.int IntKind.i64 i25, AV.ptr p26, AV.int IntKind.i64 i27], σ) =
    if decide (i19 < i20) = true then
      if 0 ≤ i19 ∧ i19 < (↑(Hdl.len h21) : Int) then
        Option.bind (Store.ldInt σ IntKind.i64 (Ptr.add (Hdl.idx h21 i19 2) 0)) fun x28 ↦
          Option.bind (Store.ldInt σ IntKind.i64 (Ptr.add (Hdl.idx h21 i19 2) 1)) fun x29 ↦
            Option.bind (Store.stL (Store.push σ [AV.int IntKind.i64 0, AV.int IntKind.i64 0] 2) (some (List.length (Store.objs σ), 0)) [AV.int IntKind.i64 x28, AV.int IntKind.i64 x29] 0) fun x30 ↦
              Option.bind (Store.ldInt x30 IntKind.i64 (Ptr.add (some (List.length (Store.objs σ), 0)) 1)) fun x31 ↦
                Option.bind (Store.ldInt x30 IntKind.i64 (Ptr.add (some (List.length (Store.objs σ), 0)) 0)) fun x32 ↦
                  Option.bind (callG Γ true (Fun.fn 35) [AV.ptr p26, AV.int IntKind.i64 x32, AV.int IntKind.i64 i23] x30) fun x33 ↦
                    Option.bind (AV.asInt IntKind.i64 (Prod.fst x33)) fun x34 ↦
                      Option.bind (Store.ldInt (Prod.snd x33) IntKind.i64 (Ptr.add (some (List.length (Store.objs σ), 0)) 0)) fun x35 ↦
                        Option.bind (callG Γ true (Fun.fn 35) [AV.ptr p26, AV.int IntKind.i64 x35, AV.int IntKind.i64 i25] (Prod.snd x33)) fun x36 ↦
                          Option.bind (AV.asInt IntKind.i64 (Prod.fst x36)) fun x37 ↦
                            if decide (x31 ≠ IntKind.wrap IntKind.i64 (x34 - x37)) = true then some (Sum.inr (AX.ret, [(6, AV.bool false)], Prod.snd x36))
                            else
                              Option.bind (Store.ldInt (Prod.snd x36) IntKind.i64 (Ptr.add (some (List.length (Store.objs σ), 0)) 1)) fun x38 ↦
                                some (Sum.inl ([AV.int IntKind.i64 (IntKind.wrap IntKind.i64 (i19 + 1)), AV.int IntKind.i64 i20, AV.slice h21, AV.int IntKind.i64 (IntKind.wrap IntKind.i64 (i22 + x38)), AV.int IntKind.i64 i23, AV.int IntKind.i64 i24, AV.int IntKind.i64 i25, AV.ptr p26, AV.int IntKind.i64 i27], Prod.snd x36))
      else none
    else some (Sum.inr (AX.exit 0, [(13, AV.int IntKind.i64 i22), (12, AV.int IntKind.i64 i23), (11, AV.int IntKind.i64 i24), (10, AV.int IntKind.i64 i25), (7, AV.ptr p26), (2, AV.int IntKind.i64 i27)], σ)) := by intros; kernel_rfl

theorem f13_X111111111010_2 : ∀ (Γ : Gam) (k : Nat) (σ : Store) (i40 i41 i42 i43 : Int) (p44 : Ptr) (i45 : Int),
  contF Try.prog Γ drawn k Try.f13 [1, 1, 1, 1, 1, 1, 1, 1, 1, 0, 1, 0] (AX.exit 0, [(13, AV.int IntKind.i64 i40), (12, AV.int IntKind.i64 i41), (11, AV.int IntKind.i64 i42), (10, AV.int IntKind.i64 i43), (7, AV.ptr p44), (2, AV.int IntKind.i64 i45)], σ) =
    Option.bind (Γ (Fun.fn 41) [AV.ptr p44, AV.int IntKind.i64 i43, AV.int IntKind.i64 i41, AV.int IntKind.i64 i45] σ) fun x46 ↦
      Option.bind (AV.asInt IntKind.i64 (Prod.fst x46)) fun x47 ↦
        Option.bind (Γ (Fun.fn 41) [AV.ptr p44, AV.int IntKind.i64 i43, AV.int IntKind.i64 i42, AV.int IntKind.i64 i45] (Prod.snd x46)) fun x48 ↦
          Option.bind (AV.asInt IntKind.i64 (Prod.fst x48)) fun x49 ↦
            Option.bind (Γ (Fun.fn 41) [AV.ptr p44, AV.int IntKind.i64 i42, AV.int IntKind.i64 i41, AV.int IntKind.i64 i45] (Prod.snd x48)) fun x50 ↦ Option.bind (AV.asInt IntKind.i64 (Prod.fst x50)) fun x51 ↦ if decide (x47 = IntKind.wrap IntKind.i64 (x49 + x51)) = true then some (AV.bool (decide (i40 = IntKind.wrap IntKind.i64 (i41 - i43))), Prod.snd x50) else some (AV.bool false, Prod.snd x50) := by intros; kernel_rfl

theorem f14_eq : ∀ (Γ : Gam) (k : Nat) (σ : Store) (h0 : Hdl) (i1 i2 i3 : Int),
  evBody Try.prog Γ drawn k Try.f14 [AV.slice h0, AV.agg [AV.int IntKind.i64 i1, AV.int IntKind.i64 i2], AV.int IntKind.i64 i3] σ =
    Option.bind (Γ (Fun.fn 26) [] (Store.push σ [AV.int IntKind.i64 i1, AV.int IntKind.i64 i2] 2)) fun x4 ↦
      Option.bind (AV.asBool (Prod.fst x4)) fun x5 ↦
        if (!x5) = true then some (AV.bool false, Prod.snd x4)
        else
          if decide (200 < (↑(Hdl.len h0) : Int)) = true then some (AV.bool true, Prod.snd x4)
          else
            Option.bind (Γ (Fun.fn 28) [AV.slice h0, AV.int IntKind.i64 20] (Prod.snd x4)) fun x6 ↦
              Option.bind (AV.asBool (Prod.fst x6)) fun x7 ↦
                if (!x7) = true then some (AV.bool true, Prod.snd x6)
                else
                  Option.bind (Γ (Fun.fn 27) [AV.slice h0, AV.int IntKind.i64 20] (Prod.snd x6)) fun x8 ↦
                    Option.bind (AV.item 0 2 (Prod.fst x8)) fun x9 ↦
                      Option.bind (AV.asPtr x9) fun x10 ↦
                        Option.bind (AV.item 1 2 (Prod.fst x8)) fun x11 ↦
                          Option.bind (AV.asBool x11) fun x12 ↦
                            Option.bind (Γ (Fun.fn 27) [AV.slice h0, AV.int IntKind.i64 4000] (Prod.snd x8)) fun x13 ↦
                              Option.bind (AV.item 0 2 (Prod.fst x13)) fun x14 ↦
                                Option.bind (AV.asPtr x14) fun x15 ↦
                                  Option.bind (AV.item 1 2 (Prod.fst x13)) fun x16 ↦
                                    Option.bind (AV.asBool x16) fun x17 ↦
                                      Option.bind (Γ (Fun.fn 30) [AV.ptr x10] (Prod.snd x13)) fun x18 ↦
                                        Option.bind (AV.asSl (Prod.fst x18)) fun x19 ↦
                                          if decide ((↑(Hdl.len x19) : Int) = 5) = true then
                                            Option.bind (Γ (Fun.fn 30) [AV.ptr x15] (Prod.snd x18)) fun x20 ↦
                                              Option.bind (AV.asSl (Prod.fst x20)) fun x21 ↦
                                                if decide ((↑(Hdl.len x21) : Int) = 12) = true then
                                                  Option.bind (Store.ldInt (Prod.snd x20) IntKind.i64 (Ptr.add (some (List.length (Store.objs σ), 0)) 0)) fun x22 ↦
                                                    Option.bind (callG Γ true (Fun.fn 34) [AV.ptr x10, AV.int IntKind.i64 x22] (Prod.snd x20)) fun x23 ↦
                                                      Option.bind (AV.asInt IntKind.i64 (Prod.fst x23)) fun x24 ↦
                                                        Option.bind (Store.ldInt (Prod.snd x23) IntKind.i64 (Ptr.add (some (List.length (Store.objs σ), 0)) 0)) fun x25 ↦
                                                          Option.bind (Γ (Fun.fn 34) [AV.ptr x15, AV.int IntKind.i64 x25] (Prod.snd x23)) fun x26 ↦
                                                            Option.bind (AV.asInt IntKind.i64 (Prod.fst x26)) fun x27 ↦
                                                              if decide (x24 = x27) = true then
                                                                Option.bind (Store.ldInt (Prod.snd x26) IntKind.i64 (Ptr.add (some (List.length (Store.objs σ), 0)) 0)) fun x28 ↦
                                                                  Option.bind (Store.ldInt (Prod.snd x26) IntKind.i64 (Ptr.add (some (List.length (Store.objs σ), 0)) 1)) fun x29 ↦
                                                                    Option.bind (callG Γ true (Fun.fn 41) [AV.ptr x10, AV.int IntKind.i64 x28, AV.int IntKind.i64 x29, AV.int IntKind.i64 i3] (Prod.snd x26)) fun x30 ↦
                                                                      Option.bind (AV.asInt IntKind.i64 (Prod.fst x30)) fun x31 ↦
                                                                        Option.bind (Store.ldInt (Prod.snd x30) IntKind.i64 (Ptr.add (some (List.length (Store.objs σ), 0)) 0)) fun x32 ↦
                                                                          Option.bind (Store.ldInt (Prod.snd x30) IntKind.i64 (Ptr.add (some (List.length (Store.objs σ), 0)) 1)) fun x33 ↦
                                                                            Option.bind (Γ (Fun.fn 41) [AV.ptr x15, AV.int IntKind.i64 x32, AV.int IntKind.i64 x33, AV.int IntKind.i64 i3] (Prod.snd x30)) fun x34 ↦
                                                                              Option.bind (AV.asInt IntKind.i64 (Prod.fst x34)) fun x35 ↦
                                                                                if decide (x31 = x35) = true then
                                                                                  Option.bind (Store.ldInt (Prod.snd x34) IntKind.i64 (Ptr.add (some (List.length (Store.objs σ), 0)) 0)) fun x36 ↦
                                                                                    Option.bind (Store.ldInt (Prod.snd x34) IntKind.i64 (Ptr.add (some (List.length (Store.objs σ), 0)) 1)) fun x37 ↦
                                                                                      Option.bind (callG Γ true (Fun.fn 40) [AV.ptr x10, AV.int IntKind.i64 x36, AV.int IntKind.i64 x37, AV.int IntKind.i64 i3] (Prod.snd x34)) fun x38 ↦
                                                                                        Option.bind (AV.asInt IntKind.i64 (Prod.fst x38)) fun x39 ↦
                                                                                          Option.bind (Store.ldInt (Prod.snd x38) IntKind.i64 (Ptr.add (some (List.length (Store.objs σ), 0)) 0)) fun x40 ↦
                                                                                            Option.bind (Store.ldInt (Prod.snd x38) IntKind.i64 (Ptr.add (some (List.length (Store.objs σ), 0)) 1)) fun x41 ↦
                                                                                              Option.bind (Γ (Fun.fn 40) [AV.ptr x15, AV.int IntKind.i64 x40, AV.int IntKind.i64 x41, AV.int IntKind.i64 i3] (Prod.snd x38)) fun x42 ↦
                                                                                                Option.bind (AV.asInt IntKind.i64 (Prod.fst x42)) fun x43 ↦
                                                                                                  if decide (x39 = x43) = true then
                                                                                                    Option.bind (Store.ldInt (Prod.snd x42) IntKind.i64 (Ptr.add (some (List.length (Store.objs σ), 0)) 0)) fun x44 ↦
                                                                                                      Option.bind (Store.ldInt (Prod.snd x42) IntKind.i64 (Ptr.add (some (List.length (Store.objs σ), 0)) 1)) fun x45 ↦
                                                                                                        Option.bind (callG Γ true (Fun.fn 43) [AV.ptr x10, AV.int IntKind.i64 x44, AV.int IntKind.i64 x45] (Prod.snd x42)) fun x46 ↦
                                                                                                          Option.bind (AV.asSl (Prod.fst x46)) fun x47 ↦
                                                                                                            Option.bind (Store.ldInt (Prod.snd x46) IntKind.i64 (Ptr.add (some (List.length (Store.objs σ), 0)) 0)) fun x48 ↦
                                                                                                              Option.bind (Store.ldInt (Prod.snd x46) IntKind.i64 (Ptr.add (some (List.length (Store.objs σ), 0)) 1)) fun x49 ↦
                                                                                                                Option.bind (Γ (Fun.fn 43) [AV.ptr x15, AV.int IntKind.i64 x48, AV.int IntKind.i64 x49] (Prod.snd x46)) fun x50 ↦
                                                                                                                  Option.bind (AV.asSl (Prod.fst x50)) fun x51 ↦
                                                                                                                    Option.bind (Γ (Fun.fn 42) [AV.slice x47, AV.slice x51] (Prod.snd x50)) fun x52 ↦
                                                                                                                      Option.bind (AV.asBool (Prod.fst x52)) fun x53 ↦
                                                                                                                        if x53 = true then
                                                                                                                          Option.bind (Store.ldInt (Prod.snd x52) IntKind.i64 (Ptr.add (some (List.length (Store.objs σ), 0)) 0)) fun x54 ↦
                                                                                                                            Option.bind (callG Γ true (Fun.fn 37) [AV.ptr x10, AV.int IntKind.i64 i3, AV.int IntKind.i64 x54] (Prod.snd x52)) fun x55 ↦
                                                                                                                              Option.bind (AV.asInt IntKind.i64 (Prod.fst x55)) fun x56 ↦
                                                                                                                                Option.bind (Store.ldInt (Prod.snd x55) IntKind.i64 (Ptr.add (some (List.length (Store.objs σ), 0)) 0)) fun x57 ↦
                                                                                                                                  Option.bind (Γ (Fun.fn 37) [AV.ptr x15, AV.int IntKind.i64 i3, AV.int IntKind.i64 x57] (Prod.snd x55)) fun x58 ↦ Option.bind (AV.asInt IntKind.i64 (Prod.fst x58)) fun x59 ↦ some (AV.bool (decide (x56 = x59)), Prod.snd x58)
                                                                                                                        else some (AV.bool false, Prod.snd x52)
                                                                                                  else some (AV.bool false, Prod.snd x42)
                                                                                else some (AV.bool false, Prod.snd x34)
                                                              else some (AV.bool false, Prod.snd x26)
                                                else some (AV.bool false, Prod.snd x20)
                                          else some (AV.bool false, Prod.snd x18) := by intros; kernel_rfl

theorem f16_eq : ∀ (Γ : Gam) (k : Nat) (σ : Store) (h0 h1 : Hdl),
  evBody Try.prog Γ drawn k Try.f16 [AV.slice h0, AV.slice h1] σ =
    Option.bind (Γ (Fun.fn (45 : Nat)) [AV.slice h1] σ) fun x2 ↦
      Option.bind (AV.item (nat_lit 0) (2 : Nat) (Prod.fst x2)) fun x3 ↦
        Option.bind (AV.asSl x3) fun x4 ↦
          Option.bind (AV.item (nat_lit 1) (2 : Nat) (Prod.fst x2)) fun x5 ↦
            Option.bind (AV.asInt IntKind.i64 x5) fun x6 ↦
              if decide (x6 ≠ (0 : Int)) = true then some (AV.tuple [AV.slice Hdl.nil, AV.int IntKind.i64 (2 : Int)], Prod.snd x2)
              else
                if decide ((↑(Hdl.len h1) : Int) ≠ (↑(Hdl.len h0) : Int)) = true then some (AV.tuple [AV.slice Hdl.nil, AV.int IntKind.i64 (2 : Int)], Prod.snd x2)
                else
                  if ((0 : Int) ≤ (↑(Hdl.len h0) : Int) ∧ (↑(Hdl.len h0) : Int) ≤ (↑(Hdl.len h0) : Int)) ∧ (↑(Hdl.len h0) : Int) * (↑(8 : Nat) : Int) ≤ (281474976710656 : Int) then
                    Option.bind
                      (loopF Try.prog Γ drawn k Try.f16 [(1 : Nat), (1 : Nat), (1 : Nat), (0 : Nat), (1 : Nat), (0 : Nat)] [(30 : Nat), (29 : Nat), (28 : Nat), (8 : Nat), (0 : Nat)]
                        ([AV.int IntKind.i64 (0 : Int), AV.int IntKind.i64 (↑(Hdl.len h1) : Int), AV.slice h1, AV.slice { a := some (List.length (Store.objs (Prod.snd x2)), (0 : Nat)), len := Int.toNat (↑(Hdl.len h0) : Int), cap := some (Int.toNat (↑(Hdl.len h0) : Int)) }, AV.slice h0], Store.push (Prod.snd x2) (mkCells [AV.int IntKind.i64 (0 : Int)] (Int.toNat (↑(Hdl.len h0) : Int))) (1 : Nat)))
                      (contF Try.prog Γ drawn k Try.f16 [(1 : Nat), (1 : Nat), (1 : Nat), (0 : Nat), (1 : Nat), (0 : Nat)])
                  else none := by intros; kernel_rfl

theorem f16_L111010 : ∀ (Γ : Gam) (k : Nat) (σ : Store) (i7 i8 : Int) (h9 h10 h11 : Hdl),
  stepF Try.prog Γ drawn k Try.f16 [1, 1, 1, 0, 1, 0] [30, 29, 28, 8, 0] ([AV.int IntKind.i64 i7, AV.int IntKind.i64 i8, AV.slice h9, AV.slice h10, AV.slice h11], σ) =
    if decide (i7 < i8) = true then
      if 0 ≤ i7 ∧ i7 < (↑(Hdl.len h9) : Int) then
        Option.bind (Store.ldInt σ IntKind.i64 (Hdl.idx h9 i7 1)) fun x12 ↦
          if (↑(Hdl.len h11) : Int) = 0 then none
          else
            if 0 ≤ Int.tmod (IntKind.wrap IntKind.i64 (IntKind.wrap IntKind.i64 (x12 + (↑(Hdl.len h11) : Int)) - 1)) (↑(Hdl.len h11) : Int) ∧ Int.tmod (IntKind.wrap IntKind.i64 (IntKind.wrap IntKind.i64 (x12 + (↑(Hdl.len h11) : Int)) - 1)) (↑(Hdl.len h11) : Int) < (↑(Hdl.len h11) : Int) then
              Option.bind (Store.ldInt σ IntKind.i64 (Hdl.idx h11 (Int.tmod (IntKind.wrap IntKind.i64 (IntKind.wrap IntKind.i64 (x12 + (↑(Hdl.len h11) : Int)) - 1)) (↑(Hdl.len h11) : Int)) 1)) fun x13 ↦
                if 0 ≤ i7 ∧ i7 < (↑(Hdl.len h10) : Int) then Option.bind (Store.stL σ (Hdl.idx h10 i7 1) [AV.int IntKind.i64 x13] 0) fun x14 ↦ some (Sum.inl ([AV.int IntKind.i64 (IntKind.wrap IntKind.i64 (i7 + 1)), AV.int IntKind.i64 i8, AV.slice h9, AV.slice h10, AV.slice h11], x14)) else none
            else none
      else none
    else some (Sum.inr (AX.exit 0, [(8, AV.slice h10)], σ)) := by intros; kernel_rfl

theorem f16_X111010_1 : ∀ (Γ : Gam) (k : Nat) (σ : Store) (h15 : Hdl), contF Try.prog Γ drawn k Try.f16 [1, 1, 1, 0, 1, 0] (AX.exit 0, [(8, AV.slice h15)], σ) = some (AV.tuple [AV.slice h15, AV.int IntKind.i64 0], σ) := by intros; kernel_rfl

theorem f17_eq : ∀ (Γ : Gam) (k : Nat) (σ : Store) (h0 : Hdl),
  evBody Try.prog Γ drawn k Try.f17 [AV.slice h0] σ =
    if ((0 : Int) ≤ (↑(Hdl.len h0) : Int) ∧ (↑(Hdl.len h0) : Int) ≤ (↑(Hdl.len h0) : Int)) ∧ (↑(Hdl.len h0) : Int) * (↑(8 : Nat) : Int) ≤ (281474976710656 : Int) then
      if ((0 : Int) ≤ (↑(Hdl.len h0) : Int) ∧ (↑(Hdl.len h0) : Int) ≤ (↑(Hdl.len h0) : Int)) ∧ (↑(Hdl.len h0) : Int) * (↑(1 : Nat) : Int) ≤ (281474976710656 : Int) then
        Option.bind
          (loopF Try.prog Γ drawn k Try.f17 [(1 : Nat), (1 : Nat), (1 : Nat), (0 : Nat), (1 : Nat), (0 : Nat)] [(16 : Nat), (15 : Nat), (14 : Nat), (5 : Nat), (4 : Nat), (0 : Nat)]
            ([AV.int IntKind.i64 (0 : Int), AV.int IntKind.i64 (↑(Hdl.len h0) : Int), AV.slice h0, AV.slice { a := some (List.length (Store.objs (Store.push σ (mkCells [AV.int IntKind.i64 (0 : Int)] (Int.toNat (↑(Hdl.len h0) : Int))) (1 : Nat))), (0 : Nat)), len := Int.toNat (↑(Hdl.len h0) : Int), cap := some (Int.toNat (↑(Hdl.len h0) : Int)) },
                AV.slice { a := some (List.length (Store.objs σ), (0 : Nat)), len := Int.toNat (↑(Hdl.len h0) : Int), cap := some (Int.toNat (↑(Hdl.len h0) : Int)) }, AV.slice h0],
              Store.push (Store.push σ (mkCells [AV.int IntKind.i64 (0 : Int)] (Int.toNat (↑(Hdl.len h0) : Int))) (1 : Nat)) (mkCells [AV.int IntKind.u8 (0 : Int)] (Int.toNat (↑(Hdl.len h0) : Int))) (1 : Nat)))
          (contF Try.prog Γ drawn k Try.f17 [(1 : Nat), (1 : Nat), (1 : Nat), (0 : Nat), (1 : Nat), (0 : Nat)])
      else none
    else none := by intros; kernel_rfl

theorem f17_L111010 : ∀ (Γ : Gam) (k : Nat) (σ : Store) (i1 i2 : Int) (h3 h4 h5 h6 : Hdl),
  stepF Try.prog Γ drawn k Try.f17 [1, 1, 1, 0, 1, 0] [16, 15, 14, 5, 4, 0] ([AV.int IntKind.i64 i1, AV.int IntKind.i64 i2, AV.slice h3, AV.slice h4, AV.slice h5, AV.slice h6], σ) =
    if decide (i1 < i2) = true then
      if 0 ≤ i1 ∧ i1 < (↑(Hdl.len h3) : Int) then
        Option.bind (Store.ldInt σ IntKind.i64 (Hdl.idx h3 i1 1)) fun x7 ↦
          if decide (x7 < 0) = true then some (Sum.inr (AX.ret, [(3, AV.bool false), (2, AV.slice Hdl.nil)], σ))
          else
            if decide ((↑(Hdl.len h6) : Int) ≤ x7) = true then some (Sum.inr (AX.ret, [(3, AV.bool false), (2, AV.slice Hdl.nil)], σ))
            else
              if 0 ≤ x7 ∧ x7 < (↑(Hdl.len h4) : Int) then
                Option.bind (Store.ldInt σ IntKind.u8 (Hdl.idx h4 x7 1)) fun x8 ↦
                  if decide (x8 = 1) = true then some (Sum.inr (AX.ret, [(3, AV.bool false), (2, AV.slice Hdl.nil)], σ))
                  else
                    if 0 ≤ x7 ∧ x7 < (↑(Hdl.len h4) : Int) then
                      Option.bind (Store.stL σ (Hdl.idx h4 x7 1) [AV.int IntKind.u8 1] 0) fun x9 ↦ if 0 ≤ x7 ∧ x7 < (↑(Hdl.len h5) : Int) then Option.bind (Store.stL x9 (Hdl.idx h5 x7 1) [AV.int IntKind.i64 i1] 0) fun x10 ↦ some (Sum.inl ([AV.int IntKind.i64 (IntKind.wrap IntKind.i64 (i1 + 1)), AV.int IntKind.i64 i2, AV.slice h3, AV.slice h4, AV.slice h5, AV.slice h6], x10)) else none
                    else none
              else none
      else none
    else some (Sum.inr (AX.exit 0, [(4, AV.slice h5)], σ)) := by intros; kernel_rfl

theorem f17_X111010_1 : ∀ (Γ : Gam) (k : Nat) (σ : Store) (b11 : Bool) (h12 : Hdl), contF Try.prog Γ drawn k Try.f17 [1, 1, 1, 0, 1, 0] (AX.ret, [(3, AV.bool b11), (2, AV.slice h12)], σ) = some (AV.tuple [AV.slice h12, AV.bool b11], σ) := by intros; kernel_rfl

theorem f17_X111010_2 : ∀ (Γ : Gam) (k : Nat) (σ : Store) (h13 : Hdl), contF Try.prog Γ drawn k Try.f17 [1, 1, 1, 0, 1, 0] (AX.exit 0, [(4, AV.slice h13)], σ) = some (AV.tuple [AV.slice h13, AV.bool true], σ) := by intros; kernel_rfl

theorem f18_eq : ∀ (Γ : Gam) (k : Nat) (σ : Store) (h0 h1 : Hdl),
  evBody Try.prog Γ drawn k Try.f18 [AV.slice h0, AV.slice h1] σ = if decide ((↑(Hdl.len h0) : Int) ≠ (↑(Hdl.len h1) : Int)) = true then some (AV.bool false, σ) else Option.bind (loopF Try.prog Γ drawn k Try.f18 [1, 1, 0, 1, 0] [13, 12, 1, 0] ([AV.int IntKind.i64 0, AV.int IntKind.i64 (↑(Hdl.len h0) : Int), AV.slice h1, AV.slice h0], σ)) (contF Try.prog Γ drawn k Try.f18 [1, 1, 0, 1, 0]) := by intros; kernel_rfl

theorem f18_L11010 : ∀ (Γ : Gam) (k : Nat) (σ : Store) (i2 i3 : Int) (h4 h5 : Hdl),
  stepF Try.prog Γ drawn k Try.f18 [1, 1, 0, 1, 0] [13, 12, 1, 0] ([AV.int IntKind.i64 i2, AV.int IntKind.i64 i3, AV.slice h4, AV.slice h5], σ) =
    if decide (i2 < i3) = true then
      if 0 ≤ i2 ∧ i2 < (↑(Hdl.len h5) : Int) then
        Option.bind (Store.ldInt σ IntKind.i64 (Hdl.idx h5 i2 1)) fun x6 ↦
          if 0 ≤ i2 ∧ i2 < (↑(Hdl.len h4) : Int) then Option.bind (Store.ldInt σ IntKind.i64 (Hdl.idx h4 i2 1)) fun x7 ↦ if decide (x6 ≠ x7) = true then some (Sum.inr (AX.ret, [(4, AV.bool false)], σ)) else some (Sum.inl ([AV.int IntKind.i64 (IntKind.wrap IntKind.i64 (i2 + 1)), AV.int IntKind.i64 i3, AV.slice h4, AV.slice h5], σ)) else none
      else none
    else some (Sum.inr (AX.exit 0, [], σ)) := by intros; kernel_rfl

theorem f18_X11010_1 : ∀ (Γ : Gam) (k : Nat) (σ : Store) (b8 : Bool), contF Try.prog Γ drawn k Try.f18 [1, 1, 0, 1, 0] (AX.ret, [(4, AV.bool b8)], σ) = some (AV.bool b8, σ) := by intros; kernel_rfl

theorem f18_X11010_2 : ∀ (Γ : Gam) (k : Nat) (σ : Store), contF Try.prog Γ drawn k Try.f18 [1, 1, 0, 1, 0] (AX.exit 0, [], σ) = some (AV.bool true, σ) := by intros; kernel_rfl

theorem f19_eq : ∀ (Γ : Gam) (k : Nat) (σ : Store) (h0 h1 : Hdl), evBody Try.prog Γ drawn k Try.f19 [AV.slice h0, AV.slice h1] σ = Option.bind (loopF Try.prog Γ drawn k Try.f19 [1, 1, 0, 1, 0] [10, 9, 8, 5, 0] ([AV.int IntKind.i64 0, AV.int IntKind.i64 (↑(Hdl.len h1) : Int), AV.slice h1, AV.slice Hdl.nil, AV.slice h0], σ)) (contF Try.prog Γ drawn k Try.f19 [1, 1, 0, 1, 0]) := by intros; kernel_rfl

theorem f19_L11010 : ∀ (Γ : Gam) (k : Nat) (σ : Store) (i2 i3 : Int) (h4 h5 h6 : Hdl),
  stepF Try.prog Γ drawn k Try.f19 [1, 1, 0, 1, 0] [10, 9, 8, 5, 0] ([AV.int IntKind.i64 i2, AV.int IntKind.i64 i3, AV.slice h4, AV.slice h5, AV.slice h6], σ) =
    if decide (i2 < i3) = true then
      if 0 ≤ i2 ∧ i2 < (↑(Hdl.len h4) : Int) then
        Option.bind (Store.ldInt σ IntKind.i64 (Hdl.idx h4 i2 1)) fun x7 ↦
          if decide (x7 = 0) = true then
            if 0 ≤ IntKind.wrap IntKind.i64 ((↑(Hdl.len h6) : Int) - 1) ∧ IntKind.wrap IntKind.i64 ((↑(Hdl.len h6) : Int) - 1) < (↑(Hdl.len h6) : Int) then
              Option.bind (Store.ldInt σ IntKind.i64 (Hdl.idx h6 (IntKind.wrap IntKind.i64 ((↑(Hdl.len h6) : Int) - 1)) 1)) fun x8 ↦
                Option.bind (Store.readSl (Store.push σ [AV.int IntKind.i64 x8] 1) { a := some (List.length (Store.objs σ), 0), len := 1, cap := some 1 } 1) fun x9 ↦
                  Option.bind (Store.app (Store.push σ [AV.int IntKind.i64 x8] 1) h5 1 8 x9 1) fun x10 ↦ some (Sum.inl ([AV.int IntKind.i64 (IntKind.wrap IntKind.i64 (i2 + 1)), AV.int IntKind.i64 i3, AV.slice h4, AV.slice (Prod.fst x10), AV.slice h6], Prod.snd x10))
            else none
          else
            if 0 ≤ IntKind.wrap IntKind.i64 (x7 - 1) ∧ IntKind.wrap IntKind.i64 (x7 - 1) < (↑(Hdl.len h6) : Int) then
              Option.bind (Store.ldInt σ IntKind.i64 (Hdl.idx h6 (IntKind.wrap IntKind.i64 (x7 - 1)) 1)) fun x11 ↦
                Option.bind (Store.readSl (Store.push σ [AV.int IntKind.i64 x11] 1) { a := some (List.length (Store.objs σ), 0), len := 1, cap := some 1 } 1) fun x12 ↦
                  Option.bind (Store.app (Store.push σ [AV.int IntKind.i64 x11] 1) h5 1 8 x12 1) fun x13 ↦ some (Sum.inl ([AV.int IntKind.i64 (IntKind.wrap IntKind.i64 (i2 + 1)), AV.int IntKind.i64 i3, AV.slice h4, AV.slice (Prod.fst x13), AV.slice h6], Prod.snd x13))
            else none
      else none
    else some (Sum.inr (AX.exit 0, [(5, AV.slice h5)], σ)) := by intros; kernel_rfl

theorem f19_X11010_1 : ∀ (Γ : Gam) (k : Nat) (σ : Store) (h14 : Hdl), contF Try.prog Γ drawn k Try.f19 [1, 1, 0, 1, 0] (AX.exit 0, [(5, AV.slice h14)], σ) = some (AV.slice h14, σ) := by intros; kernel_rfl

theorem f20_eq : ∀ (Γ : Gam) (k : Nat) (σ : Store) (h0 : Hdl) (i1 : Int),
  evBody Try.prog Γ drawn k Try.f20 [AV.slice h0, AV.int IntKind.i64 i1] σ =
    Option.bind (Store.ldInt (Store.push σ [AV.int IntKind.i64 i1] (1 : Nat)) IntKind.i64 (some (List.length (Store.objs σ), (0 : Nat)))) fun x2 ↦
      if decide (x2 < (0 : Int)) = true then some (AV.tuple [AV.slice Hdl.nil, AV.int IntKind.i64 (2 : Int)], Store.push σ [AV.int IntKind.i64 i1] (1 : Nat))
      else
        Option.bind (Store.ldInt (Store.push σ [AV.int IntKind.i64 i1] (1 : Nat)) IntKind.i64 (some (List.length (Store.objs σ), (0 : Nat)))) fun x3 ↦
          if decide ((4194304 : Int) < x3) = true then some (AV.tuple [AV.slice Hdl.nil, AV.int IntKind.i64 (2 : Int)], Store.push σ [AV.int IntKind.i64 i1] (1 : Nat))
          else
            Option.bind (Γ (Fun.fn (46 : Nat)) [AV.slice h0, AV.func (47 : Nat) [] [AV.ptr (some (List.length (Store.objs σ), (0 : Nat)))]] (Store.push σ [AV.int IntKind.i64 i1] (1 : Nat))) fun x4 ↦
              Option.bind (AV.asBool (Prod.fst x4)) fun x5 ↦
                if x5 = true then some (AV.tuple [AV.slice Hdl.nil, AV.int IntKind.i64 (2 : Int)], Prod.snd x4)
                else
                  Option.bind (Store.ldInt (Prod.snd x4) IntKind.i64 (some (List.length (Store.objs σ), (0 : Nat)))) fun x6 ↦
                    if ((0 : Int) ≤ IntKind.wrap IntKind.i64 (x6 + (1 : Int)) ∧ IntKind.wrap IntKind.i64 (x6 + (1 : Int)) ≤ IntKind.wrap IntKind.i64 (x6 + (1 : Int))) ∧ IntKind.wrap IntKind.i64 (x6 + (1 : Int)) * (↑(8 : Nat) : Int) ≤ (281474976710656 : Int) then
                      Option.bind
                        (loopF Try.prog Γ drawn k Try.f20 [(1 : Nat), (1 : Nat), (1 : Nat), (0 : Nat), (1 : Nat), (0 : Nat)] [(26 : Nat), (25 : Nat), (24 : Nat), (6 : Nat), (3 : Nat)]
                          ([AV.int IntKind.i64 (0 : Int), AV.int IntKind.i64 (↑(Hdl.len h0) : Int), AV.slice h0, AV.slice { a := some (List.length (Store.objs (Prod.snd x4)), (0 : Nat)), len := Int.toNat (IntKind.wrap IntKind.i64 (x6 + (1 : Int))), cap := some (Int.toNat (IntKind.wrap IntKind.i64 (x6 + (1 : Int)))) }, AV.ptr (some (List.length (Store.objs σ), (0 : Nat)))],
                            Store.push (Prod.snd x4) (mkCells [AV.int IntKind.i64 (0 : Int)] (Int.toNat (IntKind.wrap IntKind.i64 (x6 + (1 : Int))))) (1 : Nat)))
                        (contF Try.prog Γ drawn k Try.f20 [(1 : Nat), (1 : Nat), (1 : Nat), (0 : Nat), (1 : Nat), (0 : Nat)])
                    else none := by intros; kernel_rfl

theorem f20_L111010 : ∀ (Γ : Gam) (k : Nat) (σ : Store) (i7 i8 : Int) (h9 h10 : Hdl) (p11 : Ptr),
  stepF Try.prog Γ drawn k Try.f20 [1, 1, 1, 0, 1, 0] [26, 25, 24, 6, 3] ([AV.int IntKind.i64 i7, AV.int IntKind.i64 i8, AV.slice h9, AV.slice h10, AV.ptr p11], σ) =
    if decide (i7 < i8) = true then
      if 0 ≤ i7 ∧ i7 < (↑(Hdl.len h9) : Int) then
        Option.bind (Store.ldInt σ IntKind.i64 (Hdl.idx h9 i7 1)) fun x12 ↦
          if 0 ≤ IntKind.wrap IntKind.i64 (x12 + 1) ∧ IntKind.wrap IntKind.i64 (x12 + 1) < (↑(Hdl.len h10) : Int) then
            Option.bind (Store.ldInt σ IntKind.i64 (Hdl.idx h10 (IntKind.wrap IntKind.i64 (x12 + 1)) 1)) fun x13 ↦
              if 0 ≤ IntKind.wrap IntKind.i64 (x12 + 1) ∧ IntKind.wrap IntKind.i64 (x12 + 1) < (↑(Hdl.len h10) : Int) then
                Option.bind (Store.stL σ (Hdl.idx h10 (IntKind.wrap IntKind.i64 (x12 + 1)) 1) [AV.int IntKind.i64 (IntKind.wrap IntKind.i64 (x13 + 1))] 0) fun x14 ↦ some (Sum.inl ([AV.int IntKind.i64 (IntKind.wrap IntKind.i64 (i7 + 1)), AV.int IntKind.i64 i8, AV.slice h9, AV.slice h10, AV.ptr p11], x14))
              else none
          else none
      else none
    else some (Sum.inr (AX.exit 0, [(6, AV.slice h10), (3, AV.ptr p11)], σ)) := by intros; kernel_rfl

theorem f20_X111010_1 : ∀ (Γ : Gam) (k : Nat) (σ : Store) (h15 : Hdl) (p16 : Ptr),
  contF Try.prog Γ drawn k Try.f20 [1, 1, 1, 0, 1, 0] (AX.exit 0, [(6, AV.slice h15), (3, AV.ptr p16)], σ) = Option.bind (Store.ldInt σ IntKind.i64 p16) fun x17 ↦ Option.bind (loopF Try.prog Γ drawn k Try.f20 [1, 1, 1, 1, 0, 1, 0] [39, 38, 6] ([AV.int IntKind.i64 0, AV.int IntKind.i64 x17, AV.slice h15], σ)) (contF Try.prog Γ drawn k Try.f20 [1, 1, 1, 1, 0, 1, 0]) := by intros; kernel_rfl

theorem f20_L1111010 : ∀ (Γ : Gam) (k : Nat) (σ : Store) (i18 i19 : Int) (h20 : Hdl),
  stepF Try.prog Γ drawn k Try.f20 [1, 1, 1, 1, 0, 1, 0] [39, 38, 6] ([AV.int IntKind.i64 i18, AV.int IntKind.i64 i19, AV.slice h20], σ) =
    if decide (i18 < i19) = true then
      if 0 ≤ IntKind.wrap IntKind.i64 (i18 + 1) ∧ IntKind.wrap IntKind.i64 (i18 + 1) < (↑(Hdl.len h20) : Int) then
        Option.bind (Store.ldInt σ IntKind.i64 (Hdl.idx h20 (IntKind.wrap IntKind.i64 (i18 + 1)) 1)) fun x21 ↦
          if 0 ≤ i18 ∧ i18 < (↑(Hdl.len h20) : Int) then
            Option.bind (Store.ldInt σ IntKind.i64 (Hdl.idx h20 i18 1)) fun x22 ↦
              if 0 ≤ IntKind.wrap IntKind.i64 (i18 + 1) ∧ IntKind.wrap IntKind.i64 (i18 + 1) < (↑(Hdl.len h20) : Int) then Option.bind (Store.stL σ (Hdl.idx h20 (IntKind.wrap IntKind.i64 (i18 + 1)) 1) [AV.int IntKind.i64 (IntKind.wrap IntKind.i64 (x21 + x22))] 0) fun x23 ↦ some (Sum.inl ([AV.int IntKind.i64 (IntKind.wrap IntKind.i64 (i18 + 1)), AV.int IntKind.i64 i19, AV.slice h20], x23))
              else none
          else none
      else none
    else some (Sum.inr (AX.exit 2, [(6, AV.slice h20)], σ)) := by intros; kernel_rfl

theorem f20_X1111010_1 : ∀ (Γ : Gam) (k : Nat) (σ : Store) (h24 : Hdl), contF Try.prog Γ drawn k Try.f20 [1, 1, 1, 1, 0, 1, 0] (AX.exit 2, [(6, AV.slice h24)], σ) = some (AV.tuple [AV.slice h24, AV.int IntKind.i64 0], σ) := by intros; kernel_rfl

theorem f21_eq : ∀ (Γ : Gam) (k : Nat) (σ : Store) (h0 : Hdl) (i1 : Int),
  evBody Try.prog Γ drawn k Try.f21 [AV.slice h0, AV.int IntKind.i64 i1] σ =
    if decide (i1 < 0) = true then some (AV.bool false, σ)
    else if decide (4194304 < i1) = true then some (AV.bool false, σ) else if decide (4194304 < (↑(Hdl.len h0) : Int)) = true then some (AV.bool false, σ) else Option.bind (loopF Try.prog Γ drawn k Try.f21 [1, 1, 0, 1, 0] [20, 19, 18, 1] ([AV.int IntKind.i64 0, AV.int IntKind.i64 (↑(Hdl.len h0) : Int), AV.slice h0, AV.int IntKind.i64 i1], σ)) (contF Try.prog Γ drawn k Try.f21 [1, 1, 0, 1, 0]) := by intros; kernel_rfl

theorem f21_L11010 : ∀ (Γ : Gam) (k : Nat) (σ : Store) (i2 i3 : Int) (h4 : Hdl) (i5 : Int),
  stepF Try.prog Γ drawn k Try.f21 [1, 1, 0, 1, 0] [20, 19, 18, 1] ([AV.int IntKind.i64 i2, AV.int IntKind.i64 i3, AV.slice h4, AV.int IntKind.i64 i5], σ) =
    if decide (i2 < i3) = true then
      if 0 ≤ i2 ∧ i2 < (↑(Hdl.len h4) : Int) then
        Option.bind (Store.ldInt σ IntKind.i64 (Hdl.idx h4 i2 1)) fun x6 ↦ if decide (x6 < 0) = true then some (Sum.inr (AX.ret, [(4, AV.bool false)], σ)) else if decide (i5 ≤ x6) = true then some (Sum.inr (AX.ret, [(4, AV.bool false)], σ)) else some (Sum.inl ([AV.int IntKind.i64 (IntKind.wrap IntKind.i64 (i2 + 1)), AV.int IntKind.i64 i3, AV.slice h4, AV.int IntKind.i64 i5], σ))
      else none
    else some (Sum.inr (AX.exit 0, [], σ)) := by intros; kernel_rfl

theorem f21_X11010_1 : ∀ (Γ : Gam) (k : Nat) (σ : Store) (b7 : Bool), contF Try.prog Γ drawn k Try.f21 [1, 1, 0, 1, 0] (AX.ret, [(4, AV.bool b7)], σ) = some (AV.bool b7, σ) := by intros; kernel_rfl

theorem f21_X11010_2 : ∀ (Γ : Gam) (k : Nat) (σ : Store), contF Try.prog Γ drawn k Try.f21 [1, 1, 0, 1, 0] (AX.exit 0, [], σ) = some (AV.bool true, σ) := by intros; kernel_rfl

theorem f24_eq : ∀ (Γ : Gam) (k : Nat) (σ : Store) (h0 : Hdl), evBody Try.prog Γ drawn k Try.f24 [AV.slice h0] σ = Option.bind (loopF Try.prog Γ drawn k Try.f24 [1, 1, 0, 1, 0] [9, 8, 3, 0] ([AV.int IntKind.i64 0, AV.int IntKind.i64 (↑(Hdl.len h0) : Int), AV.slice Hdl.nil, AV.slice h0], σ)) (contF Try.prog Γ drawn k Try.f24 [1, 1, 0, 1, 0]) := by intros; kernel_rfl

theorem f24_L11010 : ∀ (Γ : Gam) (k : Nat) (σ : Store) (i1 i2 : Int) (h3 h4 : Hdl),
  stepF Try.prog Γ drawn k Try.f24 [1, 1, 0, 1, 0] [9, 8, 3, 0] ([AV.int IntKind.i64 i1, AV.int IntKind.i64 i2, AV.slice h3, AV.slice h4], σ) =
    if decide (i1 < i2) = true then Option.bind (loopF Try.prog Γ drawn k Try.f24 [1, 1, 0, 1, 0, 0, 1, 1, 0, 0, 1, 1, 0, 0] [9, 8, 5, 4, 3, 0] ([AV.int IntKind.i64 i1, AV.int IntKind.i64 i2, AV.int IntKind.i64 0, AV.int IntKind.i64 i1, AV.slice h3, AV.slice h4], σ)) (contFL Try.prog Γ drawn k Try.f24 [1, 1, 0, 1, 0] [9, 8, 3, 0] [1, 1, 0, 0, 1, 1, 0, 0])
    else some (Sum.inr (AX.exit 0, [(3, AV.slice h3)], σ)) := by intros; kernel_rfl

theorem f24_X11010_1 : ∀ (Γ : Gam) (k : Nat) (σ : Store) (h5 : Hdl), contF Try.prog Γ drawn k Try.f24 [1, 1, 0, 1, 0] (AX.exit 0, [(3, AV.slice h5)], σ) = some (AV.slice h5, σ) := by intros; kernel_rfl

theorem f24_L11010011001100 : ∀ (Γ : Gam) (k : Nat) (σ : Store) (i6 i7 i8 i9 : Int) (h10 h11 : Hdl),
  stepF Try.prog Γ drawn k Try.f24 [1, 1, 0, 1, 0, 0, 1, 1, 0, 0, 1, 1, 0, 0] [9, 8, 5, 4, 3, 0] ([AV.int IntKind.i64 i6, AV.int IntKind.i64 i7, AV.int IntKind.i64 i8, AV.int IntKind.i64 i9, AV.slice h10, AV.slice h11], σ) =
    if decide (i8 < (↑(Hdl.len h10) : Int)) = true then
      if 0 ≤ i8 ∧ i8 < (↑(Hdl.len h10) : Int) then
        Option.bind (Store.ldInt σ IntKind.i64 (Hdl.idx h10 i8 1)) fun x12 ↦
          Option.bind (Γ (Fun.fn 54) [AV.slice h11, AV.int IntKind.i64 x12, AV.int IntKind.i64 i9] σ) fun x13 ↦
            Option.bind (AV.asBool (Prod.fst x13)) fun x14 ↦
              if x14 = true then some (Sum.inl ([AV.int IntKind.i64 i6, AV.int IntKind.i64 i7, AV.int IntKind.i64 (IntKind.wrap IntKind.i64 (i8 + 1)), AV.int IntKind.i64 i9, AV.slice h10, AV.slice h11], Prod.snd x13))
              else some (Sum.inr (AX.exit 2, [(9, AV.int IntKind.i64 i6), (8, AV.int IntKind.i64 i7), (5, AV.int IntKind.i64 i8), (4, AV.int IntKind.i64 i9), (3, AV.slice h10), (0, AV.slice h11)], Prod.snd x13))
      else none
    else some (Sum.inr (AX.exit 2, [(9, AV.int IntKind.i64 i6), (8, AV.int IntKind.i64 i7), (5, AV.int IntKind.i64 i8), (4, AV.int IntKind.i64 i9), (3, AV.slice h10), (0, AV.slice h11)], σ)) := by intros; kernel_rfl

theorem f24_X11010011001100_1 : ∀ (Γ : Gam) (k : Nat) (σ : Store) (i15 i16 i17 i18 : Int) (h19 h20 : Hdl),
  contFL Try.prog Γ drawn k Try.f24 [1, 1, 0, 1, 0] [9, 8, 3, 0] [1, 1, 0, 0, 1, 1, 0, 0] (AX.exit 2, [(9, AV.int IntKind.i64 i15), (8, AV.int IntKind.i64 i16), (5, AV.int IntKind.i64 i17), (4, AV.int IntKind.i64 i18), (3, AV.slice h19), (0, AV.slice h20)], σ) =
    Option.bind (Store.readSl (Store.push σ [AV.int IntKind.i64 0] 1) { a := some (List.length (Store.objs σ), 0), len := 1, cap := some 1 } 1) fun x21 ↦
      Option.bind (Store.app (Store.push σ [AV.int IntKind.i64 0] 1) h19 1 8 x21 1) fun x22 ↦
        Option.bind (loopF Try.prog Γ drawn k Try.f24 [1, 1, 0, 1, 0, 0, 1, 1, 0, 0, 1, 1, 1, 1, 0, 1, 0] [9, 8, 6, 5, 4, 3, 0] ([AV.int IntKind.i64 i15, AV.int IntKind.i64 i16, AV.int IntKind.i64 (IntKind.wrap IntKind.i64 ((↑(Hdl.len (Prod.fst x22)) : Int) - 1)), AV.int IntKind.i64 i17, AV.int IntKind.i64 i18, AV.slice (Prod.fst x22), AV.slice h20], Prod.snd x22))
          (contFL Try.prog Γ drawn k Try.f24 [1, 1, 0, 1, 0] [9, 8, 3, 0] [1, 1, 0, 0, 1, 1, 1, 1, 0, 1, 0]) := by intros; kernel_rfl

theorem f24_L11010011001111010 : ∀ (Γ : Gam) (k : Nat) (σ : Store) (i23 i24 i25 i26 i27 : Int) (h28 h29 : Hdl),
  stepF Try.prog Γ drawn k Try.f24 [1, 1, 0, 1, 0, 0, 1, 1, 0, 0, 1, 1, 1, 1, 0, 1, 0] [9, 8, 6, 5, 4, 3, 0] ([AV.int IntKind.i64 i23, AV.int IntKind.i64 i24, AV.int IntKind.i64 i25, AV.int IntKind.i64 i26, AV.int IntKind.i64 i27, AV.slice h28, AV.slice h29], σ) =
    if decide (i26 < i25) = true then
      if 0 ≤ IntKind.wrap IntKind.i64 (i25 - 1) ∧ IntKind.wrap IntKind.i64 (i25 - 1) < (↑(Hdl.len h28) : Int) then
        Option.bind (Store.ldInt σ IntKind.i64 (Hdl.idx h28 (IntKind.wrap IntKind.i64 (i25 - 1)) 1)) fun x30 ↦
          if 0 ≤ i25 ∧ i25 < (↑(Hdl.len h28) : Int) then Option.bind (Store.stL σ (Hdl.idx h28 i25 1) [AV.int IntKind.i64 x30] 0) fun x31 ↦ some (Sum.inl ([AV.int IntKind.i64 i23, AV.int IntKind.i64 i24, AV.int IntKind.i64 (IntKind.wrap IntKind.i64 (i25 - 1)), AV.int IntKind.i64 i26, AV.int IntKind.i64 i27, AV.slice h28, AV.slice h29], x31)) else none
      else none
    else some (Sum.inr (AX.exit 4, [(9, AV.int IntKind.i64 i23), (8, AV.int IntKind.i64 i24), (5, AV.int IntKind.i64 i26), (4, AV.int IntKind.i64 i27), (3, AV.slice h28), (0, AV.slice h29)], σ)) := by intros; kernel_rfl

theorem f24_X11010011001111010_1 : ∀ (Γ : Gam) (k : Nat) (σ : Store) (i32 i33 i34 i35 : Int) (h36 h37 : Hdl),
  contFL Try.prog Γ drawn k Try.f24 [1, 1, 0, 1, 0] [9, 8, 3, 0] [1, 1, 0, 0, 1, 1, 1, 1, 0, 1, 0] (AX.exit 4, [(9, AV.int IntKind.i64 i32), (8, AV.int IntKind.i64 i33), (5, AV.int IntKind.i64 i34), (4, AV.int IntKind.i64 i35), (3, AV.slice h36), (0, AV.slice h37)], σ) =
    if 0 ≤ i34 ∧ i34 < (↑(Hdl.len h36) : Int) then Option.bind (Store.stL σ (Hdl.idx h36 i34 1) [AV.int IntKind.i64 i35] 0) fun x38 ↦ some (Sum.inl ([AV.int IntKind.i64 (IntKind.wrap IntKind.i64 (i32 + 1)), AV.int IntKind.i64 i33, AV.slice h36, AV.slice h37], x38)) else none := by intros; kernel_rfl

theorem f27_eq : ∀ (Γ : Gam) (k : Nat) (σ : Store) (h0 : Hdl) (i1 : Int),
  evBody Try.prog Γ drawn k Try.f27 [AV.slice h0, AV.int IntKind.i64 i1] σ =
    Option.bind (Store.readSl (Store.push σ [] 1) h0 1) fun x2 ↦
      Option.bind (Store.app (Store.push σ [] 1) { a := some (List.length (Store.objs σ), 0), len := 0, cap := some 0 } 1 8 x2 (Hdl.len h0)) fun x3 ↦
        Option.bind (Γ (Fun.fn 55) [AV.slice (Prod.fst x3), AV.int IntKind.i64 i1] (Prod.snd x3)) fun x4 ↦
          Option.bind (AV.item 0 2 (Prod.fst x4)) fun x5 ↦
            Option.bind (AV.asPtr x5) fun x6 ↦
              Option.bind (AV.item 1 2 (Prod.fst x4)) fun x7 ↦ Option.bind (AV.asInt IntKind.i64 x7) fun x8 ↦ Option.bind (loopF Try.prog Γ drawn k Try.f27 [1, 1, 1, 0, 1, 0] [21, 20, 8, 7, 6] ([AV.int IntKind.i64 0, AV.int IntKind.i64 (↑(Hdl.len (Prod.fst x3)) : Int), AV.int IntKind.i64 x8, AV.ptr x6, AV.slice (Prod.fst x3)], Prod.snd x4)) (contF Try.prog Γ drawn k Try.f27 [1, 1, 1, 0, 1, 0]) := by intros; kernel_rfl

theorem f27_L111010 : ∀ (Γ : Gam) (k : Nat) (σ : Store) (i9 i10 i11 : Int) (p12 : Ptr) (h13 : Hdl),
  stepF Try.prog Γ drawn k Try.f27 [1, 1, 1, 0, 1, 0] [21, 20, 8, 7, 6] ([AV.int IntKind.i64 i9, AV.int IntKind.i64 i10, AV.int IntKind.i64 i11, AV.ptr p12, AV.slice h13], σ) =
    if decide (i9 < i10) = true then if 0 ≤ i9 ∧ i9 < (↑(Hdl.len h13) : Int) then Option.bind (Store.stL σ (Hdl.idx h13 i9 1) [AV.int IntKind.i64 0] 0) fun x14 ↦ some (Sum.inl ([AV.int IntKind.i64 (IntKind.wrap IntKind.i64 (i9 + 1)), AV.int IntKind.i64 i10, AV.int IntKind.i64 i11, AV.ptr p12, AV.slice h13], x14)) else none
    else some (Sum.inr (AX.exit 0, [(8, AV.int IntKind.i64 i11), (7, AV.ptr p12)], σ)) := by intros; kernel_rfl

theorem f27_X111010_1 : ∀ (Γ : Gam) (k : Nat) (σ : Store) (i15 : Int) (p16 : Ptr), contF Try.prog Γ drawn k Try.f27 [1, 1, 1, 0, 1, 0] (AX.exit 0, [(8, AV.int IntKind.i64 i15), (7, AV.ptr p16)], σ) = some (AV.tuple [AV.ptr p16, AV.bool (decide (i15 = 0))], σ) := by intros; kernel_rfl

theorem f28_eq : ∀ (Γ : Gam) (k : Nat) (σ : Store) (h0 : Hdl) (i1 : Int),
  evBody Try.prog Γ drawn k Try.f28 [AV.slice h0, AV.int IntKind.i64 i1] σ = if decide (0 ≤ i1) = true then if decide (i1 < 4194304) = true then Option.bind (Γ (Fun.fn 21) [AV.slice h0, AV.int IntKind.i64 (IntKind.wrap IntKind.i64 (i1 + 1))] σ) fun x2 ↦ Option.bind (AV.asBool (Prod.fst x2)) fun x3 ↦ some (AV.bool x3, Prod.snd x2) else some (AV.bool false, σ) else some (AV.bool false, σ) := by intros; kernel_rfl

theorem f30_eq : ∀ (Γ : Gam) (k : Nat) (σ : Store) (p0 : Ptr), evBody Try.prog Γ drawn k Try.f30 [AV.ptr p0] σ = if Option.isNone p0 = true then some (AV.slice Hdl.nil, σ) else Option.bind p0 fun x1 ↦ Option.bind (Store.ldSl σ (Ptr.add (some x1) 2)) fun x2 ↦ Option.bind (Γ (Fun.fn 57) [AV.slice x2] σ) fun x3 ↦ Option.bind (AV.asSl (Prod.fst x3)) fun x4 ↦ some (AV.slice x4, Prod.snd x3) := by intros; kernel_rfl

theorem f31_eq : ∀ (Γ : Gam) (k : Nat) (σ : Store) (p0 : Ptr), evBody Try.prog Γ drawn k Try.f31 [AV.ptr p0] σ = if Option.isNone p0 = true then some (AV.int IntKind.i64 0, σ) else Option.bind p0 fun x1 ↦ Option.bind (Store.ldInt σ IntKind.i64 (Ptr.add (some x1) 0)) fun x2 ↦ some (AV.int IntKind.i64 x2, σ) := by intros; kernel_rfl

theorem f32_eq : ∀ (Γ : Gam) (k : Nat) (σ : Store) (p0 : Ptr), evBody Try.prog Γ drawn k Try.f32 [AV.ptr p0] σ = if Option.isNone p0 = true then some (AV.int IntKind.i64 0, σ) else Option.bind p0 fun x1 ↦ Option.bind (Store.ldInt σ IntKind.i64 (Ptr.add (some x1) 0)) fun x2 ↦ some (AV.int IntKind.i64 x2, σ) := by intros; kernel_rfl

theorem f33_eq : ∀ (Γ : Gam) (k : Nat) (σ : Store) (p0 : Ptr) (i1 : Int),
  evBody Try.prog Γ drawn k Try.f33 [AV.ptr p0, AV.int IntKind.i64 i1] σ =
    if (!Option.isNone p0) = true then
      if decide (0 ≤ i1) = true then
        Option.bind p0 fun x2 ↦
          Option.bind (Store.ldInt σ IntKind.i64 (Ptr.add (some x2) 0)) fun x3 ↦
            if decide (i1 < x3) = true then
              Option.bind p0 fun x4 ↦
                Option.bind (Store.ldSl σ (Ptr.add (some x4) 1)) fun x5 ↦
                  if 0 ≤ IntKind.wrap IntKind.i64 (Int.tdiv i1 64) ∧ IntKind.wrap IntKind.i64 (Int.tdiv i1 64) < (↑(Hdl.len x5) : Int) then Option.bind (Store.ldInt σ IntKind.u64 (Hdl.idx x5 (IntKind.wrap IntKind.i64 (Int.tdiv i1 64)) 1)) fun x6 ↦ if 0 ≤ Int.tmod i1 64 then some (AV.bool (decide (bitOp BinOp.and IntKind.u64 (shrI IntKind.u64 x6 (Int.tmod i1 64)) 1 = 1)), σ) else none else none
            else some (AV.bool false, σ)
      else some (AV.bool false, σ)
    else some (AV.bool false, σ) := by intros; kernel_rfl

theorem f34_eq : ∀ (Γ : Gam) (k : Nat) (σ : Store) (p0 : Ptr) (i1 : Int),
  evBody Try.prog Γ drawn k Try.f34 [AV.ptr p0, AV.int IntKind.i64 i1] σ =
    if decide (i1 < 0) = true then some (AV.int IntKind.i64 (-1), σ)
    else
      Option.bind (Γ (Fun.fn 31) [AV.ptr p0] σ) fun x2 ↦
        Option.bind (AV.asInt IntKind.i64 (Prod.fst x2)) fun x3 ↦
          if decide (x3 ≤ i1) = true then some (AV.int IntKind.i64 (-1), Prod.snd x2)
          else Option.bind p0 fun x4 ↦ Option.bind (Store.ldSl (Prod.snd x2) (Ptr.add (some x4) 2)) fun x5 ↦ Option.bind (loopF Try.prog Γ drawn k Try.f34 [1, 1, 1, 0, 1, 0] [22, 21, 20, 5, 1] ([AV.int IntKind.i64 0, AV.int IntKind.i64 (↑(Hdl.len x5) : Int), AV.slice x5, AV.int IntKind.i64 0, AV.int IntKind.i64 i1], Prod.snd x2)) (contF Try.prog Γ drawn k Try.f34 [1, 1, 1, 0, 1, 0]) := by intros; kernel_rfl

theorem f34_L111010 : ∀ (Γ : Gam) (k : Nat) (σ : Store) (i6 i7 : Int) (h8 : Hdl) (i9 i10 : Int),
  stepF Try.prog Γ drawn k Try.f34 [1, 1, 1, 0, 1, 0] [22, 21, 20, 5, 1] ([AV.int IntKind.i64 i6, AV.int IntKind.i64 i7, AV.slice h8, AV.int IntKind.i64 i9, AV.int IntKind.i64 i10], σ) =
    if decide (i6 < i7) = true then
      if 0 ≤ i6 ∧ i6 < (↑(Hdl.len h8) : Int) then
        Option.bind (Store.ldPtr σ (Hdl.idx h8 i6 1)) fun x11 ↦
          Option.bind (Γ (Fun.fn 33) [AV.ptr x11, AV.int IntKind.i64 i10] σ) fun x12 ↦
            Option.bind (AV.asBool (Prod.fst x12)) fun x13 ↦
              if x13 = true then
                Option.bind (Γ (Fun.fn 58) [AV.ptr x11, AV.int IntKind.i64 i10, AV.bool x13] (Prod.snd x12)) fun x14 ↦
                  Option.bind (AV.asInt IntKind.i64 (Prod.fst x14)) fun x15 ↦ some (Sum.inl ([AV.int IntKind.i64 (IntKind.wrap IntKind.i64 (i6 + 1)), AV.int IntKind.i64 i7, AV.slice h8, AV.int IntKind.i64 (IntKind.wrap IntKind.i64 (IntKind.wrap IntKind.i64 (2 * i9) + 1)), AV.int IntKind.i64 x15], Prod.snd x14))
              else Option.bind (Γ (Fun.fn 58) [AV.ptr x11, AV.int IntKind.i64 i10, AV.bool x13] (Prod.snd x12)) fun x16 ↦ Option.bind (AV.asInt IntKind.i64 (Prod.fst x16)) fun x17 ↦ some (Sum.inl ([AV.int IntKind.i64 (IntKind.wrap IntKind.i64 (i6 + 1)), AV.int IntKind.i64 i7, AV.slice h8, AV.int IntKind.i64 (IntKind.wrap IntKind.i64 (2 * i9)), AV.int IntKind.i64 x17], Prod.snd x16))
      else none
    else some (Sum.inr (AX.exit 0, [(5, AV.int IntKind.i64 i9)], σ)) := by intros; kernel_rfl

theorem f34_X111010_1 : ∀ (Γ : Gam) (k : Nat) (σ : Store) (i18 : Int), contF Try.prog Γ drawn k Try.f34 [1, 1, 1, 0, 1, 0] (AX.exit 0, [(5, AV.int IntKind.i64 i18)], σ) = some (AV.int IntKind.i64 i18, σ) := by intros; kernel_rfl

theorem f35_eq : ∀ (Γ : Gam) (k : Nat) (σ : Store) (p0 : Ptr) (i1 i2 : Int),
  evBody Try.prog Γ drawn k Try.f35 [AV.ptr p0, AV.int IntKind.i64 i1, AV.int IntKind.i64 i2] σ =
    Option.bind (Γ (Fun.fn 59) [AV.ptr p0, AV.int IntKind.i64 i1] σ) fun x3 ↦
      Option.bind (AV.asBool (Prod.fst x3)) fun x4 ↦
        if (!x4) = true then some (AV.int IntKind.i64 0, Prod.snd x3)
        else
          Option.bind p0 fun x5 ↦
            Option.bind (Store.ldInt (Prod.snd x3) IntKind.i64 (Ptr.add (some x5) 0)) fun x6 ↦
              Option.bind (Γ (Fun.fn 60) [AV.ptr p0, AV.int IntKind.i64 i1, AV.int IntKind.i64 (mx2 (Int.ofNat 0) (mn2 i2 x6))] (Prod.snd x3)) fun x7 ↦
                Option.bind (AV.item 0 2 (Prod.fst x7)) fun x8 ↦ Option.bind (AV.asInt IntKind.i64 x8) fun x9 ↦ Option.bind (AV.item 1 2 (Prod.fst x7)) fun x10 ↦ Option.bind (AV.asInt IntKind.i64 x10) fun x11 ↦ some (AV.int IntKind.i64 (IntKind.wrap IntKind.i64 (x11 - x9)), Prod.snd x7) := by intros; kernel_rfl

theorem f36_eq : ∀ (Γ : Gam) (k : Nat) (σ : Store) (h0 : Hdl) (i1 i2 i3 : Int),
  evBody Try.prog Γ drawn k Try.f36 [AV.slice h0, AV.int IntKind.i64 i1, AV.int IntKind.i64 i2, AV.int IntKind.i64 i3] σ =
    Option.bind (loopF Try.prog Γ drawn k Try.f36 [1, 1, 0, 1, 0] [14, 13, 12, 9, 3, 2, 1] ([AV.int IntKind.i64 0, AV.int IntKind.i64 (↑(Hdl.len h0) : Int), AV.slice h0, AV.int IntKind.i64 0, AV.int IntKind.i64 i3, AV.int IntKind.i64 i2, AV.int IntKind.i64 i1], σ)) (contF Try.prog Γ drawn k Try.f36 [1, 1, 0, 1, 0]) := by intros; kernel_rfl

theorem f36_L11010 : ∀ (Γ : Gam) (k : Nat) (σ : Store) (i4 i5 : Int) (h6 : Hdl) (i7 i8 i9 i10 : Int),
  stepF Try.prog Γ drawn k Try.f36 [1, 1, 0, 1, 0] [14, 13, 12, 9, 3, 2, 1] ([AV.int IntKind.i64 i4, AV.int IntKind.i64 i5, AV.slice h6, AV.int IntKind.i64 i7, AV.int IntKind.i64 i8, AV.int IntKind.i64 i9, AV.int IntKind.i64 i10], σ) =
    if decide (i4 < i5) = true then
      if 0 ≤ i4 ∧ i4 < (↑(Hdl.len h6) : Int) then
        Option.bind (Store.ldInt σ IntKind.i64 (Hdl.idx h6 i4 1)) fun x11 ↦
          if decide (x11 = i10) = true then
            if decide (i9 ≤ i4) = true then
              if decide (i4 < i8) = true then some (Sum.inl ([AV.int IntKind.i64 (IntKind.wrap IntKind.i64 (i4 + 1)), AV.int IntKind.i64 i5, AV.slice h6, AV.int IntKind.i64 (IntKind.wrap IntKind.i64 (i7 + 1)), AV.int IntKind.i64 i8, AV.int IntKind.i64 i9, AV.int IntKind.i64 i10], σ))
              else some (Sum.inl ([AV.int IntKind.i64 (IntKind.wrap IntKind.i64 (i4 + 1)), AV.int IntKind.i64 i5, AV.slice h6, AV.int IntKind.i64 i7, AV.int IntKind.i64 i8, AV.int IntKind.i64 i9, AV.int IntKind.i64 i10], σ))
            else some (Sum.inl ([AV.int IntKind.i64 (IntKind.wrap IntKind.i64 (i4 + 1)), AV.int IntKind.i64 i5, AV.slice h6, AV.int IntKind.i64 i7, AV.int IntKind.i64 i8, AV.int IntKind.i64 i9, AV.int IntKind.i64 i10], σ))
          else some (Sum.inl ([AV.int IntKind.i64 (IntKind.wrap IntKind.i64 (i4 + 1)), AV.int IntKind.i64 i5, AV.slice h6, AV.int IntKind.i64 i7, AV.int IntKind.i64 i8, AV.int IntKind.i64 i9, AV.int IntKind.i64 i10], σ))
      else none
    else some (Sum.inr (AX.exit 0, [(9, AV.int IntKind.i64 i7)], σ)) := by intros; kernel_rfl

theorem f36_X11010_1 : ∀ (Γ : Gam) (k : Nat) (σ : Store) (i12 : Int), contF Try.prog Γ drawn k Try.f36 [1, 1, 0, 1, 0] (AX.exit 0, [(9, AV.int IntKind.i64 i12)], σ) = some (AV.int IntKind.i64 i12, σ) := by intros; kernel_rfl

theorem f38_eq : ∀ (Γ : Gam) (k : Nat) (σ : Store) (h0 : Hdl) (i1 i2 : Int),
  evBody Try.prog Γ drawn k Try.f38 [AV.slice h0, AV.int IntKind.i64 i1, AV.int IntKind.i64 i2] σ = Option.bind (loopF Try.prog Γ drawn k Try.f38 [1, 1, 0, 1, 0] [12, 11, 10, 7, 2, 1] ([AV.int IntKind.i64 0, AV.int IntKind.i64 (↑(Hdl.len h0) : Int), AV.slice h0, AV.slice Hdl.nil, AV.int IntKind.i64 i2, AV.int IntKind.i64 i1], σ)) (contF Try.prog Γ drawn k Try.f38 [1, 1, 0, 1, 0]) := by intros; kernel_rfl

theorem f38_L11010 : ∀ (Γ : Gam) (k : Nat) (σ : Store) (i3 i4 : Int) (h5 h6 : Hdl) (i7 i8 : Int),
  stepF Try.prog Γ drawn k Try.f38 [1, 1, 0, 1, 0] [12, 11, 10, 7, 2, 1] ([AV.int IntKind.i64 i3, AV.int IntKind.i64 i4, AV.slice h5, AV.slice h6, AV.int IntKind.i64 i7, AV.int IntKind.i64 i8], σ) =
    if decide (i3 < i4) = true then
      if 0 ≤ i3 ∧ i3 < (↑(Hdl.len h5) : Int) then
        Option.bind (Store.ldInt σ IntKind.i64 (Hdl.idx h5 i3 1)) fun x9 ↦
          if decide (i8 ≤ i3) = true then
            if decide (i3 < i7) = true then
              Option.bind (Store.readSl (Store.push σ [AV.int IntKind.i64 x9] 1) { a := some (List.length (Store.objs σ), 0), len := 1, cap := some 1 } 1) fun x10 ↦
                Option.bind (Store.app (Store.push σ [AV.int IntKind.i64 x9] 1) h6 1 8 x10 1) fun x11 ↦ some (Sum.inl ([AV.int IntKind.i64 (IntKind.wrap IntKind.i64 (i3 + 1)), AV.int IntKind.i64 i4, AV.slice h5, AV.slice (Prod.fst x11), AV.int IntKind.i64 i7, AV.int IntKind.i64 i8], Prod.snd x11))
            else some (Sum.inl ([AV.int IntKind.i64 (IntKind.wrap IntKind.i64 (i3 + 1)), AV.int IntKind.i64 i4, AV.slice h5, AV.slice h6, AV.int IntKind.i64 i7, AV.int IntKind.i64 i8], σ))
          else some (Sum.inl ([AV.int IntKind.i64 (IntKind.wrap IntKind.i64 (i3 + 1)), AV.int IntKind.i64 i4, AV.slice h5, AV.slice h6, AV.int IntKind.i64 i7, AV.int IntKind.i64 i8], σ))
      else none
    else some (Sum.inr (AX.exit 0, [(7, AV.slice h6)], σ)) := by intros; kernel_rfl

theorem f38_X11010_1 : ∀ (Γ : Gam) (k : Nat) (σ : Store) (h12 : Hdl), contF Try.prog Γ drawn k Try.f38 [1, 1, 0, 1, 0] (AX.exit 0, [(7, AV.slice h12)], σ) = some (AV.slice h12, σ) := by intros; kernel_rfl

theorem f39_eq : ∀ (Γ : Gam) (k : Nat) (σ : Store) (h0 : Hdl), evBody Try.prog Γ drawn k Try.f39 [AV.slice h0] σ = Option.bind (loopF Try.prog Γ drawn k Try.f39 [1, 1, 0, 1, 0] [10, 9, 8, 3] ([AV.int IntKind.i64 0, AV.int IntKind.i64 (↑(Hdl.len h0) : Int), AV.slice h0, AV.slice Hdl.nil], σ)) (contF Try.prog Γ drawn k Try.f39 [1, 1, 0, 1, 0]) := by intros; kernel_rfl

theorem f39_L11010 : ∀ (Γ : Gam) (k : Nat) (σ : Store) (i1 i2 : Int) (h3 h4 : Hdl),
  stepF Try.prog Γ drawn k Try.f39 [1, 1, 0, 1, 0] [10, 9, 8, 3] ([AV.int IntKind.i64 i1, AV.int IntKind.i64 i2, AV.slice h3, AV.slice h4], σ) =
    if decide (i1 < i2) = true then
      if 0 ≤ i1 ∧ i1 < (↑(Hdl.len h3) : Int) then
        Option.bind (Store.ldInt σ IntKind.i64 (Hdl.idx h3 i1 1)) fun x5 ↦ Option.bind (loopF Try.prog Γ drawn k Try.f39 [1, 1, 0, 1, 0, 0, 1, 1, 0, 0, 1, 1, 0, 0] [10, 9, 8, 6, 5, 3] ([AV.int IntKind.i64 i1, AV.int IntKind.i64 i2, AV.slice h3, AV.int IntKind.i64 0, AV.int IntKind.i64 x5, AV.slice h4], σ)) (contFL Try.prog Γ drawn k Try.f39 [1, 1, 0, 1, 0] [10, 9, 8, 3] [1, 1, 0, 0, 1, 1, 0, 0])
      else none
    else some (Sum.inr (AX.exit 0, [(3, AV.slice h4)], σ)) := by intros; kernel_rfl

theorem f39_X11010_1 : ∀ (Γ : Gam) (k : Nat) (σ : Store) (h6 : Hdl), contF Try.prog Γ drawn k Try.f39 [1, 1, 0, 1, 0] (AX.exit 0, [(3, AV.slice h6)], σ) = some (AV.slice h6, σ) := by intros; kernel_rfl

theorem f39_L11010011001100 : ∀ (Γ : Gam) (k : Nat) (σ : Store) (i7 i8 : Int) (h9 : Hdl) (i10 i11 : Int) (h12 : Hdl),
  stepF Try.prog Γ drawn k Try.f39 [1, 1, 0, 1, 0, 0, 1, 1, 0, 0, 1, 1, 0, 0] [10, 9, 8, 6, 5, 3] ([AV.int IntKind.i64 i7, AV.int IntKind.i64 i8, AV.slice h9, AV.int IntKind.i64 i10, AV.int IntKind.i64 i11, AV.slice h12], σ) =
    if decide (i10 < (↑(Hdl.len h12) : Int)) = true then
      if 0 ≤ i10 ∧ i10 < (↑(Hdl.len h12) : Int) then
        Option.bind (Store.ldInt σ IntKind.i64 (Hdl.idx h12 i10 1)) fun x13 ↦
          if decide (x13 ≤ i11) = true then some (Sum.inl ([AV.int IntKind.i64 i7, AV.int IntKind.i64 i8, AV.slice h9, AV.int IntKind.i64 (IntKind.wrap IntKind.i64 (i10 + 1)), AV.int IntKind.i64 i11, AV.slice h12], σ))
          else some (Sum.inr (AX.exit 2, [(10, AV.int IntKind.i64 i7), (9, AV.int IntKind.i64 i8), (8, AV.slice h9), (6, AV.int IntKind.i64 i10), (5, AV.int IntKind.i64 i11), (3, AV.slice h12)], σ))
      else none
    else some (Sum.inr (AX.exit 2, [(10, AV.int IntKind.i64 i7), (9, AV.int IntKind.i64 i8), (8, AV.slice h9), (6, AV.int IntKind.i64 i10), (5, AV.int IntKind.i64 i11), (3, AV.slice h12)], σ)) := by intros; kernel_rfl

theorem f39_X11010011001100_1 : ∀ (Γ : Gam) (k : Nat) (σ : Store) (i14 i15 : Int) (h16 : Hdl) (i17 i18 : Int) (h19 : Hdl),
  contFL Try.prog Γ drawn k Try.f39 [1, 1, 0, 1, 0] [10, 9, 8, 3] [1, 1, 0, 0, 1, 1, 0, 0] (AX.exit 2, [(10, AV.int IntKind.i64 i14), (9, AV.int IntKind.i64 i15), (8, AV.slice h16), (6, AV.int IntKind.i64 i17), (5, AV.int IntKind.i64 i18), (3, AV.slice h19)], σ) =
    Option.bind (Store.readSl (Store.push σ [AV.int IntKind.i64 0] 1) { a := some (List.length (Store.objs σ), 0), len := 1, cap := some 1 } 1) fun x20 ↦
      Option.bind (Store.app (Store.push σ [AV.int IntKind.i64 0] 1) h19 1 8 x20 1) fun x21 ↦
        Option.bind (loopF Try.prog Γ drawn k Try.f39 [1, 1, 0, 1, 0, 0, 1, 1, 0, 0, 1, 1, 1, 1, 0, 1, 0] [10, 9, 8, 7, 6, 5, 3] ([AV.int IntKind.i64 i14, AV.int IntKind.i64 i15, AV.slice h16, AV.int IntKind.i64 (IntKind.wrap IntKind.i64 ((↑(Hdl.len (Prod.fst x21)) : Int) - 1)), AV.int IntKind.i64 i17, AV.int IntKind.i64 i18, AV.slice (Prod.fst x21)], Prod.snd x21))
          (contFL Try.prog Γ drawn k Try.f39 [1, 1, 0, 1, 0] [10, 9, 8, 3] [1, 1, 0, 0, 1, 1, 1, 1, 0, 1, 0]) := by intros; kernel_rfl

theorem f39_L11010011001111010 : ∀ (Γ : Gam) (k : Nat) (σ : Store) (i22 i23 : Int) (h24 : Hdl) (i25 i26 i27 : Int) (h28 : Hdl),
  stepF Try.prog Γ drawn k Try.f39 [1, 1, 0, 1, 0, 0, 1, 1, 0, 0, 1, 1, 1, 1, 0, 1, 0] [10, 9, 8, 7, 6, 5, 3] ([AV.int IntKind.i64 i22, AV.int IntKind.i64 i23, AV.slice h24, AV.int IntKind.i64 i25, AV.int IntKind.i64 i26, AV.int IntKind.i64 i27, AV.slice h28], σ) =
    if decide (i26 < i25) = true then
      if 0 ≤ IntKind.wrap IntKind.i64 (i25 - 1) ∧ IntKind.wrap IntKind.i64 (i25 - 1) < (↑(Hdl.len h28) : Int) then
        Option.bind (Store.ldInt σ IntKind.i64 (Hdl.idx h28 (IntKind.wrap IntKind.i64 (i25 - 1)) 1)) fun x29 ↦
          if 0 ≤ i25 ∧ i25 < (↑(Hdl.len h28) : Int) then Option.bind (Store.stL σ (Hdl.idx h28 i25 1) [AV.int IntKind.i64 x29] 0) fun x30 ↦ some (Sum.inl ([AV.int IntKind.i64 i22, AV.int IntKind.i64 i23, AV.slice h24, AV.int IntKind.i64 (IntKind.wrap IntKind.i64 (i25 - 1)), AV.int IntKind.i64 i26, AV.int IntKind.i64 i27, AV.slice h28], x30)) else none
      else none
    else some (Sum.inr (AX.exit 4, [(10, AV.int IntKind.i64 i22), (9, AV.int IntKind.i64 i23), (8, AV.slice h24), (6, AV.int IntKind.i64 i26), (5, AV.int IntKind.i64 i27), (3, AV.slice h28)], σ)) := by intros; kernel_rfl

theorem f39_X11010011001111010_1 : ∀ (Γ : Gam) (k : Nat) (σ : Store) (i31 i32 : Int) (h33 : Hdl) (i34 i35 : Int) (h36 : Hdl),
  contFL Try.prog Γ drawn k Try.f39 [1, 1, 0, 1, 0] [10, 9, 8, 3] [1, 1, 0, 0, 1, 1, 1, 1, 0, 1, 0] (AX.exit 4, [(10, AV.int IntKind.i64 i31), (9, AV.int IntKind.i64 i32), (8, AV.slice h33), (6, AV.int IntKind.i64 i34), (5, AV.int IntKind.i64 i35), (3, AV.slice h36)], σ) =
    if 0 ≤ i34 ∧ i34 < (↑(Hdl.len h36) : Int) then Option.bind (Store.stL σ (Hdl.idx h36 i34 1) [AV.int IntKind.i64 i35] 0) fun x37 ↦ some (Sum.inl ([AV.int IntKind.i64 (IntKind.wrap IntKind.i64 (i31 + 1)), AV.int IntKind.i64 i32, AV.slice h33, AV.slice h36], x37)) else none := by intros; kernel_rfl

theorem f40_eq : ∀ (Γ : Gam) (k : Nat) (σ : Store) (p0 : Ptr) (i1 i2 i3 : Int),
  evBody Try.prog Γ drawn k Try.f40 [AV.ptr p0, AV.int IntKind.i64 i1, AV.int IntKind.i64 i2, AV.int IntKind.i64 i3] σ =
    Option.bind (Γ (Fun.fn 65) [AV.ptr p0, AV.int IntKind.i64 i1, AV.int IntKind.i64 i2] σ) fun x4 ↦
      Option.bind (AV.item 0 2 (Prod.fst x4)) fun x5 ↦
        Option.bind (AV.asInt IntKind.i64 x5) fun x6 ↦
          Option.bind (AV.item 1 2 (Prod.fst x4)) fun x7 ↦
            Option.bind (AV.asInt IntKind.i64 x7) fun x8 ↦
              Option.bind (Γ (Fun.fn 31) [AV.ptr p0] (Prod.snd x4)) fun x9 ↦
                Option.bind (AV.asInt IntKind.i64 (Prod.fst x9)) fun x10 ↦
                  if decide (x10 ≤ x6) = true then some (AV.int IntKind.i64 (-1), Prod.snd x9)
                  else
                    if decide (i3 < 0) = true then some (AV.int IntKind.i64 (-1), Prod.snd x9)
                    else
                      if decide (IntKind.wrap IntKind.i64 (x8 - x6) ≤ i3) = true then some (AV.int IntKind.i64 (-1), Prod.snd x9)
                      else
                        Option.bind p0 fun x11 ↦
                          Option.bind (Store.ldSl (Prod.snd x9) (Ptr.add (some x11) 2)) fun x12 ↦
                            Option.bind (loopF Try.prog Γ drawn k Try.f40 [1, 1, 1, 1, 0, 1, 0] [41, 40, 39, 9, 3, 2, 1] ([AV.int IntKind.i64 0, AV.int IntKind.i64 (↑(Hdl.len x12) : Int), AV.slice x12, AV.int IntKind.i64 0, AV.int IntKind.i64 i3, AV.int IntKind.i64 x8, AV.int IntKind.i64 x6], Prod.snd x9)) (contF Try.prog Γ drawn k Try.f40 [1, 1, 1, 1, 0, 1, 0]) := by intros; kernel_rfl

theorem f40_L1111010 : ∀ (Γ : Gam) (k : Nat) (σ : Store) (i13 i14 : Int) (h15 : Hdl) (i16 i17 i18 i19 : Int),
  stepF Try.prog Γ drawn k Try.f40 [1, 1, 1, 1, 0, 1, 0] [41, 40, 39, 9, 3, 2, 1] ([AV.int IntKind.i64 i13, AV.int IntKind.i64 i14, AV.slice h15, AV.int IntKind.i64 i16, AV.int IntKind.i64 i17, AV.int IntKind.i64 i18, AV.int IntKind.i64 i19], σ) =
    if decide (i13 < i14) = true then
      if 0 ≤ i13 ∧ i13 < (↑(Hdl.len h15) : Int) then
        Option.bind (Store.ldPtr σ (Hdl.idx h15 i13 1)) fun x20 ↦
          Option.bind (Γ (Fun.fn 63) [AV.ptr x20, AV.int IntKind.i64 i18] σ) fun x21 ↦
            Option.bind (AV.asInt IntKind.i64 (Prod.fst x21)) fun x22 ↦
              Option.bind (Γ (Fun.fn 63) [AV.ptr x20, AV.int IntKind.i64 i19] (Prod.snd x21)) fun x23 ↦
                Option.bind (AV.asInt IntKind.i64 (Prod.fst x23)) fun x24 ↦
                  if decide (IntKind.wrap IntKind.i64 (x22 - x24) ≤ i17) = true then
                    Option.bind (Γ (Fun.fn 58) [AV.ptr x20, AV.int IntKind.i64 i19, AV.bool (decide (IntKind.wrap IntKind.i64 (x22 - x24) ≤ i17))] (Prod.snd x23)) fun x25 ↦
                      Option.bind (AV.asInt IntKind.i64 (Prod.fst x25)) fun x26 ↦
                        Option.bind (Γ (Fun.fn 58) [AV.ptr x20, AV.int IntKind.i64 i18, AV.bool (decide (IntKind.wrap IntKind.i64 (x22 - x24) ≤ i17))] (Prod.snd x25)) fun x27 ↦
                          Option.bind (AV.asInt IntKind.i64 (Prod.fst x27)) fun x28 ↦
                            some (Sum.inl ([AV.int IntKind.i64 (IntKind.wrap IntKind.i64 (i13 + 1)), AV.int IntKind.i64 i14, AV.slice h15, AV.int IntKind.i64 (IntKind.wrap IntKind.i64 (IntKind.wrap IntKind.i64 (2 * i16) + 1)), AV.int IntKind.i64 (IntKind.wrap IntKind.i64 (i17 - IntKind.wrap IntKind.i64 (x22 - x24))), AV.int IntKind.i64 x28, AV.int IntKind.i64 x26], Prod.snd x27))
                  else
                    Option.bind (Γ (Fun.fn 58) [AV.ptr x20, AV.int IntKind.i64 i19, AV.bool (decide (IntKind.wrap IntKind.i64 (x22 - x24) ≤ i17))] (Prod.snd x23)) fun x29 ↦
                      Option.bind (AV.asInt IntKind.i64 (Prod.fst x29)) fun x30 ↦
                        Option.bind (Γ (Fun.fn 58) [AV.ptr x20, AV.int IntKind.i64 i18, AV.bool (decide (IntKind.wrap IntKind.i64 (x22 - x24) ≤ i17))] (Prod.snd x29)) fun x31 ↦
                          Option.bind (AV.asInt IntKind.i64 (Prod.fst x31)) fun x32 ↦ some (Sum.inl ([AV.int IntKind.i64 (IntKind.wrap IntKind.i64 (i13 + 1)), AV.int IntKind.i64 i14, AV.slice h15, AV.int IntKind.i64 (IntKind.wrap IntKind.i64 (2 * i16)), AV.int IntKind.i64 i17, AV.int IntKind.i64 x32, AV.int IntKind.i64 x30], Prod.snd x31))
      else none
    else some (Sum.inr (AX.exit 0, [(9, AV.int IntKind.i64 i16)], σ)) := by intros; kernel_rfl

theorem f40_X1111010_1 : ∀ (Γ : Gam) (k : Nat) (σ : Store) (i33 : Int), contF Try.prog Γ drawn k Try.f40 [1, 1, 1, 1, 0, 1, 0] (AX.exit 0, [(9, AV.int IntKind.i64 i33)], σ) = some (AV.int IntKind.i64 i33, σ) := by intros; kernel_rfl

theorem f41_eq : ∀ (Γ : Gam) (k : Nat) (σ : Store) (p0 : Ptr) (i1 i2 i3 : Int),
  evBody Try.prog Γ drawn k Try.f41 [AV.ptr p0, AV.int IntKind.i64 i1, AV.int IntKind.i64 i2, AV.int IntKind.i64 i3] σ =
    Option.bind (Γ (Fun.fn 65) [AV.ptr p0, AV.int IntKind.i64 i1, AV.int IntKind.i64 i2] σ) fun x4 ↦
      Option.bind (AV.item 0 2 (Prod.fst x4)) fun x5 ↦
        Option.bind (AV.asInt IntKind.i64 x5) fun x6 ↦
          Option.bind (AV.item 1 2 (Prod.fst x4)) fun x7 ↦
            Option.bind (AV.asInt IntKind.i64 x7) fun x8 ↦
              Option.bind (Γ (Fun.fn 31) [AV.ptr p0] (Prod.snd x4)) fun x9 ↦
                Option.bind (AV.asInt IntKind.i64 (Prod.fst x9)) fun x10 ↦
                  if decide (x10 ≤ x6) = true then some (AV.int IntKind.i64 0, Prod.snd x9)
                  else
                    if decide (i3 ≤ 0) = true then some (AV.int IntKind.i64 0, Prod.snd x9)
                    else
                      Option.bind (Γ (Fun.fn 59) [AV.ptr p0, AV.int IntKind.i64 i3] (Prod.snd x9)) fun x11 ↦
                        Option.bind (AV.asBool (Prod.fst x11)) fun x12 ↦
                          if (!x12) = true then some (AV.int IntKind.i64 (IntKind.wrap IntKind.i64 (x8 - x6)), Prod.snd x11)
                          else
                            Option.bind p0 fun x13 ↦
                              Option.bind (Store.ldSl (Prod.snd x11) (Ptr.add (some x13) 2)) fun x14 ↦
                                Option.bind (loopF Try.prog Γ drawn k Try.f41 [1, 1, 1, 1, 0, 1, 0] [42, 41, 40, 9, 3, 2, 1, 0] ([AV.int IntKind.i64 0, AV.int IntKind.i64 (↑(Hdl.len x14) : Int), AV.slice x14, AV.int IntKind.i64 0, AV.int IntKind.i64 i3, AV.int IntKind.i64 x8, AV.int IntKind.i64 x6, AV.ptr p0], Prod.snd x11)) (contF Try.prog Γ drawn k Try.f41 [1, 1, 1, 1, 0, 1, 0]) := by intros; kernel_rfl

theorem f41_L1111010 : ∀ (Γ : Gam) (k : Nat) (σ : Store) (i15 i16 : Int) (h17 : Hdl) (i18 i19 i20 i21 : Int) (p22 : Ptr),
  stepF Try.prog Γ drawn k Try.f41 [1, 1, 1, 1, 0, 1, 0] [42, 41, 40, 9, 3, 2, 1, 0] ([AV.int IntKind.i64 i15, AV.int IntKind.i64 i16, AV.slice h17, AV.int IntKind.i64 i18, AV.int IntKind.i64 i19, AV.int IntKind.i64 i20, AV.int IntKind.i64 i21, AV.ptr p22], σ) =
    if decide (i15 < i16) = true then
      if 0 ≤ i15 ∧ i15 < (↑(Hdl.len h17) : Int) then
        Option.bind (Store.ldPtr σ (Hdl.idx h17 i15 1)) fun x23 ↦
          Option.bind p22 fun x24 ↦
            Option.bind (Store.ldInt σ IntKind.i64 (Ptr.add (some x24) 1)) fun x25 ↦
              if 0 ≤ IntKind.wrap IntKind.i64 (IntKind.wrap IntKind.i64 (x25 - 1) - i15) then
                if decide (bitOp BinOp.and IntKind.i64 (shrI IntKind.i64 i19 (IntKind.wrap IntKind.i64 (IntKind.wrap IntKind.i64 (x25 - 1) - i15))) 1 = 1) = true then
                  Option.bind (Γ (Fun.fn 63) [AV.ptr x23, AV.int IntKind.i64 i20] σ) fun x26 ↦
                    Option.bind (AV.asInt IntKind.i64 (Prod.fst x26)) fun x27 ↦
                      Option.bind (Γ (Fun.fn 63) [AV.ptr x23, AV.int IntKind.i64 i21] (Prod.snd x26)) fun x28 ↦
                        Option.bind (AV.asInt IntKind.i64 (Prod.fst x28)) fun x29 ↦
                          Option.bind (Γ (Fun.fn 58) [AV.ptr x23, AV.int IntKind.i64 i21, AV.bool (decide (bitOp BinOp.and IntKind.i64 (shrI IntKind.i64 i19 (IntKind.wrap IntKind.i64 (IntKind.wrap IntKind.i64 (x25 - 1) - i15))) 1 = 1))] (Prod.snd x28)) fun x30 ↦
                            Option.bind (AV.asInt IntKind.i64 (Prod.fst x30)) fun x31 ↦
                              Option.bind (Γ (Fun.fn 58) [AV.ptr x23, AV.int IntKind.i64 i20, AV.bool (decide (bitOp BinOp.and IntKind.i64 (shrI IntKind.i64 i19 (IntKind.wrap IntKind.i64 (IntKind.wrap IntKind.i64 (x25 - 1) - i15))) 1 = 1))] (Prod.snd x30)) fun x32 ↦
                                Option.bind (AV.asInt IntKind.i64 (Prod.fst x32)) fun x33 ↦ some (Sum.inl ([AV.int IntKind.i64 (IntKind.wrap IntKind.i64 (i15 + 1)), AV.int IntKind.i64 i16, AV.slice h17, AV.int IntKind.i64 (IntKind.wrap IntKind.i64 (i18 + IntKind.wrap IntKind.i64 (x27 - x29))), AV.int IntKind.i64 i19, AV.int IntKind.i64 x33, AV.int IntKind.i64 x31, AV.ptr p22], Prod.snd x32))
                else
                  Option.bind (Γ (Fun.fn 58) [AV.ptr x23, AV.int IntKind.i64 i21, AV.bool (decide (bitOp BinOp.and IntKind.i64 (shrI IntKind.i64 i19 (IntKind.wrap IntKind.i64 (IntKind.wrap IntKind.i64 (x25 - 1) - i15))) 1 = 1))] σ) fun x34 ↦
                    Option.bind (AV.asInt IntKind.i64 (Prod.fst x34)) fun x35 ↦
                      Option.bind (Γ (Fun.fn 58) [AV.ptr x23, AV.int IntKind.i64 i20, AV.bool (decide (bitOp BinOp.and IntKind.i64 (shrI IntKind.i64 i19 (IntKind.wrap IntKind.i64 (IntKind.wrap IntKind.i64 (x25 - 1) - i15))) 1 = 1))] (Prod.snd x34)) fun x36 ↦
                        Option.bind (AV.asInt IntKind.i64 (Prod.fst x36)) fun x37 ↦ some (Sum.inl ([AV.int IntKind.i64 (IntKind.wrap IntKind.i64 (i15 + 1)), AV.int IntKind.i64 i16, AV.slice h17, AV.int IntKind.i64 i18, AV.int IntKind.i64 i19, AV.int IntKind.i64 x37, AV.int IntKind.i64 x35, AV.ptr p22], Prod.snd x36))
              else none
      else none
    else some (Sum.inr (AX.exit 1, [(9, AV.int IntKind.i64 i18)], σ)) := by intros; kernel_rfl

theorem f41_X1111010_1 : ∀ (Γ : Gam) (k : Nat) (σ : Store) (i38 : Int), contF Try.prog Γ drawn k Try.f41 [1, 1, 1, 1, 0, 1, 0] (AX.exit 1, [(9, AV.int IntKind.i64 i38)], σ) = some (AV.int IntKind.i64 i38, σ) := by intros; kernel_rfl

theorem f42_eq : ∀ (Γ : Gam) (k : Nat) (σ : Store) (h0 h1 : Hdl),
  evBody Try.prog Γ drawn k Try.f42 [AV.slice h0, AV.slice h1] σ = if decide ((↑(Hdl.len h0) : Int) ≠ (↑(Hdl.len h1) : Int)) = true then some (AV.bool false, σ) else Option.bind (loopF Try.prog Γ drawn k Try.f42 [1, 1, 0, 1, 0] [13, 12, 1, 0] ([AV.int IntKind.i64 0, AV.int IntKind.i64 (↑(Hdl.len h0) : Int), AV.slice h1, AV.slice h0], σ)) (contF Try.prog Γ drawn k Try.f42 [1, 1, 0, 1, 0]) := by intros; kernel_rfl

theorem f42_L11010 : ∀ (Γ : Gam) (k : Nat) (σ : Store) (i2 i3 : Int) (h4 h5 : Hdl),
  stepF Try.prog Γ drawn k Try.f42 [1, 1, 0, 1, 0] [13, 12, 1, 0] ([AV.int IntKind.i64 i2, AV.int IntKind.i64 i3, AV.slice h4, AV.slice h5], σ) =
    if decide (i2 < i3) = true then
      if 0 ≤ i2 ∧ i2 < (↑(Hdl.len h5) : Int) then
        Option.bind (Store.ldInt σ IntKind.i64 (Ptr.add (Hdl.idx h5 i2 2) 0)) fun x6 ↦
          Option.bind (Store.ldInt σ IntKind.i64 (Ptr.add (Hdl.idx h5 i2 2) 1)) fun x7 ↦
            if 0 ≤ i2 ∧ i2 < (↑(Hdl.len h4) : Int) then
              Option.bind (Store.ldInt σ IntKind.i64 (Ptr.add (Hdl.idx h4 i2 2) 0)) fun x8 ↦
                Option.bind (Store.ldInt σ IntKind.i64 (Ptr.add (Hdl.idx h4 i2 2) 1)) fun x9 ↦ if (!(decide (x6 = x8) && (decide (x7 = x9) && true))) = true then some (Sum.inr (AX.ret, [(4, AV.bool false)], σ)) else some (Sum.inl ([AV.int IntKind.i64 (IntKind.wrap IntKind.i64 (i2 + 1)), AV.int IntKind.i64 i3, AV.slice h4, AV.slice h5], σ))
            else none
      else none
    else some (Sum.inr (AX.exit 0, [], σ)) := by intros; kernel_rfl

theorem f42_X11010_2 : ∀ (Γ : Gam) (k : Nat) (σ : Store), contF Try.prog Γ drawn k Try.f42 [1, 1, 0, 1, 0] (AX.exit 0, [], σ) = some (AV.bool true, σ) := by intros; kernel_rfl

theorem f43_eq : ∀ (Γ : Gam) (k : Nat) (σ : Store) (p0 : Ptr) (i1 i2 : Int),
  evBody Try.prog Γ drawn k Try.f43 [AV.ptr p0, AV.int IntKind.i64 i1, AV.int IntKind.i64 i2] σ =
    Option.bind (Γ (Fun.fn 65) [AV.ptr p0, AV.int IntKind.i64 i1, AV.int IntKind.i64 i2] σ) fun x3 ↦
      Option.bind (AV.item 0 2 (Prod.fst x3)) fun x4 ↦
        Option.bind (AV.asInt IntKind.i64 x4) fun x5 ↦
          Option.bind (AV.item 1 2 (Prod.fst x3)) fun x6 ↦
            Option.bind (AV.asInt IntKind.i64 x6) fun x7 ↦
              Option.bind (Γ (Fun.fn 31) [AV.ptr p0] (Prod.snd x3)) fun x8 ↦
                Option.bind (AV.asInt IntKind.i64 (Prod.fst x8)) fun x9 ↦ if decide (x9 ≤ x5) = true then some (AV.slice Hdl.nil, Prod.snd x8) else Option.bind (Γ (Fun.fn 66) [AV.ptr p0, AV.slice Hdl.nil, AV.int IntKind.i64 0, AV.int IntKind.i64 0, AV.int IntKind.i64 x5, AV.int IntKind.i64 x7] (Prod.snd x8)) fun x10 ↦ Option.bind (AV.asSl (Prod.fst x10)) fun x11 ↦ some (AV.slice x11, Prod.snd x10) := by intros; kernel_rfl

theorem f44_eq : ∀ (Γ : Gam) (k : Nat) (σ : Store) (h0 : Hdl),
  evBody Try.prog Γ drawn k Try.f44 [AV.slice h0] σ = Option.bind (Γ (Fun.fn 39) [AV.slice h0] σ) fun x1 ↦ Option.bind (AV.asSl (Prod.fst x1)) fun x2 ↦ Option.bind (loopF Try.prog Γ drawn k Try.f44 [1, 1, 0, 1, 0] [9, 8, 7, 3] ([AV.int IntKind.i64 0, AV.int IntKind.i64 (↑(Hdl.len x2) : Int), AV.slice x2, AV.slice Hdl.nil], Prod.snd x1)) (contF Try.prog Γ drawn k Try.f44 [1, 1, 0, 1, 0]) := by intros; kernel_rfl

theorem f44_L11010 : ∀ (Γ : Gam) (k : Nat) (σ : Store) (i3 i4 : Int) (h5 h6 : Hdl),
  stepF Try.prog Γ drawn k Try.f44 [1, 1, 0, 1, 0] [9, 8, 7, 3] ([AV.int IntKind.i64 i3, AV.int IntKind.i64 i4, AV.slice h5, AV.slice h6], σ) =
    if decide (i3 < i4) = true then
      if 0 ≤ i3 ∧ i3 < (↑(Hdl.len h5) : Int) then
        Option.bind (Store.ldInt σ IntKind.i64 (Hdl.idx h5 i3 1)) fun x7 ↦
          if decide (0 < (↑(Hdl.len h6) : Int)) = true then
            if 0 ≤ IntKind.wrap IntKind.i64 ((↑(Hdl.len h6) : Int) - 1) ∧ IntKind.wrap IntKind.i64 ((↑(Hdl.len h6) : Int) - 1) < (↑(Hdl.len h6) : Int) then
              Option.bind (Hdl.idx h6 (IntKind.wrap IntKind.i64 ((↑(Hdl.len h6) : Int) - 1)) 2) fun x8 ↦
                Option.bind (Store.ldInt σ IntKind.i64 (Ptr.add (some x8) 0)) fun x9 ↦
                  if decide (x9 = x7) = true then
                    if 0 ≤ IntKind.wrap IntKind.i64 ((↑(Hdl.len h6) : Int) - 1) ∧ IntKind.wrap IntKind.i64 ((↑(Hdl.len h6) : Int) - 1) < (↑(Hdl.len h6) : Int) then
                      Option.bind (Hdl.idx h6 (IntKind.wrap IntKind.i64 ((↑(Hdl.len h6) : Int) - 1)) 2) fun x10 ↦
                        Option.bind (Store.ldInt σ IntKind.i64 (Ptr.add (some x10) 1)) fun x11 ↦
                          if 0 ≤ IntKind.wrap IntKind.i64 ((↑(Hdl.len h6) : Int) - 1) ∧ IntKind.wrap IntKind.i64 ((↑(Hdl.len h6) : Int) - 1) < (↑(Hdl.len h6) : Int) then
                            Option.bind (Hdl.idx h6 (IntKind.wrap IntKind.i64 ((↑(Hdl.len h6) : Int) - 1)) 2) fun x12 ↦ Option.bind (Store.stL σ (Ptr.add (some x12) 1) [AV.int IntKind.i64 (IntKind.wrap IntKind.i64 (x11 + 1))] 0) fun x13 ↦ some (Sum.inl ([AV.int IntKind.i64 (IntKind.wrap IntKind.i64 (i3 + 1)), AV.int IntKind.i64 i4, AV.slice h5, AV.slice h6], x13))
                          else none
                    else none
                  else
                    Option.bind (Store.readSl (Store.push σ [AV.int IntKind.i64 x7, AV.int IntKind.i64 1] 2) { a := some (List.length (Store.objs σ), 0), len := 1, cap := some 1 } 2) fun x14 ↦
                      Option.bind (Store.app (Store.push σ [AV.int IntKind.i64 x7, AV.int IntKind.i64 1] 2) h6 2 16 x14 1) fun x15 ↦ some (Sum.inl ([AV.int IntKind.i64 (IntKind.wrap IntKind.i64 (i3 + 1)), AV.int IntKind.i64 i4, AV.slice h5, AV.slice (Prod.fst x15)], Prod.snd x15))
            else none
          else
            Option.bind (Store.readSl (Store.push σ [AV.int IntKind.i64 x7, AV.int IntKind.i64 1] 2) { a := some (List.length (Store.objs σ), 0), len := 1, cap := some 1 } 2) fun x16 ↦
              Option.bind (Store.app (Store.push σ [AV.int IntKind.i64 x7, AV.int IntKind.i64 1] 2) h6 2 16 x16 1) fun x17 ↦ some (Sum.inl ([AV.int IntKind.i64 (IntKind.wrap IntKind.i64 (i3 + 1)), AV.int IntKind.i64 i4, AV.slice h5, AV.slice (Prod.fst x17)], Prod.snd x17))
      else none
    else some (Sum.inr (AX.exit 0, [(3, AV.slice h6)], σ)) := by intros; kernel_rfl

theorem f44_X11010_1 : ∀ (Γ : Gam) (k : Nat) (σ : Store) (h18 : Hdl), contF Try.prog Γ drawn k Try.f44 [1, 1, 0, 1, 0] (AX.exit 0, [(3, AV.slice h18)], σ) = some (AV.slice h18, σ) := by intros; kernel_rfl

theorem f45_eq : ∀ (Γ : Gam) (k : Nat) (σ : Store) (h0 : Hdl),
  evBody Try.prog Γ drawn k Try.f45 [AV.slice h0] σ =
    if ((0 : Int) ≤ (↑(Hdl.len h0) : Int) ∧ (↑(Hdl.len h0) : Int) ≤ (↑(Hdl.len h0) : Int)) ∧ (↑(Hdl.len h0) : Int) * (↑(8 : Nat) : Int) ≤ (281474976710656 : Int) then
      Option.bind
        (loopF Try.prog Γ drawn k Try.f45 [(1 : Nat), (1 : Nat), (0 : Nat), (1 : Nat), (0 : Nat)] [(13 : Nat), (12 : Nat), (4 : Nat), (0 : Nat)]
          ([AV.int IntKind.i64 (0 : Int), AV.int IntKind.i64 (↑(Int.toNat (↑(Hdl.len h0) : Int)) : Int), AV.slice { a := some (List.length (Store.objs σ), (0 : Nat)), len := Int.toNat (↑(Hdl.len h0) : Int), cap := some (Int.toNat (↑(Hdl.len h0) : Int)) }, AV.slice h0], Store.push σ (mkCells [AV.int IntKind.i64 (0 : Int)] (Int.toNat (↑(Hdl.len h0) : Int))) (1 : Nat)))
        (contF Try.prog Γ drawn k Try.f45 [(1 : Nat), (1 : Nat), (0 : Nat), (1 : Nat), (0 : Nat)])
    else none := by intros; kernel_rfl

theorem f45_L11010 : ∀ (Γ : Gam) (k : Nat) (σ : Store) (i1 i2 : Int) (h3 h4 : Hdl),
  stepF Try.prog Γ drawn k Try.f45 [1, 1, 0, 1, 0] [13, 12, 4, 0] ([AV.int IntKind.i64 i1, AV.int IntKind.i64 i2, AV.slice h3, AV.slice h4], σ) =
    if decide (i1 < i2) = true then if 0 ≤ i1 ∧ i1 < (↑(Hdl.len h3) : Int) then Option.bind (Store.stL σ (Hdl.idx h3 i1 1) [AV.int IntKind.i64 (-1)] 0) fun x5 ↦ some (Sum.inl ([AV.int IntKind.i64 (IntKind.wrap IntKind.i64 (i1 + 1)), AV.int IntKind.i64 i2, AV.slice h3, AV.slice h4], x5)) else none else some (Sum.inr (AX.exit 0, [(4, AV.slice h3), (0, AV.slice h4)], σ)) := by intros; kernel_rfl

theorem f45_X11010_1 : ∀ (Γ : Gam) (k : Nat) (σ : Store) (h6 h7 : Hdl), contF Try.prog Γ drawn k Try.f45 [1, 1, 0, 1, 0] (AX.exit 0, [(4, AV.slice h6), (0, AV.slice h7)], σ) = Option.bind (loopF Try.prog Γ drawn k Try.f45 [1, 1, 1, 0, 1, 0] [22, 21, 20, 4, 0] ([AV.int IntKind.i64 0, AV.int IntKind.i64 (↑(Hdl.len h7) : Int), AV.slice h7, AV.slice h6, AV.slice h7], σ)) (contF Try.prog Γ drawn k Try.f45 [1, 1, 1, 0, 1, 0]) := by intros; kernel_rfl

theorem f45_L111010 : ∀ (Γ : Gam) (k : Nat) (σ : Store) (i8 i9 : Int) (h10 h11 h12 : Hdl),
  stepF Try.prog Γ drawn k Try.f45 [1, 1, 1, 0, 1, 0] [22, 21, 20, 4, 0] ([AV.int IntKind.i64 i8, AV.int IntKind.i64 i9, AV.slice h10, AV.slice h11, AV.slice h12], σ) =
    if decide (i8 < i9) = true then
      if 0 ≤ i8 ∧ i8 < (↑(Hdl.len h10) : Int) then
        Option.bind (Store.ldInt σ IntKind.i64 (Hdl.idx h10 i8 1)) fun x13 ↦
          if decide (x13 < 0) = true then some (Sum.inr (AX.ret, [(3, AV.int IntKind.i64 2), (2, AV.slice Hdl.nil)], σ))
          else
            if decide ((↑(Hdl.len h12) : Int) ≤ x13) = true then some (Sum.inr (AX.ret, [(3, AV.int IntKind.i64 2), (2, AV.slice Hdl.nil)], σ))
            else
              if 0 ≤ x13 ∧ x13 < (↑(Hdl.len h11) : Int) then
                Option.bind (Store.ldInt σ IntKind.i64 (Hdl.idx h11 x13 1)) fun x14 ↦
                  if decide (0 ≤ x14) = true then some (Sum.inr (AX.ret, [(3, AV.int IntKind.i64 2), (2, AV.slice Hdl.nil)], σ))
                  else if 0 ≤ x13 ∧ x13 < (↑(Hdl.len h11) : Int) then Option.bind (Store.stL σ (Hdl.idx h11 x13 1) [AV.int IntKind.i64 i8] 0) fun x15 ↦ some (Sum.inl ([AV.int IntKind.i64 (IntKind.wrap IntKind.i64 (i8 + 1)), AV.int IntKind.i64 i9, AV.slice h10, AV.slice h11, AV.slice h12], x15)) else none
              else none
      else none
    else some (Sum.inr (AX.exit 2, [(4, AV.slice h11)], σ)) := by intros; kernel_rfl

theorem f45_X111010_1 : ∀ (Γ : Gam) (k : Nat) (σ : Store) (i16 : Int) (h17 : Hdl), contF Try.prog Γ drawn k Try.f45 [1, 1, 1, 0, 1, 0] (AX.ret, [(3, AV.int IntKind.i64 i16), (2, AV.slice h17)], σ) = some (AV.tuple [AV.slice h17, AV.int IntKind.i64 i16], σ) := by intros; kernel_rfl

theorem f45_X111010_2 : ∀ (Γ : Gam) (k : Nat) (σ : Store) (h18 : Hdl), contF Try.prog Γ drawn k Try.f45 [1, 1, 1, 0, 1, 0] (AX.exit 2, [(4, AV.slice h18)], σ) = some (AV.tuple [AV.slice h18, AV.int IntKind.i64 0], σ) := by intros; kernel_rfl

theorem f46_eq : ∀ (Γ : Gam) (k : Nat) (σ : Store) (h0 : Hdl) (g1 : FuncId) (a2 c3 : List AV), evBody Try.prog Γ drawn k Try.f46 [AV.slice h0, AV.func g1 a2 c3] σ = Option.bind (Γ (Fun.fn 67) [AV.slice h0, AV.func g1 a2 c3] σ) fun x4 ↦ Option.bind (AV.asInt IntKind.i64 (Prod.fst x4)) fun x5 ↦ some (AV.bool (decide (0 ≤ x5)), Prod.snd x4) := by intros; kernel_rfl

theorem f47_eq : ∀ (Γ : Gam) (k : Nat) (σ : Store) (i0 : Int) (p1 : Ptr), evBody Try.prog Γ drawn k Try.f47 [AV.int IntKind.i64 i0, AV.ptr p1] σ = if decide (i0 < 0) = true then some (AV.bool true, σ) else Option.bind (Store.ldInt σ IntKind.i64 p1) fun x2 ↦ some (AV.bool (decide (x2 ≤ i0)), σ) := by intros; kernel_rfl

theorem f48_eq : ∀ (Γ : Gam) (k : Nat) (σ : Store) (h0 : Hdl),
  evBody Try.prog Γ drawn k Try.f48 [AV.slice h0] σ =
    if decide ((↑(Hdl.len h0) : Int) < (1 : Int)) = true then none
    else
      if (0 : Int) ≤ (0 : Int) ∧ (0 : Int) < (↑(Hdl.len h0) : Int) then
        Option.bind (Store.ldInt σ IntKind.i64 (Hdl.idx h0 (0 : Int) (1 : Nat))) fun x1 ↦
          Option.bind (loopF Try.prog Γ drawn k Try.f48 [(1 : Nat), (1 : Nat), (1 : Nat), (0 : Nat), (1 : Nat), (0 : Nat)] [(4 : Nat), (3 : Nat), (0 : Nat)] ([AV.int IntKind.i64 (1 : Int), AV.int IntKind.i64 x1, AV.slice h0], σ)) (contF Try.prog Γ drawn k Try.f48 [(1 : Nat), (1 : Nat), (1 : Nat), (0 : Nat), (1 : Nat), (0 : Nat)])
      else none := by intros; kernel_rfl

theorem f48_L111010 : ∀ (Γ : Gam) (k : Nat) (σ : Store) (i2 i3 : Int) (h4 : Hdl),
  stepF Try.prog Γ drawn k Try.f48 [1, 1, 1, 0, 1, 0] [4, 3, 0] ([AV.int IntKind.i64 i2, AV.int IntKind.i64 i3, AV.slice h4], σ) =
    if decide (i2 < (↑(Hdl.len h4) : Int)) = true then if 0 ≤ i2 ∧ i2 < (↑(Hdl.len h4) : Int) then Option.bind (Store.ldInt σ IntKind.i64 (Hdl.idx h4 i2 1)) fun x5 ↦ some (Sum.inl ([AV.int IntKind.i64 (IntKind.wrap IntKind.i64 (i2 + 1)), AV.int IntKind.i64 (mn2 i3 x5), AV.slice h4], σ)) else none else some (Sum.inr (AX.exit 0, [(3, AV.int IntKind.i64 i3)], σ)) := by intros; kernel_rfl

theorem f48_X111010_1 : ∀ (Γ : Gam) (k : Nat) (σ : Store) (i6 : Int), contF Try.prog Γ drawn k Try.f48 [1, 1, 1, 0, 1, 0] (AX.exit 0, [(3, AV.int IntKind.i64 i6)], σ) = some (AV.int IntKind.i64 i6, σ) := by intros; kernel_rfl

theorem f49_eq : ∀ (Γ : Gam) (k : Nat) (σ : Store) (h0 : Hdl) (i1 : Int), evBody Try.prog Γ drawn k Try.f49 [AV.slice h0, AV.int IntKind.i64 i1] σ = Option.bind (Γ (Fun.fn 68) [AV.slice h0, AV.int IntKind.i64 i1] σ) fun x2 ↦ Option.bind (AV.asInt IntKind.i64 (Prod.fst x2)) fun x3 ↦ some (AV.bool (decide (0 ≤ x3)), Prod.snd x2) := by intros; kernel_rfl

theorem f50_eq : ∀ (Γ : Gam) (k : Nat) (σ : Store) (h0 : Hdl) (i1 : Int),
  evBody Try.prog Γ drawn k Try.f50 [AV.slice h0, AV.int IntKind.i64 i1] σ =
    Option.bind (Store.ldInt (Store.push σ [AV.int IntKind.i64 i1] 1) IntKind.i64 (some (List.length (Store.objs σ), 0))) fun x2 ↦
      if decide (x2 < 0) = true then some (AV.tuple [AV.slice Hdl.nil, AV.int IntKind.i64 2], Store.push σ [AV.int IntKind.i64 i1] 1)
      else
        Option.bind (Store.ldInt (Store.push σ [AV.int IntKind.i64 i1] 1) IntKind.i64 (some (List.length (Store.objs σ), 0))) fun x3 ↦
          if decide (4194304 < x3) = true then some (AV.tuple [AV.slice Hdl.nil, AV.int IntKind.i64 2], Store.push σ [AV.int IntKind.i64 i1] 1)
          else
            if decide (4194304 < (↑(Hdl.len h0) : Int)) = true then some (AV.tuple [AV.slice Hdl.nil, AV.int IntKind.i64 2], Store.push σ [AV.int IntKind.i64 i1] 1)
            else
              Option.bind (Γ (Fun.fn 46) [AV.slice h0, AV.func 69 [] [AV.ptr (some (List.length (Store.objs σ), 0))]] (Store.push σ [AV.int IntKind.i64 i1] 1)) fun x4 ↦
                Option.bind (AV.asBool (Prod.fst x4)) fun x5 ↦
                  if x5 = true then some (AV.tuple [AV.slice Hdl.nil, AV.int IntKind.i64 2], Prod.snd x4)
                  else Option.bind (Store.ldInt (Prod.snd x4) IntKind.i64 (some (List.length (Store.objs σ), 0))) fun x6 ↦ Option.bind (Γ (Fun.fn 70) [AV.slice h0, AV.int IntKind.i64 x6] (Prod.snd x4)) fun x7 ↦ Option.bind (AV.asSl (Prod.fst x7)) fun x8 ↦ some (AV.tuple [AV.slice x8, AV.int IntKind.i64 0], Prod.snd x7) := by intros; kernel_rfl

theorem f51_eq : ∀ (Γ : Gam) (k : Nat) (σ : Store) (h0 h1 : Hdl),
  evBody Try.prog Γ drawn k Try.f51 [AV.slice h0, AV.slice h1] σ = if decide ((↑(Hdl.len h0) : Int) ≠ (↑(Hdl.len h1) : Int)) = true then some (AV.bool false, σ) else Option.bind (loopF Try.prog Γ drawn k Try.f51 [1, 1, 0, 1, 0] [13, 12, 1, 0] ([AV.int IntKind.i64 0, AV.int IntKind.i64 (↑(Hdl.len h0) : Int), AV.slice h1, AV.slice h0], σ)) (contF Try.prog Γ drawn k Try.f51 [1, 1, 0, 1, 0]) := by intros; kernel_rfl

theorem f51_L11010 : ∀ (Γ : Gam) (k : Nat) (σ : Store) (i2 i3 : Int) (h4 h5 : Hdl),
  stepF Try.prog Γ drawn k Try.f51 [1, 1, 0, 1, 0] [13, 12, 1, 0] ([AV.int IntKind.i64 i2, AV.int IntKind.i64 i3, AV.slice h4, AV.slice h5], σ) =
    if decide (i2 < i3) = true then
      if 0 ≤ i2 ∧ i2 < (↑(Hdl.len h5) : Int) then
        Option.bind (Store.ldInt σ IntKind.i64 (Hdl.idx h5 i2 1)) fun x6 ↦
          if 0 ≤ i2 ∧ i2 < (↑(Hdl.len h4) : Int) then Option.bind (Store.ldInt σ IntKind.i64 (Hdl.idx h4 i2 1)) fun x7 ↦ if decide (x6 ≠ x7) = true then some (Sum.inr (AX.ret, [(4, AV.bool false)], σ)) else some (Sum.inl ([AV.int IntKind.i64 (IntKind.wrap IntKind.i64 (i2 + 1)), AV.int IntKind.i64 i3, AV.slice h4, AV.slice h5], σ)) else none
      else none
    else some (Sum.inr (AX.exit 0, [], σ)) := by intros; kernel_rfl

theorem f51_X11010_1 : ∀ (Γ : Gam) (k : Nat) (σ : Store) (b8 : Bool), contF Try.prog Γ drawn k Try.f51 [1, 1, 0, 1, 0] (AX.ret, [(4, AV.bool b8)], σ) = some (AV.bool b8, σ) := by intros; kernel_rfl

theorem f51_X11010_2 : ∀ (Γ : Gam) (k : Nat) (σ : Store), contF Try.prog Γ drawn k Try.f51 [1, 1, 0, 1, 0] (AX.exit 0, [], σ) = some (AV.bool true, σ) := by intros; kernel_rfl

theorem f54_eq : ∀ (Γ : Gam) (k : Nat) (σ : Store) (h0 : Hdl) (i1 i2 : Int), evBody Try.prog Γ drawn k Try.f54 [AV.slice h0, AV.int IntKind.i64 i1, AV.int IntKind.i64 i2] σ = Option.bind (loopF Try.prog Γ drawn k Try.f54 [1, 0, 0] [2, 1, 0] ([AV.int IntKind.i64 i2, AV.int IntKind.i64 i1, AV.slice h0], σ)) (contF Try.prog Γ drawn k Try.f54 [1, 0, 0]) := by intros; kernel_rfl

theorem f54_L100 : ∀ (Γ : Gam) (k : Nat) (σ : Store) (i3 i4 : Int) (h5 : Hdl),
  stepF Try.prog Γ drawn k Try.f54 [1, 0, 0] [2, 1, 0] ([AV.int IntKind.i64 i3, AV.int IntKind.i64 i4, AV.slice h5], σ) =
    if decide (i4 < (↑(Hdl.len h5) : Int)) = true then
      if decide (i3 < (↑(Hdl.len h5) : Int)) = true then
        if 0 ≤ i4 ∧ i4 < (↑(Hdl.len h5) : Int) then
          Option.bind (Store.ldInt σ IntKind.i64 (Hdl.idx h5 i4 1)) fun x6 ↦
            if 0 ≤ i3 ∧ i3 < (↑(Hdl.len h5) : Int) then
              Option.bind (Store.ldInt σ IntKind.i64 (Hdl.idx h5 i3 1)) fun x7 ↦
                if decide (x6 ≠ x7) = true then if 0 ≤ i4 ∧ i4 < (↑(Hdl.len h5) : Int) then Option.bind (Store.ldInt σ IntKind.i64 (Hdl.idx h5 i4 1)) fun x8 ↦ if 0 ≤ i3 ∧ i3 < (↑(Hdl.len h5) : Int) then Option.bind (Store.ldInt σ IntKind.i64 (Hdl.idx h5 i3 1)) fun x9 ↦ some (Sum.inr (AX.ret, [(6, AV.bool (decide (x8 < x9)))], σ)) else none else none
                else some (Sum.inl ([AV.int IntKind.i64 (IntKind.wrap IntKind.i64 (i3 + 1)), AV.int IntKind.i64 (IntKind.wrap IntKind.i64 (i4 + 1)), AV.slice h5], σ))
            else none
        else none
      else some (Sum.inr (AX.exit 0, [(2, AV.int IntKind.i64 i3), (1, AV.int IntKind.i64 i4), (0, AV.slice h5)], σ))
    else some (Sum.inr (AX.exit 0, [(2, AV.int IntKind.i64 i3), (1, AV.int IntKind.i64 i4), (0, AV.slice h5)], σ)) := by intros; kernel_rfl

theorem f54_X100_1 : ∀ (Γ : Gam) (k : Nat) (σ : Store) (b10 : Bool), contF Try.prog Γ drawn k Try.f54 [1, 0, 0] (AX.ret, [(6, AV.bool b10)], σ) = some (AV.bool b10, σ) := by intros; kernel_rfl

theorem f54_X100_2 : ∀ (Γ : Gam) (k : Nat) (σ : Store) (i11 i12 : Int) (h13 : Hdl), contF Try.prog Γ drawn k Try.f54 [1, 0, 0] (AX.exit 0, [(2, AV.int IntKind.i64 i11), (1, AV.int IntKind.i64 i12), (0, AV.slice h13)], σ) = if decide (i12 = (↑(Hdl.len h13) : Int)) = true then some (AV.bool (decide (i11 < (↑(Hdl.len h13) : Int))), σ) else some (AV.bool false, σ) := by intros; kernel_rfl

theorem f55_eq : ∀ (Γ : Gam) (k : Nat) (σ : Store) (h0 : Hdl) (i1 : Int),
  evBody Try.prog Γ drawn k Try.f55 [AV.slice h0, AV.int IntKind.i64 i1] σ =
    Option.bind (Store.ldInt (Store.push σ [AV.int IntKind.i64 i1] 1) IntKind.i64 (some (List.length (Store.objs σ), 0))) fun x2 ↦
      if decide (x2 < 0) = true then some (AV.tuple [AV.ptr none, AV.int IntKind.i64 2], Store.push σ [AV.int IntKind.i64 i1] 1)
      else
        Option.bind (Store.ldInt (Store.push σ [AV.int IntKind.i64 i1] 1) IntKind.i64 (some (List.length (Store.objs σ), 0))) fun x3 ↦
          if decide (4194304 ≤ x3) = true then some (AV.tuple [AV.ptr none, AV.int IntKind.i64 2], Store.push σ [AV.int IntKind.i64 i1] 1)
          else
            if decide (4194304 < (↑(Hdl.len h0) : Int)) = true then some (AV.tuple [AV.ptr none, AV.int IntKind.i64 2], Store.push σ [AV.int IntKind.i64 i1] 1)
            else
              Option.bind (Γ (Fun.fn 46) [AV.slice h0, AV.func 71 [] [AV.ptr (some (List.length (Store.objs σ), 0))]] (Store.push σ [AV.int IntKind.i64 i1] 1)) fun x4 ↦
                Option.bind (AV.asBool (Prod.fst x4)) fun x5 ↦
                  if x5 = true then some (AV.tuple [AV.ptr none, AV.int IntKind.i64 2], Prod.snd x4)
                  else
                    Option.bind (Store.ldInt (Prod.snd x4) IntKind.i64 (some (List.length (Store.objs σ), 0))) fun x6 ↦
                      Option.bind (Γ (Fun.fn 72) [AV.int IntKind.u64 (IntKind.wrap IntKind.u64 x6)] (Prod.snd x4)) fun x7 ↦
                        Option.bind (AV.asInt IntKind.i64 (Prod.fst x7)) fun x8 ↦
                          Option.bind (Γ (Fun.fn 73) [AV.slice h0] (Store.push (Prod.snd x7) [AV.int IntKind.i64 (↑(Hdl.len h0) : Int), AV.int IntKind.i64 x8, AV.slice Hdl.nil] 3)) fun x9 ↦
                            Option.bind (AV.asSl (Prod.fst x9)) fun x10 ↦
                              Option.bind (Store.ldInt (Prod.snd x9) IntKind.i64 (Ptr.add (some (List.length (Store.objs (Prod.snd x7)), 0)) 1)) fun x11 ↦
                                Option.bind (loopF Try.prog Γ drawn k Try.f55 [1, 1, 1, 1, 0, 1, 0] [8, 7, 6] ([AV.int IntKind.i64 (IntKind.wrap IntKind.i64 (x11 - 1)), AV.slice x10, AV.ptr (some (List.length (Store.objs (Prod.snd x7)), 0))], Prod.snd x9)) (contF Try.prog Γ drawn k Try.f55 [1, 1, 1, 1, 0, 1, 0]) := by intros; kernel_rfl

theorem f55_L1111010 : ∀ (Γ : Gam) (k : Nat) (σ : Store) (i12 : Int) (h13 : Hdl) (p14 : Ptr),
  stepF Try.prog Γ drawn k Try.f55 [1, 1, 1, 1, 0, 1, 0] [8, 7, 6] ([AV.int IntKind.i64 i12, AV.slice h13, AV.ptr p14], σ) =
    if decide (0 ≤ i12) = true then
      Option.bind p14 fun x15 ↦
        Option.bind (Store.ldInt σ IntKind.i64 (Ptr.add (some x15) 0)) fun x16 ↦
          Option.bind (Γ (Fun.fn 74) [AV.int IntKind.i64 1, AV.int IntKind.i64 x16] σ) fun x17 ↦
            Option.bind (AV.item 0 2 (Prod.fst x17)) fun x18 ↦
              Option.bind (AV.asPtr x18) fun x19 ↦
                Option.bind (AV.item 1 2 (Prod.fst x17)) fun x20 ↦
                  Option.bind (AV.asInt IntKind.i64 x20) fun x21 ↦
                    Option.bind (loopF Try.prog Γ drawn k Try.f55 [1, 1, 1, 1, 0, 1, 0, 0, 1, 0, 0, 1, 1, 0, 1, 0] [61, 60, 59, 12, 11, 9, 8, 6] ([AV.int IntKind.i64 0, AV.int IntKind.i64 (↑(Hdl.len h13) : Int), AV.slice h13, AV.slice Hdl.nil, AV.slice Hdl.nil, AV.ptr x19, AV.int IntKind.i64 i12, AV.ptr p14], Prod.snd x17))
                      (contFL Try.prog Γ drawn k Try.f55 [1, 1, 1, 1, 0, 1, 0] [8, 7, 6] [1, 0, 0, 1, 1, 0, 1, 0])
    else some (Sum.inr (AX.exit 0, [(6, AV.ptr p14)], σ)) := by intros; kernel_rfl

theorem f55_X1111010_1 : ∀ (Γ : Gam) (k : Nat) (σ : Store) (p22 : Ptr), contF Try.prog Γ drawn k Try.f55 [1, 1, 1, 1, 0, 1, 0] (AX.exit 0, [(6, AV.ptr p22)], σ) = some (AV.tuple [AV.ptr p22, AV.int IntKind.i64 0], σ) := by intros; kernel_rfl

theorem f55_L1111010010011010 : ∀ (Γ : Gam) (k : Nat) (σ : Store) (i23 i24 : Int) (h25 h26 h27 : Hdl) (p28 : Ptr) (i29 : Int) (p30 : Ptr),
  stepF Try.prog Γ drawn k Try.f55 [1, 1, 1, 1, 0, 1, 0, 0, 1, 0, 0, 1, 1, 0, 1, 0] [61, 60, 59, 12, 11, 9, 8, 6] ([AV.int IntKind.i64 i23, AV.int IntKind.i64 i24, AV.slice h25, AV.slice h26, AV.slice h27, AV.ptr p28, AV.int IntKind.i64 i29, AV.ptr p30], σ) =
    if decide (i23 < i24) = true then
      if 0 ≤ i23 ∧ i23 < (↑(Hdl.len h25) : Int) then
        Option.bind (Store.ldInt σ IntKind.i64 (Hdl.idx h25 i23 1)) fun x31 ↦
          if 0 ≤ i29 then
            if decide (bitOp BinOp.and IntKind.i64 (shrI IntKind.i64 x31 i29) 1 = 1) = true then
              Option.bind (Γ (Fun.fn 75) [AV.ptr p28, AV.int IntKind.i64 i23, AV.int IntKind.u64 1] σ) fun x32 ↦
                Option.bind (AV.asBool (Prod.fst x32)) fun x33 ↦
                  Option.bind (Store.readSl (Store.push (Prod.snd x32) [AV.int IntKind.i64 x31] 1) { a := some (List.length (Store.objs (Prod.snd x32)), 0), len := 1, cap := some 1 } 1) fun x34 ↦
                    Option.bind (Store.app (Store.push (Prod.snd x32) [AV.int IntKind.i64 x31] 1) h26 1 8 x34 1) fun x35 ↦ some (Sum.inl ([AV.int IntKind.i64 (IntKind.wrap IntKind.i64 (i23 + 1)), AV.int IntKind.i64 i24, AV.slice h25, AV.slice (Prod.fst x35), AV.slice h27, AV.ptr p28, AV.int IntKind.i64 i29, AV.ptr p30], Prod.snd x35))
            else
              Option.bind (Store.readSl (Store.push σ [AV.int IntKind.i64 x31] 1) { a := some (List.length (Store.objs σ), 0), len := 1, cap := some 1 } 1) fun x36 ↦
                Option.bind (Store.app (Store.push σ [AV.int IntKind.i64 x31] 1) h27 1 8 x36 1) fun x37 ↦ some (Sum.inl ([AV.int IntKind.i64 (IntKind.wrap IntKind.i64 (i23 + 1)), AV.int IntKind.i64 i24, AV.slice h25, AV.slice h26, AV.slice (Prod.fst x37), AV.ptr p28, AV.int IntKind.i64 i29, AV.ptr p30], Prod.snd x37))
          else none
      else none
    else some (Sum.inr (AX.exit 2, [(12, AV.slice h26), (11, AV.slice h27), (9, AV.ptr p28), (8, AV.int IntKind.i64 i29), (6, AV.ptr p30)], σ)) := by intros; kernel_rfl

theorem f55_X1111010010011010_1 : ∀ (Γ : Gam) (k : Nat) (σ : Store) (h38 h39 : Hdl) (p40 : Ptr) (i41 : Int) (p42 : Ptr),
  contFL Try.prog Γ drawn k Try.f55 [1, 1, 1, 1, 0, 1, 0] [8, 7, 6] [1, 0, 0, 1, 1, 0, 1, 0] (AX.exit 2, [(12, AV.slice h38), (11, AV.slice h39), (9, AV.ptr p40), (8, AV.int IntKind.i64 i41), (6, AV.ptr p42)], σ) =
    Option.bind (Γ (Fun.fn 76) [AV.ptr p40] σ) fun x43 ↦
      Option.bind (AV.item 0 2 (Prod.fst x43)) fun x44 ↦
        Option.bind (AV.asPtr x44) fun x45 ↦
          Option.bind (AV.item 1 2 (Prod.fst x43)) fun x46 ↦
            Option.bind (AV.asInt IntKind.i64 x46) fun x47 ↦
              Option.bind p42 fun x48 ↦
                Option.bind (Store.ldSl (Prod.snd x43) (Ptr.add (some x48) 2)) fun x49 ↦
                  Option.bind (Store.readSl (Store.push (Prod.snd x43) [AV.ptr x45] 1) { a := some (List.length (Store.objs (Prod.snd x43)), 0), len := 1, cap := some 1 } 1) fun x50 ↦
                    Option.bind (Store.app (Store.push (Prod.snd x43) [AV.ptr x45] 1) x49 1 8 x50 1) fun x51 ↦
                      Option.bind p42 fun x52 ↦ Option.bind (Store.stL (Prod.snd x51) (Ptr.add (some x52) 2) [AV.slice (Prod.fst x51)] 0) fun x53 ↦ Option.bind (Store.readSl x53 h38 1) fun x54 ↦ Option.bind (Store.app x53 h39 1 8 x54 (Hdl.len h38)) fun x55 ↦ some (Sum.inl ([AV.int IntKind.i64 (IntKind.wrap IntKind.i64 (i41 - 1)), AV.slice (Prod.fst x55), AV.ptr p42], Prod.snd x55)) := by intros; kernel_rfl

theorem f57_eq : ∀ (Γ : Gam) (k : Nat) (σ : Store) (h0 : Hdl),
  evBody Try.prog Γ drawn k Try.f57 [AV.slice h0] σ = if Option.isNone (Hdl.a h0) = true then some (AV.slice Hdl.nil, σ) else Option.bind (Store.readSl (Store.push σ [] 1) h0 1) fun x1 ↦ Option.bind (Store.app (Store.push σ [] 1) { a := some (List.length (Store.objs σ), 0), len := 0, cap := some 0 } 1 8 x1 (Hdl.len h0)) fun x2 ↦ some (AV.slice (Prod.fst x2), Prod.snd x2) := by intros; kernel_rfl

theorem f58_eq : ∀ (Γ : Gam) (k : Nat) (σ : Store) (p0 : Ptr) (i1 : Int) (b2 : Bool),
  evBody Try.prog Γ drawn k Try.f58 [AV.ptr p0, AV.int IntKind.i64 i1, AV.bool b2] σ =
    if b2 = true then
      Option.bind (Γ (Fun.fn 32) [AV.ptr p0] σ) fun x3 ↦
        Option.bind (AV.asInt IntKind.i64 (Prod.fst x3)) fun x4 ↦
          Option.bind (Γ (Fun.fn 63) [AV.ptr p0, AV.int IntKind.i64 x4] (Prod.snd x3)) fun x5 ↦ Option.bind (AV.asInt IntKind.i64 (Prod.fst x5)) fun x6 ↦ Option.bind (Γ (Fun.fn 77) [AV.ptr p0, AV.int IntKind.i64 i1] (Prod.snd x5)) fun x7 ↦ Option.bind (AV.asInt IntKind.i64 (Prod.fst x7)) fun x8 ↦ some (AV.int IntKind.i64 (IntKind.wrap IntKind.i64 (x6 + x8)), Prod.snd x7)
    else Option.bind (Γ (Fun.fn 63) [AV.ptr p0, AV.int IntKind.i64 i1] σ) fun x9 ↦ Option.bind (AV.asInt IntKind.i64 (Prod.fst x9)) fun x10 ↦ some (AV.int IntKind.i64 x10, Prod.snd x9) := by intros; kernel_rfl

theorem f59_eq : ∀ (Γ : Gam) (k : Nat) (σ : Store) (p0 : Ptr) (i1 : Int),
  evBody Try.prog Γ drawn k Try.f59 [AV.ptr p0, AV.int IntKind.i64 i1] σ = if (!Option.isNone p0) = true then if decide (0 ≤ i1) = true then Option.bind p0 fun x2 ↦ Option.bind (Store.ldInt σ IntKind.i64 (Ptr.add (some x2) 1)) fun x3 ↦ if 0 ≤ x3 then some (AV.bool (decide (shrI IntKind.i64 i1 x3 = 0)), σ) else none else some (AV.bool false, σ) else some (AV.bool false, σ) := by intros; kernel_rfl

theorem f60_eq : ∀ (Γ : Gam) (k : Nat) (σ : Store) (p0 : Ptr) (i1 i2 : Int),
  evBody Try.prog Γ drawn k Try.f60 [AV.ptr p0, AV.int IntKind.i64 i1, AV.int IntKind.i64 i2] σ =
    Option.bind p0 fun x3 ↦ Option.bind (Store.ldSl σ (Ptr.add (some x3) 2)) fun x4 ↦ Option.bind (loopF Try.prog Γ drawn k Try.f60 [1, 1, 0, 1, 0] [17, 16, 15, 8, 2, 1, 0] ([AV.int IntKind.i64 0, AV.int IntKind.i64 (↑(Hdl.len x4) : Int), AV.slice x4, AV.int IntKind.i64 0, AV.int IntKind.i64 i2, AV.int IntKind.i64 i1, AV.ptr p0], σ)) (contF Try.prog Γ drawn k Try.f60 [1, 1, 0, 1, 0]) := by intros; kernel_rfl

theorem f60_L11010 : ∀ (Γ : Gam) (k : Nat) (σ : Store) (i5 i6 : Int) (h7 : Hdl) (i8 i9 i10 : Int) (p11 : Ptr),
  stepF Try.prog Γ drawn k Try.f60 [1, 1, 0, 1, 0] [17, 16, 15, 8, 2, 1, 0] ([AV.int IntKind.i64 i5, AV.int IntKind.i64 i6, AV.slice h7, AV.int IntKind.i64 i8, AV.int IntKind.i64 i9, AV.int IntKind.i64 i10, AV.ptr p11], σ) =
    if decide (i5 < i6) = true then
      if 0 ≤ i5 ∧ i5 < (↑(Hdl.len h7) : Int) then
        Option.bind (Store.ldPtr σ (Hdl.idx h7 i5 1)) fun x12 ↦
          Option.bind p11 fun x13 ↦
            Option.bind (Store.ldInt σ IntKind.i64 (Ptr.add (some x13) 1)) fun x14 ↦
              if 0 ≤ IntKind.wrap IntKind.i64 (IntKind.wrap IntKind.i64 (x14 - 1) - i5) then
                Option.bind (Γ (Fun.fn 58) [AV.ptr x12, AV.int IntKind.i64 i8, AV.bool (decide (bitOp BinOp.and IntKind.i64 (shrI IntKind.i64 i10 (IntKind.wrap IntKind.i64 (IntKind.wrap IntKind.i64 (x14 - 1) - i5))) 1 = 1))] σ) fun x15 ↦
                  Option.bind (AV.asInt IntKind.i64 (Prod.fst x15)) fun x16 ↦
                    Option.bind (Γ (Fun.fn 58) [AV.ptr x12, AV.int IntKind.i64 i9, AV.bool (decide (bitOp BinOp.and IntKind.i64 (shrI IntKind.i64 i10 (IntKind.wrap IntKind.i64 (IntKind.wrap IntKind.i64 (x14 - 1) - i5))) 1 = 1))] (Prod.snd x15)) fun x17 ↦
                      Option.bind (AV.asInt IntKind.i64 (Prod.fst x17)) fun x18 ↦ some (Sum.inl ([AV.int IntKind.i64 (IntKind.wrap IntKind.i64 (i5 + 1)), AV.int IntKind.i64 i6, AV.slice h7, AV.int IntKind.i64 x16, AV.int IntKind.i64 x18, AV.int IntKind.i64 i10, AV.ptr p11], Prod.snd x17))
              else none
      else none
    else some (Sum.inr (AX.exit 0, [(8, AV.int IntKind.i64 i8), (2, AV.int IntKind.i64 i9)], σ)) := by intros; kernel_rfl

theorem f60_X11010_1 : ∀ (Γ : Gam) (k : Nat) (σ : Store) (i19 i20 : Int), contF Try.prog Γ drawn k Try.f60 [1, 1, 0, 1, 0] (AX.exit 0, [(8, AV.int IntKind.i64 i19), (2, AV.int IntKind.i64 i20)], σ) = some (AV.tuple [AV.int IntKind.i64 i19, AV.int IntKind.i64 i20], σ) := by intros; kernel_rfl

theorem f61_eq : ∀ (Γ : Gam) (k : Nat) (σ : Store) (h0 : Hdl), evBody Try.prog Γ drawn k Try.f61 [AV.slice h0] σ = some (AV.func 78 [] [AV.ptr (some (List.length (Store.objs σ), 0))], Store.push σ [AV.slice h0] 1) := by intros; kernel_rfl

theorem f62_eq : ∀ (Γ : Gam) (k : Nat) (σ : Store) (p0 : Ptr) (i1 : Int),
  evBody Try.prog Γ drawn k Try.f62 [AV.ptr p0, AV.int IntKind.i64 i1] σ =
    Option.bind (Γ (Fun.fn 80) [AV.ptr p0] σ) fun x2 ↦ Option.bind (AV.asInt IntKind.i64 (Prod.fst x2)) fun x3 ↦ Option.bind (Γ (Fun.fn 79) [AV.ptr p0, AV.int IntKind.i64 i1, AV.int IntKind.i64 x3, AV.func 77 [AV.ptr p0] []] (Prod.snd x2)) fun x4 ↦ Option.bind (AV.asInt IntKind.i64 (Prod.fst x4)) fun x5 ↦ some (AV.int IntKind.i64 x5, Prod.snd x4) := by intros; kernel_rfl

theorem f63_eq : ∀ (Γ : Gam) (k : Nat) (σ : Store) (p0 : Ptr) (i1 : Int),
  evBody Try.prog Γ drawn k Try.f63 [AV.ptr p0, AV.int IntKind.i64 i1] σ =
    Option.bind (Γ (Fun.fn 32) [AV.ptr p0] σ) fun x2 ↦ Option.bind (AV.asInt IntKind.i64 (Prod.fst x2)) fun x3 ↦ Option.bind (Γ (Fun.fn 77) [AV.ptr p0, AV.int IntKind.i64 i1] (Prod.snd x2)) fun x4 ↦ Option.bind (AV.asInt IntKind.i64 (Prod.fst x4)) fun x5 ↦ some (AV.int IntKind.i64 (IntKind.wrap IntKind.i64 (mx2 (Int.ofNat 0) (mn2 i1 x3) - x5)), Prod.snd x4) := by intros; kernel_rfl

theorem f64_eq : ∀ (Γ : Gam) (k : Nat) (σ : Store) (p0 : Ptr) (i1 : Int),
  evBody Try.prog Γ drawn k Try.f64 [AV.ptr p0, AV.int IntKind.i64 i1] σ =
    Option.bind (Γ (Fun.fn 32) [AV.ptr p0] σ) fun x2 ↦
      Option.bind (AV.asInt IntKind.i64 (Prod.fst x2)) fun x3 ↦
        Option.bind (Γ (Fun.fn 80) [AV.ptr p0] (Prod.snd x2)) fun x4 ↦ Option.bind (AV.asInt IntKind.i64 (Prod.fst x4)) fun x5 ↦ Option.bind (Γ (Fun.fn 79) [AV.ptr p0, AV.int IntKind.i64 i1, AV.int IntKind.i64 (IntKind.wrap IntKind.i64 (x3 - x5)), AV.func 63 [AV.ptr p0] []] (Prod.snd x4)) fun x6 ↦ Option.bind (AV.asInt IntKind.i64 (Prod.fst x6)) fun x7 ↦ some (AV.int IntKind.i64 x7, Prod.snd x6) := by intros; kernel_rfl

theorem f65_eq : ∀ (Γ : Gam) (k : Nat) (σ : Store) (p0 : Ptr) (i1 i2 : Int), evBody Try.prog Γ drawn k Try.f65 [AV.ptr p0, AV.int IntKind.i64 i1, AV.int IntKind.i64 i2] σ = Option.bind (Γ (Fun.fn 31) [AV.ptr p0] σ) fun x3 ↦ Option.bind (AV.asInt IntKind.i64 (Prod.fst x3)) fun x4 ↦ some (AV.tuple [AV.int IntKind.i64 (mx2 i1 0), AV.int IntKind.i64 (mx2 (mx2 i1 0) (mn2 i2 x4))], Prod.snd x3) := by intros; kernel_rfl

theorem f66_eq : ∀ (Γ : Gam) (k : Nat) (σ : Store) (p0 : Ptr) (h1 : Hdl) (i2 i3 i4 i5 : Int),
  evBody Try.prog Γ drawn k Try.f66 [AV.ptr p0, AV.slice h1, AV.int IntKind.i64 i2, AV.int IntKind.i64 i3, AV.int IntKind.i64 i4, AV.int IntKind.i64 i5] σ =
    if decide (i4 = i5) = true then some (AV.slice h1, σ)
    else
      Option.bind p0 fun x6 ↦
        Option.bind (Store.ldInt σ IntKind.i64 (Ptr.add (some x6) 1)) fun x7 ↦
          if decide (i2 = x7) = true then
            Option.bind (Store.readSl (Store.push σ [AV.int IntKind.i64 i3, AV.int IntKind.i64 (IntKind.wrap IntKind.i64 (i5 - i4))] 2) { a := some (List.length (Store.objs σ), 0), len := 1, cap := some 1 } 2) fun x8 ↦
              Option.bind (Store.app (Store.push σ [AV.int IntKind.i64 i3, AV.int IntKind.i64 (IntKind.wrap IntKind.i64 (i5 - i4))] 2) h1 2 16 x8 1) fun x9 ↦ some (AV.slice (Prod.fst x9), Prod.snd x9)
          else
            Option.bind p0 fun x10 ↦
              Option.bind (Store.ldSl σ (Ptr.add (some x10) 2)) fun x11 ↦
                if 0 ≤ i2 ∧ i2 < (↑(Hdl.len x11) : Int) then
                  Option.bind (Store.ldPtr σ (Hdl.idx x11 i2 1)) fun x12 ↦
                    Option.bind (Γ (Fun.fn 58) [AV.ptr x12, AV.int IntKind.i64 i4, AV.bool false] σ) fun x13 ↦
                      Option.bind (AV.asInt IntKind.i64 (Prod.fst x13)) fun x14 ↦
                        Option.bind (Γ (Fun.fn 58) [AV.ptr x12, AV.int IntKind.i64 i5, AV.bool false] (Prod.snd x13)) fun x15 ↦
                          Option.bind (AV.asInt IntKind.i64 (Prod.fst x15)) fun x16 ↦
                            Option.bind (Γ (Fun.fn 66) [AV.ptr p0, AV.slice h1, AV.int IntKind.i64 (IntKind.wrap IntKind.i64 (i2 + 1)), AV.int IntKind.i64 (IntKind.wrap IntKind.i64 (2 * i3)), AV.int IntKind.i64 x14, AV.int IntKind.i64 x16] (Prod.snd x15)) fun x17 ↦
                              Option.bind (AV.asSl (Prod.fst x17)) fun x18 ↦
                                Option.bind (Γ (Fun.fn 58) [AV.ptr x12, AV.int IntKind.i64 i4, AV.bool true] (Prod.snd x17)) fun x19 ↦
                                  Option.bind (AV.asInt IntKind.i64 (Prod.fst x19)) fun x20 ↦
                                    Option.bind (Γ (Fun.fn 58) [AV.ptr x12, AV.int IntKind.i64 i5, AV.bool true] (Prod.snd x19)) fun x21 ↦
                                      Option.bind (AV.asInt IntKind.i64 (Prod.fst x21)) fun x22 ↦
                                        Option.bind (Γ (Fun.fn 66) [AV.ptr p0, AV.slice x18, AV.int IntKind.i64 (IntKind.wrap IntKind.i64 (i2 + 1)), AV.int IntKind.i64 (IntKind.wrap IntKind.i64 (IntKind.wrap IntKind.i64 (2 * i3) + 1)), AV.int IntKind.i64 x20, AV.int IntKind.i64 x22] (Prod.snd x21)) fun x23 ↦ Option.bind (AV.asSl (Prod.fst x23)) fun x24 ↦ some (AV.slice x24, Prod.snd x23)
                else none := by intros; kernel_rfl

theorem f67_eq : ∀ (Γ : Gam) (k : Nat) (σ : Store) (h0 : Hdl) (g1 : FuncId) (a2 c3 : List AV), evBody Try.prog Γ drawn k Try.f67 [AV.slice h0, AV.func g1 a2 c3] σ = Option.bind (loopF Try.prog Γ drawn k Try.f67 [1, 0, 1, 0] [8, 7, 1, 0] ([AV.int IntKind.i64 0, AV.int IntKind.i64 (↑(Hdl.len h0) : Int), AV.func g1 a2 c3, AV.slice h0], σ)) (contF Try.prog Γ drawn k Try.f67 [1, 0, 1, 0]) := by intros; kernel_rfl

theorem f67_L1010 : ∀ (Γ : Gam) (k : Nat) (σ : Store) (i4 i5 : Int) (g6 : FuncId) (a7 c8 : List AV) (h9 : Hdl),
  stepF Try.prog Γ drawn k Try.f67 [1, 0, 1, 0] [8, 7, 1, 0] ([AV.int IntKind.i64 i4, AV.int IntKind.i64 i5, AV.func g6 a7 c8, AV.slice h9], σ) =
    if decide (i4 < i5) = true then
      if 0 ≤ i4 ∧ i4 < (↑(Hdl.len h9) : Int) then
        Option.bind (Store.ldInt σ IntKind.i64 (Hdl.idx h9 i4 1)) fun x10 ↦
          Option.bind (Γ (Fun.fn g6) (a7 ++ [AV.int IntKind.i64 x10] ++ c8) σ) fun x11 ↦ Option.bind (AV.asBool (Prod.fst x11)) fun x12 ↦ if x12 = true then some (Sum.inr (AX.ret, [(4, AV.int IntKind.i64 i4)], Prod.snd x11)) else some (Sum.inl ([AV.int IntKind.i64 (IntKind.wrap IntKind.i64 (i4 + 1)), AV.int IntKind.i64 i5, AV.func g6 a7 c8, AV.slice h9], Prod.snd x11))
      else none
    else some (Sum.inr (AX.exit 0, [], σ)) := by intros; kernel_rfl

theorem f67_X1010_1 : ∀ (Γ : Gam) (k : Nat) (σ : Store) (i13 : Int), contF Try.prog Γ drawn k Try.f67 [1, 0, 1, 0] (AX.ret, [(4, AV.int IntKind.i64 i13)], σ) = some (AV.int IntKind.i64 i13, σ) := by intros; kernel_rfl

theorem f67_X1010_2 : ∀ (Γ : Gam) (k : Nat) (σ : Store), contF Try.prog Γ drawn k Try.f67 [1, 0, 1, 0] (AX.exit 0, [], σ) = some (AV.int IntKind.i64 (-1), σ) := by intros; kernel_rfl

theorem f68_eq : ∀ (Γ : Gam) (k : Nat) (σ : Store) (h0 : Hdl) (i1 : Int), evBody Try.prog Γ drawn k Try.f68 [AV.slice h0, AV.int IntKind.i64 i1] σ = Option.bind (loopF Try.prog Γ drawn k Try.f68 [1, 0, 1, 0] [8, 7, 1, 0] ([AV.int IntKind.i64 0, AV.int IntKind.i64 (↑(Hdl.len h0) : Int), AV.int IntKind.i64 i1, AV.slice h0], σ)) (contF Try.prog Γ drawn k Try.f68 [1, 0, 1, 0]) := by intros; kernel_rfl

theorem f68_L1010 : ∀ (Γ : Gam) (k : Nat) (σ : Store) (i2 i3 i4 : Int) (h5 : Hdl),
  stepF Try.prog Γ drawn k Try.f68 [1, 0, 1, 0] [8, 7, 1, 0] ([AV.int IntKind.i64 i2, AV.int IntKind.i64 i3, AV.int IntKind.i64 i4, AV.slice h5], σ) =
    if decide (i2 < i3) = true then if 0 ≤ i2 ∧ i2 < (↑(Hdl.len h5) : Int) then Option.bind (Store.ldInt σ IntKind.i64 (Hdl.idx h5 i2 1)) fun x6 ↦ if decide (i4 = x6) = true then some (Sum.inr (AX.ret, [(4, AV.int IntKind.i64 i2)], σ)) else some (Sum.inl ([AV.int IntKind.i64 (IntKind.wrap IntKind.i64 (i2 + 1)), AV.int IntKind.i64 i3, AV.int IntKind.i64 i4, AV.slice h5], σ)) else none
    else some (Sum.inr (AX.exit 0, [], σ)) := by intros; kernel_rfl

theorem f68_X1010_1 : ∀ (Γ : Gam) (k : Nat) (σ : Store) (i7 : Int), contF Try.prog Γ drawn k Try.f68 [1, 0, 1, 0] (AX.ret, [(4, AV.int IntKind.i64 i7)], σ) = some (AV.int IntKind.i64 i7, σ) := by intros; kernel_rfl

theorem f68_X1010_2 : ∀ (Γ : Gam) (k : Nat) (σ : Store), contF Try.prog Γ drawn k Try.f68 [1, 0, 1, 0] (AX.exit 0, [], σ) = some (AV.int IntKind.i64 (-1), σ) := by intros; kernel_rfl

theorem f69_eq : ∀ (Γ : Gam) (k : Nat) (σ : Store) (i0 : Int) (p1 : Ptr), evBody Try.prog Γ drawn k Try.f69 [AV.int IntKind.i64 i0, AV.ptr p1] σ = if decide (i0 < 0) = true then some (AV.bool true, σ) else Option.bind (Store.ldInt σ IntKind.i64 p1) fun x2 ↦ some (AV.bool (decide (x2 ≤ i0)), σ) := by intros; kernel_rfl

theorem f70_eq : ∀ (Γ : Gam) (k : Nat) (σ : Store) (h0 : Hdl) (i1 : Int),
  evBody Try.prog Γ drawn k Try.f70 [AV.slice h0, AV.int IntKind.i64 i1] σ =
    if ((0 : Int) ≤ (↑(Hdl.len h0) : Int) ∧ (↑(Hdl.len h0) : Int) ≤ (↑(Hdl.len h0) : Int)) ∧ (↑(Hdl.len h0) : Int) * (↑(1 : Nat) : Int) ≤ (281474976710656 : Int) then
      if ((0 : Int) ≤ (↑(Hdl.len h0) : Int) ∧ (↑(Hdl.len h0) : Int) ≤ (↑(Hdl.len h0) : Int)) ∧ (↑(Hdl.len h0) : Int) * (↑(8 : Nat) : Int) ≤ (281474976710656 : Int) then
        if decide ((↑(Hdl.len h0) : Int) = (0 : Int)) = true then
          Option.bind
            (Store.ldSl
              (Store.push (Store.push (Store.push σ (mkCells [AV.bool false] (Int.toNat (↑(Hdl.len h0) : Int))) (1 : Nat)) (mkCells [AV.int IntKind.i64 (0 : Int)] (Int.toNat (↑(Hdl.len h0) : Int))) (1 : Nat))
                [AV.slice h0, AV.int IntKind.i64 i1, AV.slice { a := some (List.length (Store.objs σ), (0 : Nat)), len := Int.toNat (↑(Hdl.len h0) : Int), cap := some (Int.toNat (↑(Hdl.len h0) : Int)) },
                  AV.slice { a := some (List.length (Store.objs (Store.push σ (mkCells [AV.bool false] (Int.toNat (↑(Hdl.len h0) : Int))) (1 : Nat))), (0 : Nat)), len := Int.toNat (↑(Hdl.len h0) : Int), cap := some (Int.toNat (↑(Hdl.len h0) : Int)) }]
                (4 : Nat))
              (Ptr.add (some (List.length (Store.objs (Store.push (Store.push σ (mkCells [AV.bool false] (Int.toNat (↑(Hdl.len h0) : Int))) (1 : Nat)) (mkCells [AV.int IntKind.i64 (0 : Int)] (Int.toNat (↑(Hdl.len h0) : Int))) (1 : Nat))), (0 : Nat))) (3 : Nat)))
            fun x2 ↦
            some
              (AV.slice x2,
                Store.push (Store.push (Store.push σ (mkCells [AV.bool false] (Int.toNat (↑(Hdl.len h0) : Int))) (1 : Nat)) (mkCells [AV.int IntKind.i64 (0 : Int)] (Int.toNat (↑(Hdl.len h0) : Int))) (1 : Nat))
                  [AV.slice h0, AV.int IntKind.i64 i1, AV.slice { a := some (List.length (Store.objs σ), (0 : Nat)), len := Int.toNat (↑(Hdl.len h0) : Int), cap := some (Int.toNat (↑(Hdl.len h0) : Int)) },
                    AV.slice { a := some (List.length (Store.objs (Store.push σ (mkCells [AV.bool false] (Int.toNat (↑(Hdl.len h0) : Int))) (1 : Nat))), (0 : Nat)), len := Int.toNat (↑(Hdl.len h0) : Int), cap := some (Int.toNat (↑(Hdl.len h0) : Int)) }]
                  (4 : Nat))
        else
          Option.bind
            (loopF Try.prog Γ drawn k Try.f70 [(1 : Nat), (1 : Nat), (1 : Nat), (1 : Nat), (0 : Nat), (1 : Nat), (0 : Nat)] [(7 : Nat), (6 : Nat), (5 : Nat), (0 : Nat)]
              ([AV.int IntKind.i64 (IntKind.wrap IntKind.i64 ((↑(Hdl.len h0) : Int) - (2 : Int))), AV.ptr (some (List.length (Store.objs (Store.push (Store.push σ (mkCells [AV.bool false] (Int.toNat (↑(Hdl.len h0) : Int))) (1 : Nat)) (mkCells [AV.int IntKind.i64 (0 : Int)] (Int.toNat (↑(Hdl.len h0) : Int))) (1 : Nat))), (0 : Nat))), AV.int IntKind.i64 (↑(Hdl.len h0) : Int), AV.slice h0],
                Store.push (Store.push (Store.push σ (mkCells [AV.bool false] (Int.toNat (↑(Hdl.len h0) : Int))) (1 : Nat)) (mkCells [AV.int IntKind.i64 (0 : Int)] (Int.toNat (↑(Hdl.len h0) : Int))) (1 : Nat))
                  [AV.slice h0, AV.int IntKind.i64 i1, AV.slice { a := some (List.length (Store.objs σ), (0 : Nat)), len := Int.toNat (↑(Hdl.len h0) : Int), cap := some (Int.toNat (↑(Hdl.len h0) : Int)) },
                    AV.slice { a := some (List.length (Store.objs (Store.push σ (mkCells [AV.bool false] (Int.toNat (↑(Hdl.len h0) : Int))) (1 : Nat))), (0 : Nat)), len := Int.toNat (↑(Hdl.len h0) : Int), cap := some (Int.toNat (↑(Hdl.len h0) : Int)) }]
                  (4 : Nat)))
            (contF Try.prog Γ drawn k Try.f70 [(1 : Nat), (1 : Nat), (1 : Nat), (1 : Nat), (0 : Nat), (1 : Nat), (0 : Nat)])
      else none
    else none := by intros; kernel_rfl

theorem f70_L1111010 : ∀ (Γ : Gam) (k : Nat) (σ : Store) (i3 : Int) (p4 : Ptr) (i5 : Int) (h6 : Hdl),
  stepF Try.prog Γ drawn k Try.f70 [1, 1, 1, 1, 0, 1, 0] [7, 6, 5, 0] ([AV.int IntKind.i64 i3, AV.ptr p4, AV.int IntKind.i64 i5, AV.slice h6], σ) =
    if decide (0 ≤ i3) = true then
      Option.bind p4 fun x7 ↦
        Option.bind (Store.ldSl σ (Ptr.add (some x7) 2)) fun x8 ↦
          if 0 ≤ i3 ∧ i3 < (↑(Hdl.len h6) : Int) then
            Option.bind (Store.ldInt σ IntKind.i64 (Hdl.idx h6 i3 1)) fun x9 ↦
              if 0 ≤ IntKind.wrap IntKind.i64 (i3 + 1) ∧ IntKind.wrap IntKind.i64 (i3 + 1) < (↑(Hdl.len h6) : Int) then
                Option.bind (Store.ldInt σ IntKind.i64 (Hdl.idx h6 (IntKind.wrap IntKind.i64 (i3 + 1)) 1)) fun x10 ↦
                  if decide (x9 < x10) = true then if 0 ≤ i3 ∧ i3 < (↑(Hdl.len x8) : Int) then Option.bind (Store.stL σ (Hdl.idx x8 i3 1) [AV.bool true] 0) fun x11 ↦ some (Sum.inl ([AV.int IntKind.i64 (IntKind.wrap IntKind.i64 (i3 - 1)), AV.ptr p4, AV.int IntKind.i64 i5, AV.slice h6], x11)) else none
                  else
                    if 0 ≤ i3 ∧ i3 < (↑(Hdl.len h6) : Int) then
                      Option.bind (Store.ldInt σ IntKind.i64 (Hdl.idx h6 i3 1)) fun x12 ↦
                        if 0 ≤ IntKind.wrap IntKind.i64 (i3 + 1) ∧ IntKind.wrap IntKind.i64 (i3 + 1) < (↑(Hdl.len h6) : Int) then
                          Option.bind (Store.ldInt σ IntKind.i64 (Hdl.idx h6 (IntKind.wrap IntKind.i64 (i3 + 1)) 1)) fun x13 ↦
                            if decide (x12 = x13) = true then
                              Option.bind p4 fun x14 ↦
                                Option.bind (Store.ldSl σ (Ptr.add (some x14) 2)) fun x15 ↦
                                  if 0 ≤ IntKind.wrap IntKind.i64 (i3 + 1) ∧ IntKind.wrap IntKind.i64 (i3 + 1) < (↑(Hdl.len x15) : Int) then
                                    Option.bind (Store.ldBool σ (Hdl.idx x15 (IntKind.wrap IntKind.i64 (i3 + 1)) 1)) fun x16 ↦ if 0 ≤ i3 ∧ i3 < (↑(Hdl.len x8) : Int) then Option.bind (Store.stL σ (Hdl.idx x8 i3 1) [AV.bool x16] 0) fun x17 ↦ some (Sum.inl ([AV.int IntKind.i64 (IntKind.wrap IntKind.i64 (i3 - 1)), AV.ptr p4, AV.int IntKind.i64 i5, AV.slice h6], x17)) else none
                                  else none
                            else if 0 ≤ i3 ∧ i3 < (↑(Hdl.len x8) : Int) then Option.bind (Store.stL σ (Hdl.idx x8 i3 1) [AV.bool false] 0) fun x18 ↦ some (Sum.inl ([AV.int IntKind.i64 (IntKind.wrap IntKind.i64 (i3 - 1)), AV.ptr p4, AV.int IntKind.i64 i5, AV.slice h6], x18)) else none
                        else none
                    else none
              else none
          else none
    else some (Sum.inr (AX.exit 0, [(6, AV.ptr p4), (5, AV.int IntKind.i64 i5), (0, AV.slice h6)], σ)) := by intros; kernel_rfl

theorem f70_X1111010_1 : ∀ (Γ : Gam) (k : Nat) (σ : Store) (p19 : Ptr) (i20 : Int) (h21 : Hdl),
  contF Try.prog Γ drawn k Try.f70 [1, 1, 1, 1, 0, 1, 0] (AX.exit 0, [(6, AV.ptr p19), (5, AV.int IntKind.i64 i20), (0, AV.slice h21)], σ) =
    Option.bind (loopF Try.prog Γ drawn k Try.f70 [1, 1, 1, 1, 1, 1, 0, 1, 0] [83, 82, 8, 6, 5] ([AV.int IntKind.i64 0, AV.int IntKind.i64 (↑(Hdl.len h21) : Int), AV.slice Hdl.nil, AV.ptr p19, AV.int IntKind.i64 i20], σ)) (contF Try.prog Γ drawn k Try.f70 [1, 1, 1, 1, 1, 1, 0, 1, 0]) := by intros; kernel_rfl

theorem f70_L111111010 : ∀ (Γ : Gam) (k : Nat) (σ : Store) (i22 i23 : Int) (h24 : Hdl) (p25 : Ptr) (i26 : Int),
  stepF Try.prog Γ drawn k Try.f70 [1, 1, 1, 1, 1, 1, 0, 1, 0] [83, 82, 8, 6, 5] ([AV.int IntKind.i64 i22, AV.int IntKind.i64 i23, AV.slice h24, AV.ptr p25, AV.int IntKind.i64 i26], σ) =
    if decide (i22 < i23) = true then
      Option.bind (Γ (Fun.fn 81) [AV.ptr p25, AV.int IntKind.i64 i22] σ) fun x27 ↦
        Option.bind (AV.asBool (Prod.fst x27)) fun x28 ↦
          if x28 = true then
            Option.bind (Store.readSl (Store.push (Prod.snd x27) [AV.int IntKind.i64 i22] 1) { a := some (List.length (Store.objs (Prod.snd x27)), 0), len := 1, cap := some 1 } 1) fun x29 ↦
              Option.bind (Store.app (Store.push (Prod.snd x27) [AV.int IntKind.i64 i22] 1) h24 1 8 x29 1) fun x30 ↦ some (Sum.inl ([AV.int IntKind.i64 (IntKind.wrap IntKind.i64 (i22 + 1)), AV.int IntKind.i64 i23, AV.slice (Prod.fst x30), AV.ptr p25, AV.int IntKind.i64 i26], Prod.snd x30))
          else some (Sum.inl ([AV.int IntKind.i64 (IntKind.wrap IntKind.i64 (i22 + 1)), AV.int IntKind.i64 i23, AV.slice h24, AV.ptr p25, AV.int IntKind.i64 i26], Prod.snd x27))
    else some (Sum.inr (AX.exit 2, [(8, AV.slice h24), (6, AV.ptr p25), (5, AV.int IntKind.i64 i26)], σ)) := by intros; kernel_rfl

theorem f70_X111111010_1 : ∀ (Γ : Gam) (k : Nat) (σ : Store) (h31 : Hdl) (p32 : Ptr) (i33 : Int),
  contF Try.prog Γ drawn k Try.f70 [(1 : Nat), (1 : Nat), (1 : Nat), (1 : Nat), (1 : Nat), (1 : Nat), (0 : Nat), (1 : Nat), (0 : Nat)] (AX.exit (2 : Nat), [((8 : Nat), AV.slice h31), ((6 : Nat), AV.ptr p32), ((5 : Nat), AV.int IntKind.i64 i33)], σ) =
    Option.bind (Γ (Fun.fn (82 : Nat)) [AV.ptr p32, AV.slice h31] σ) fun x34 ↦
      if ((0 : Int) ≤ i33 ∧ i33 ≤ i33) ∧ i33 * (↑(8 : Nat) : Int) ≤ (281474976710656 : Int) then
        Option.bind p32 fun x35 ↦
          Option.bind (Store.ldSl (Store.push (Prod.snd x34) (mkCells [AV.int IntKind.i64 (0 : Int)] (Int.toNat i33)) (1 : Nat)) (Ptr.add (some x35) (3 : Nat))) fun x36 ↦
            Option.bind
              (loopF Try.prog Γ drawn k Try.f70 [(1 : Nat), (1 : Nat), (1 : Nat), (1 : Nat), (1 : Nat), (1 : Nat), (1 : Nat), (1 : Nat), (1 : Nat), (1 : Nat), (0 : Nat), (1 : Nat), (0 : Nat)] [(104 : Nat), (103 : Nat), (102 : Nat), (12 : Nat), (11 : Nat), (10 : Nat), (8 : Nat), (6 : Nat)]
                ([AV.int IntKind.i64 (0 : Int), AV.int IntKind.i64 (↑(Hdl.len x36) : Int), AV.slice x36, AV.int IntKind.i64 (-1 : Int), AV.int IntKind.i64 (-1 : Int), AV.slice { a := some (List.length (Store.objs (Prod.snd x34)), (0 : Nat)), len := Int.toNat i33, cap := some (Int.toNat i33) }, AV.slice h31, AV.ptr p32],
                  Store.push (Prod.snd x34) (mkCells [AV.int IntKind.i64 (0 : Int)] (Int.toNat i33)) (1 : Nat)))
              (contF Try.prog Γ drawn k Try.f70 [(1 : Nat), (1 : Nat), (1 : Nat), (1 : Nat), (1 : Nat), (1 : Nat), (1 : Nat), (1 : Nat), (1 : Nat), (1 : Nat), (0 : Nat), (1 : Nat), (0 : Nat)])
      else none := by intros; kernel_rfl

theorem f70_L1111111111010 : ∀ (Γ : Gam) (k : Nat) (σ : Store) (i37 i38 : Int) (h39 : Hdl) (i40 i41 : Int) (h42 h43 : Hdl) (p44 : Ptr),
  stepF Try.prog Γ drawn k Try.f70 [1, 1, 1, 1, 1, 1, 1, 1, 1, 1, 0, 1, 0] [104, 103, 102, 12, 11, 10, 8, 6] ([AV.int IntKind.i64 i37, AV.int IntKind.i64 i38, AV.slice h39, AV.int IntKind.i64 i40, AV.int IntKind.i64 i41, AV.slice h42, AV.slice h43, AV.ptr p44], σ) =
    if decide (i37 < i38) = true then
      if 0 ≤ i37 ∧ i37 < (↑(Hdl.len h39) : Int) then
        Option.bind (Store.ldInt σ IntKind.i64 (Hdl.idx h39 i37 1)) fun x45 ↦
          Option.bind (Γ (Fun.fn 81) [AV.ptr p44, AV.int IntKind.i64 x45] σ) fun x46 ↦
            Option.bind (AV.asBool (Prod.fst x46)) fun x47 ↦
              if (!x47) = true then some (Sum.inl ([AV.int IntKind.i64 (IntKind.wrap IntKind.i64 (i37 + 1)), AV.int IntKind.i64 i38, AV.slice h39, AV.int IntKind.i64 i40, AV.int IntKind.i64 i41, AV.slice h42, AV.slice h43, AV.ptr p44], Prod.snd x46))
              else
                if decide (i40 < 0) = true then
                  if 0 ≤ x45 ∧ x45 < (↑(Hdl.len h42) : Int) then
                    Option.bind (Store.stL (Prod.snd x46) (Hdl.idx h42 x45 1) [AV.int IntKind.i64 (IntKind.wrap IntKind.i64 (i41 + 1))] 0) fun x48 ↦ some (Sum.inl ([AV.int IntKind.i64 (IntKind.wrap IntKind.i64 (i37 + 1)), AV.int IntKind.i64 i38, AV.slice h39, AV.int IntKind.i64 x45, AV.int IntKind.i64 (IntKind.wrap IntKind.i64 (i41 + 1)), AV.slice h42, AV.slice h43, AV.ptr p44], x48))
                  else none
                else
                  Option.bind (Γ (Fun.fn 83) [AV.ptr p44, AV.int IntKind.i64 i40, AV.int IntKind.i64 x45] (Prod.snd x46)) fun x49 ↦
                    Option.bind (AV.asBool (Prod.fst x49)) fun x50 ↦
                      if (!x50) = true then
                        if 0 ≤ x45 ∧ x45 < (↑(Hdl.len h42) : Int) then
                          Option.bind (Store.stL (Prod.snd x49) (Hdl.idx h42 x45 1) [AV.int IntKind.i64 (IntKind.wrap IntKind.i64 (i41 + 1))] 0) fun x51 ↦ some (Sum.inl ([AV.int IntKind.i64 (IntKind.wrap IntKind.i64 (i37 + 1)), AV.int IntKind.i64 i38, AV.slice h39, AV.int IntKind.i64 x45, AV.int IntKind.i64 (IntKind.wrap IntKind.i64 (i41 + 1)), AV.slice h42, AV.slice h43, AV.ptr p44], x51))
                        else none
                      else if 0 ≤ x45 ∧ x45 < (↑(Hdl.len h42) : Int) then Option.bind (Store.stL (Prod.snd x49) (Hdl.idx h42 x45 1) [AV.int IntKind.i64 i41] 0) fun x52 ↦ some (Sum.inl ([AV.int IntKind.i64 (IntKind.wrap IntKind.i64 (i37 + 1)), AV.int IntKind.i64 i38, AV.slice h39, AV.int IntKind.i64 x45, AV.int IntKind.i64 i41, AV.slice h42, AV.slice h43, AV.ptr p44], x52)) else none
      else none
    else some (Sum.inr (AX.exit 4, [(11, AV.int IntKind.i64 i41), (10, AV.slice h42), (8, AV.slice h43), (6, AV.ptr p44)], σ)) := by intros; kernel_rfl

theorem f70_X1111111111010_1 : ∀ (Γ : Gam) (k : Nat) (σ : Store) (i53 : Int) (h54 h55 : Hdl) (p56 : Ptr),
  contF Try.prog Γ drawn k Try.f70 [1, 1, 1, 1, 1, 1, 1, 1, 1, 1, 0, 1, 0] (AX.exit 4, [(11, AV.int IntKind.i64 i53), (10, AV.slice h54), (8, AV.slice h55), (6, AV.ptr p56)], σ) =
    Option.bind (loopF Try.prog Γ drawn k Try.f70 [1, 1, 1, 1, 1, 1, 1, 1, 1, 1, 1, 1, 0, 1, 0] [131, 130, 129, 15, 11, 10, 8, 6] ([AV.int IntKind.i64 0, AV.int IntKind.i64 (↑(Hdl.len h55) : Int), AV.slice h55, AV.slice Hdl.nil, AV.int IntKind.i64 i53, AV.slice h54, AV.slice h55, AV.ptr p56], σ)) (contF Try.prog Γ drawn k Try.f70 [1, 1, 1, 1, 1, 1, 1, 1, 1, 1, 1, 1, 0, 1, 0]) := by intros; kernel_rfl

theorem f70_L111111111111010 : ∀ (Γ : Gam) (k : Nat) (σ : Store) (i57 i58 : Int) (h59 h60 : Hdl) (i61 : Int) (h62 h63 : Hdl) (p64 : Ptr),
  stepF Try.prog Γ drawn k Try.f70 [1, 1, 1, 1, 1, 1, 1, 1, 1, 1, 1, 1, 0, 1, 0] [131, 130, 129, 15, 11, 10, 8, 6] ([AV.int IntKind.i64 i57, AV.int IntKind.i64 i58, AV.slice h59, AV.slice h60, AV.int IntKind.i64 i61, AV.slice h62, AV.slice h63, AV.ptr p64], σ) =
    if decide (i57 < i58) = true then
      if 0 ≤ i57 ∧ i57 < (↑(Hdl.len h59) : Int) then
        Option.bind (Store.ldInt σ IntKind.i64 (Hdl.idx h59 i57 1)) fun x65 ↦
          if 0 ≤ x65 ∧ x65 < (↑(Hdl.len h62) : Int) then
            Option.bind (Store.ldInt σ IntKind.i64 (Hdl.idx h62 x65 1)) fun x66 ↦
              Option.bind (Store.readSl (Store.push σ [AV.int IntKind.i64 x66] 1) { a := some (List.length (Store.objs σ), 0), len := 1, cap := some 1 } 1) fun x67 ↦
                Option.bind (Store.app (Store.push σ [AV.int IntKind.i64 x66] 1) h60 1 8 x67 1) fun x68 ↦ some (Sum.inl ([AV.int IntKind.i64 (IntKind.wrap IntKind.i64 (i57 + 1)), AV.int IntKind.i64 i58, AV.slice h59, AV.slice (Prod.fst x68), AV.int IntKind.i64 i61, AV.slice h62, AV.slice h63, AV.ptr p64], Prod.snd x68))
          else none
      else none
    else some (Sum.inr (AX.exit 6, [(15, AV.slice h60), (11, AV.int IntKind.i64 i61), (8, AV.slice h63), (6, AV.ptr p64)], σ)) := by intros; kernel_rfl

theorem f70_X111111111111010_1 : ∀ (Γ : Gam) (k : Nat) (σ : Store) (h69 : Hdl) (i70 : Int) (h71 : Hdl) (p72 : Ptr),
  contF Try.prog Γ drawn k Try.f70 [1, 1, 1, 1, 1, 1, 1, 1, 1, 1, 1, 1, 0, 1, 0] (AX.exit 6, [(15, AV.slice h69), (11, AV.int IntKind.i64 i70), (8, AV.slice h71), (6, AV.ptr p72)], σ) =
    Option.bind (Γ (Fun.fn 70) [AV.slice h69, AV.int IntKind.i64 (IntKind.wrap IntKind.i64 (i70 + 1))] σ) fun x73 ↦
      Option.bind (AV.asSl (Prod.fst x73)) fun x74 ↦
        Option.bind (loopF Try.prog Γ drawn k Try.f70 [1, 1, 1, 1, 1, 1, 1, 1, 1, 1, 1, 1, 1, 1, 0, 1, 0] [148, 147, 146, 18, 8, 6] ([AV.int IntKind.i64 0, AV.int IntKind.i64 (↑(Hdl.len x74) : Int), AV.slice x74, AV.slice Hdl.nil, AV.slice h71, AV.ptr p72], Prod.snd x73)) (contF Try.prog Γ drawn k Try.f70 [1, 1, 1, 1, 1, 1, 1, 1, 1, 1, 1, 1, 1, 1, 0, 1, 0]) := by intros; kernel_rfl

theorem f70_L11111111111111010 : ∀ (Γ : Gam) (k : Nat) (σ : Store) (i75 i76 : Int) (h77 h78 h79 : Hdl) (p80 : Ptr),
  stepF Try.prog Γ drawn k Try.f70 [1, 1, 1, 1, 1, 1, 1, 1, 1, 1, 1, 1, 1, 1, 0, 1, 0] [148, 147, 146, 18, 8, 6] ([AV.int IntKind.i64 i75, AV.int IntKind.i64 i76, AV.slice h77, AV.slice h78, AV.slice h79, AV.ptr p80], σ) =
    if decide (i75 < i76) = true then
      if 0 ≤ i75 ∧ i75 < (↑(Hdl.len h77) : Int) then
        Option.bind (Store.ldInt σ IntKind.i64 (Hdl.idx h77 i75 1)) fun x81 ↦
          if 0 ≤ x81 ∧ x81 < (↑(Hdl.len h79) : Int) then
            Option.bind (Store.ldInt σ IntKind.i64 (Hdl.idx h79 x81 1)) fun x82 ↦
              Option.bind (Store.readSl (Store.push σ [AV.int IntKind.i64 x82] 1) { a := some (List.length (Store.objs σ), 0), len := 1, cap := some 1 } 1) fun x83 ↦
                Option.bind (Store.app (Store.push σ [AV.int IntKind.i64 x82] 1) h78 1 8 x83 1) fun x84 ↦ some (Sum.inl ([AV.int IntKind.i64 (IntKind.wrap IntKind.i64 (i75 + 1)), AV.int IntKind.i64 i76, AV.slice h77, AV.slice (Prod.fst x84), AV.slice h79, AV.ptr p80], Prod.snd x84))
          else none
      else none
    else some (Sum.inr (AX.exit 8, [(18, AV.slice h78), (6, AV.ptr p80)], σ)) := by intros; kernel_rfl

theorem f70_X11111111111111010_1 : ∀ (Γ : Gam) (k : Nat) (σ : Store) (h85 : Hdl) (p86 : Ptr), contF Try.prog Γ drawn k Try.f70 [1, 1, 1, 1, 1, 1, 1, 1, 1, 1, 1, 1, 1, 1, 0, 1, 0] (AX.exit 8, [(18, AV.slice h85), (6, AV.ptr p86)], σ) = Option.bind (Γ (Fun.fn 82) [AV.ptr p86, AV.slice h85] σ) fun x87 ↦ Option.bind p86 fun x88 ↦ Option.bind (Store.ldSl (Prod.snd x87) (Ptr.add (some x88) 3)) fun x89 ↦ some (AV.slice x89, Prod.snd x87) := by intros; kernel_rfl

theorem f71_eq : ∀ (Γ : Gam) (k : Nat) (σ : Store) (i0 : Int) (p1 : Ptr), evBody Try.prog Γ drawn k Try.f71 [AV.int IntKind.i64 i0, AV.ptr p1] σ = if decide (i0 < 0) = true then some (AV.bool true, σ) else Option.bind (Store.ldInt σ IntKind.i64 p1) fun x2 ↦ some (AV.bool (decide (x2 < i0)), σ) := by intros; kernel_rfl

theorem f72_eq : ∀ (Γ : Gam) (k : Nat) (σ : Store) (i0 : Int), evBody Try.prog Γ drawn k Try.f72 [AV.int IntKind.u64 i0] σ = Option.bind (Γ (Fun.fn 84) [AV.int IntKind.u64 i0] σ) fun x1 ↦ Option.bind (AV.asInt IntKind.i64 (Prod.fst x1)) fun x2 ↦ some (AV.int IntKind.i64 (mx2 (Int.ofNat 1) x2), Prod.snd x1) := by intros; kernel_rfl

theorem f73_eq : ∀ (Γ : Gam) (k : Nat) (σ : Store) (h0 : Hdl),
  evBody Try.prog Γ drawn k Try.f73 [AV.slice h0] σ = if Option.isNone (Hdl.a h0) = true then some (AV.slice Hdl.nil, σ) else Option.bind (Store.readSl (Store.push σ [] 1) h0 1) fun x1 ↦ Option.bind (Store.app (Store.push σ [] 1) { a := some (List.length (Store.objs σ), 0), len := 0, cap := some 0 } 1 8 x1 (Hdl.len h0)) fun x2 ↦ some (AV.slice (Prod.fst x2), Prod.snd x2) := by intros; kernel_rfl

theorem f74_eq : ∀ (Γ : Gam) (k : Nat) (σ : Store) (i0 i1 : Int),
  evBody Try.prog Γ drawn k Try.f74 [AV.int IntKind.i64 i0, AV.int IntKind.i64 i1] σ =
    if decide (i0 < (1 : Int)) = true then some (AV.tuple [AV.ptr none, AV.int IntKind.i64 (2 : Int)], σ)
    else
      if decide ((64 : Int) < i0) = true then some (AV.tuple [AV.ptr none, AV.int IntKind.i64 (2 : Int)], σ)
      else
        if decide (i1 < (0 : Int)) = true then some (AV.tuple [AV.ptr none, AV.int IntKind.i64 (2 : Int)], σ)
        else
          if decide ((4194304 : Int) < i1) = true then some (AV.tuple [AV.ptr none, AV.int IntKind.i64 (2 : Int)], σ)
          else
            Option.bind (Γ (Fun.fn (85 : Nat)) [AV.int IntKind.i64 i0, AV.int IntKind.i64 i1] σ) fun x2 ↦
              Option.bind (AV.asInt IntKind.i64 (Prod.fst x2)) fun x3 ↦
                if ((0 : Int) ≤ x3 ∧ x3 ≤ x3) ∧ x3 * (↑(8 : Nat) : Int) ≤ (281474976710656 : Int) then
                  some
                    (AV.tuple [AV.ptr (some (List.length (Store.objs (Store.push (Prod.snd x2) (mkCells [AV.int IntKind.u64 (0 : Int)] (Int.toNat x3)) (1 : Nat))), (0 : Nat))), AV.int IntKind.i64 (0 : Int)],
                      Store.push (Store.push (Prod.snd x2) (mkCells [AV.int IntKind.u64 (0 : Int)] (Int.toNat x3)) (1 : Nat)) [AV.int IntKind.i64 i0, AV.int IntKind.i64 i1, AV.slice { a := some (List.length (Store.objs (Prod.snd x2)), (0 : Nat)), len := Int.toNat x3, cap := some (Int.toNat x3) }] (3 : Nat))
                else none := by intros; kernel_rfl

theorem f75_eq : ∀ (Γ : Gam) (k : Nat) (σ : Store) (p0 : Ptr) (i1 i2 : Int),
  evBody Try.prog Γ drawn k Try.f75 [AV.ptr p0, AV.int IntKind.i64 i1, AV.int IntKind.u64 i2] σ =
    if Option.isNone p0 = true then some (AV.bool false, σ)
    else
      if decide (i1 < 0) = true then some (AV.bool false, σ)
      else
        Option.bind p0 fun x3 ↦
          Option.bind (Store.ldInt σ IntKind.i64 (Ptr.add (some x3) 1)) fun x4 ↦
            if decide (x4 ≤ i1) = true then some (AV.bool false, σ)
            else
              Option.bind p0 fun x5 ↦
                Option.bind (Store.ldInt σ IntKind.i64 (Ptr.add (some x5) 0)) fun x6 ↦
                  Option.bind (Γ (Fun.fn 86) [AV.int IntKind.i64 x6] σ) fun x7 ↦
                    Option.bind (AV.asInt IntKind.u64 (Prod.fst x7)) fun x8 ↦
                      if decide (x8 < i2) = true then some (AV.bool false, Prod.snd x7)
                      else
                        Option.bind p0 fun x9 ↦
                          Option.bind (Store.ldInt (Prod.snd x7) IntKind.i64 (Ptr.add (some x9) 0)) fun x10 ↦
                            Option.bind p0 fun x11 ↦
                              Option.bind (Store.ldInt (Prod.snd x7) IntKind.i64 (Ptr.add (some x11) 0)) fun x12 ↦
                                Option.bind (Γ (Fun.fn 86) [AV.int IntKind.i64 x12] (Prod.snd x7)) fun x13 ↦
                                  Option.bind (AV.asInt IntKind.u64 (Prod.fst x13)) fun x14 ↦
                                    Option.bind p0 fun x15 ↦
                                      Option.bind (Store.ldSl (Prod.snd x13) (Ptr.add (some x15) 2)) fun x16 ↦
                                        Option.bind p0 fun x17 ↦
                                          Option.bind (Store.ldSl (Prod.snd x13) (Ptr.add (some x17) 2)) fun x18 ↦
                                            if 0 ≤ IntKind.wrap IntKind.i64 (Int.tdiv (IntKind.wrap IntKind.i64 (i1 * x10)) 64) ∧ IntKind.wrap IntKind.i64 (Int.tdiv (IntKind.wrap IntKind.i64 (i1 * x10)) 64) < (↑(Hdl.len x18) : Int) then
                                              Option.bind (Store.ldInt (Prod.snd x13) IntKind.u64 (Hdl.idx x18 (IntKind.wrap IntKind.i64 (Int.tdiv (IntKind.wrap IntKind.i64 (i1 * x10)) 64)) 1)) fun x19 ↦
                                                if 0 ≤ Int.tmod (IntKind.wrap IntKind.i64 (i1 * x10)) 64 then
                                                  if 0 ≤ Int.tmod (IntKind.wrap IntKind.i64 (i1 * x10)) 64 then
                                                    if 0 ≤ IntKind.wrap IntKind.i64 (Int.tdiv (IntKind.wrap IntKind.i64 (i1 * x10)) 64) ∧ IntKind.wrap IntKind.i64 (Int.tdiv (IntKind.wrap IntKind.i64 (i1 * x10)) 64) < (↑(Hdl.len x16) : Int) then
                                                      Option.bind
                                                        (Store.stL (Prod.snd x13) (Hdl.idx x16 (IntKind.wrap IntKind.i64 (Int.tdiv (IntKind.wrap IntKind.i64 (i1 * x10)) 64)) 1)
                                                          [AV.int IntKind.u64 (bitOp BinOp.or IntKind.u64 (bitOp BinOp.andNot IntKind.u64 x19 (shlI IntKind.u64 x14 (Int.tmod (IntKind.wrap IntKind.i64 (i1 * x10)) 64))) (shlI IntKind.u64 i2 (Int.tmod (IntKind.wrap IntKind.i64 (i1 * x10)) 64)))] 0)
                                                        fun x20 ↦
                                                        Option.bind p0 fun x21 ↦
                                                          Option.bind (Store.ldInt x20 IntKind.i64 (Ptr.add (some x21) 0)) fun x22 ↦
                                                            if decide (64 < IntKind.wrap IntKind.i64 (Int.tmod (IntKind.wrap IntKind.i64 (i1 * x10)) 64 + x22)) = true then
                                                              Option.bind p0 fun x23 ↦
                                                                Option.bind (Store.ldSl x20 (Ptr.add (some x23) 2)) fun x24 ↦
                                                                  Option.bind p0 fun x25 ↦
                                                                    Option.bind (Store.ldSl x20 (Ptr.add (some x25) 2)) fun x26 ↦
                                                                      if 0 ≤ IntKind.wrap IntKind.i64 (IntKind.wrap IntKind.i64 (Int.tdiv (IntKind.wrap IntKind.i64 (i1 * x10)) 64) + 1) ∧ IntKind.wrap IntKind.i64 (IntKind.wrap IntKind.i64 (Int.tdiv (IntKind.wrap IntKind.i64 (i1 * x10)) 64) + 1) < (↑(Hdl.len x26) : Int) then
                                                                        Option.bind (Store.ldInt x20 IntKind.u64 (Hdl.idx x26 (IntKind.wrap IntKind.i64 (IntKind.wrap IntKind.i64 (Int.tdiv (IntKind.wrap IntKind.i64 (i1 * x10)) 64) + 1)) 1)) fun x27 ↦
                                                                          if 0 ≤ IntKind.wrap IntKind.i64 (64 - Int.tmod (IntKind.wrap IntKind.i64 (i1 * x10)) 64) then
                                                                            if 0 ≤ IntKind.wrap IntKind.i64 (64 - Int.tmod (IntKind.wrap IntKind.i64 (i1 * x10)) 64) then
                                                                              if 0 ≤ IntKind.wrap IntKind.i64 (IntKind.wrap IntKind.i64 (Int.tdiv (IntKind.wrap IntKind.i64 (i1 * x10)) 64) + 1) ∧ IntKind.wrap IntKind.i64 (IntKind.wrap IntKind.i64 (Int.tdiv (IntKind.wrap IntKind.i64 (i1 * x10)) 64) + 1) < (↑(Hdl.len x24) : Int) then
                                                                                Option.bind
                                                                                  (Store.stL x20 (Hdl.idx x24 (IntKind.wrap IntKind.i64 (IntKind.wrap IntKind.i64 (Int.tdiv (IntKind.wrap IntKind.i64 (i1 * x10)) 64) + 1)) 1)
                                                                                    [AV.int IntKind.u64 (bitOp BinOp.or IntKind.u64 (bitOp BinOp.andNot IntKind.u64 x27 (shrI IntKind.u64 x14 (IntKind.wrap IntKind.i64 (64 - Int.tmod (IntKind.wrap IntKind.i64 (i1 * x10)) 64)))) (shrI IntKind.u64 i2 (IntKind.wrap IntKind.i64 (64 - Int.tmod (IntKind.wrap IntKind.i64 (i1 * x10)) 64))))] 0)
                                                                                  fun x28 ↦ some (AV.bool true, x28)
                                                                              else none
                                                                            else none
                                                                          else none
                                                                      else none
                                                            else some (AV.bool true, x20)
                                                    else none
                                                  else none
                                                else none
                                            else none := by intros; kernel_rfl

theorem f76_eq : ∀ (Γ : Gam) (k : Nat) (σ : Store) (p0 : Ptr),
  evBody Try.prog Γ drawn k Try.f76 [AV.ptr p0] σ =
    if Option.isNone p0 = true then some (AV.tuple [AV.ptr none, AV.int IntKind.i64 1], σ)
    else
      Option.bind (Γ (Fun.fn 87) [AV.ptr p0] σ) fun x1 ↦
        Option.bind (AV.asInt IntKind.i64 (Prod.fst x1)) fun x2 ↦
          if decide (x2 ≠ 1) = true then some (AV.tuple [AV.ptr none, AV.int IntKind.i64 2], Prod.snd x1)
          else
            Option.bind (Γ (Fun.fn 88) [AV.ptr p0] (Prod.snd x1)) fun x3 ↦
              Option.bind (AV.asInt IntKind.i64 (Prod.fst x3)) fun x4 ↦
                Option.bind (Γ (Fun.fn 89) [AV.ptr p0] (Prod.snd x3)) fun x5 ↦
                  Option.bind (AV.asSl (Prod.fst x5)) fun x6 ↦
                    Option.bind (Store.ldSl (Store.push (Prod.snd x5) [AV.int IntKind.i64 x4, AV.slice x6, AV.slice Hdl.nil, AV.int IntKind.i64 0] 4) (Ptr.add (some (List.length (Store.objs (Prod.snd x5)), 0)) 1)) fun x7 ↦
                      Option.bind (loopF Try.prog Γ drawn k Try.f76 [1, 1, 1, 0, 1, 0] [25, 24, 23, 4] ([AV.int IntKind.i64 0, AV.int IntKind.i64 (↑(Hdl.len x7) : Int), AV.slice x7, AV.ptr (some (List.length (Store.objs (Prod.snd x5)), 0))], Store.push (Prod.snd x5) [AV.int IntKind.i64 x4, AV.slice x6, AV.slice Hdl.nil, AV.int IntKind.i64 0] 4))
                        (contF Try.prog Γ drawn k Try.f76 [1, 1, 1, 0, 1, 0]) := by intros; kernel_rfl

theorem f76_L111010 : ∀ (Γ : Gam) (k : Nat) (σ : Store) (i8 i9 : Int) (h10 : Hdl) (p11 : Ptr),
  stepF Try.prog Γ drawn k Try.f76 [1, 1, 1, 0, 1, 0] [25, 24, 23, 4] ([AV.int IntKind.i64 i8, AV.int IntKind.i64 i9, AV.slice h10, AV.ptr p11], σ) =
    if decide (i8 < i9) = true then
      if 0 ≤ i8 ∧ i8 < (↑(Hdl.len h10) : Int) then
        Option.bind (Store.ldInt σ IntKind.u64 (Hdl.idx h10 i8 1)) fun x12 ↦
          if decide (Int.tmod i8 8 = 0) = true then
            Option.bind p11 fun x13 ↦
              Option.bind (Store.ldSl σ (Ptr.add (some x13) 2)) fun x14 ↦
                Option.bind p11 fun x15 ↦
                  Option.bind (Store.ldInt σ IntKind.i64 (Ptr.add (some x15) 3)) fun x16 ↦
                    Option.bind (Store.readSl (Store.push σ [AV.int IntKind.i64 x16] 1) { a := some (List.length (Store.objs σ), 0), len := 1, cap := some 1 } 1) fun x17 ↦
                      Option.bind (Store.app (Store.push σ [AV.int IntKind.i64 x16] 1) x14 1 8 x17 1) fun x18 ↦
                        Option.bind p11 fun x19 ↦
                          Option.bind (Store.stL (Prod.snd x18) (Ptr.add (some x19) 2) [AV.slice (Prod.fst x18)] 0) fun x20 ↦
                            Option.bind p11 fun x21 ↦
                              Option.bind (Store.ldInt x20 IntKind.i64 (Ptr.add (some x21) 3)) fun x22 ↦
                                Option.bind (callG Γ true (Fun.fn 90) [AV.int IntKind.u64 x12] x20) fun x23 ↦
                                  Option.bind (AV.asInt IntKind.i64 (Prod.fst x23)) fun x24 ↦ Option.bind p11 fun x25 ↦ Option.bind (Store.stL (Prod.snd x23) (Ptr.add (some x25) 3) [AV.int IntKind.i64 (IntKind.wrap IntKind.i64 (x22 + x24))] 0) fun x26 ↦ some (Sum.inl ([AV.int IntKind.i64 (IntKind.wrap IntKind.i64 (i8 + 1)), AV.int IntKind.i64 i9, AV.slice h10, AV.ptr p11], x26))
          else
            Option.bind p11 fun x27 ↦
              Option.bind (Store.ldInt σ IntKind.i64 (Ptr.add (some x27) 3)) fun x28 ↦
                Option.bind (callG Γ true (Fun.fn 90) [AV.int IntKind.u64 x12] σ) fun x29 ↦
                  Option.bind (AV.asInt IntKind.i64 (Prod.fst x29)) fun x30 ↦ Option.bind p11 fun x31 ↦ Option.bind (Store.stL (Prod.snd x29) (Ptr.add (some x31) 3) [AV.int IntKind.i64 (IntKind.wrap IntKind.i64 (x28 + x30))] 0) fun x32 ↦ some (Sum.inl ([AV.int IntKind.i64 (IntKind.wrap IntKind.i64 (i8 + 1)), AV.int IntKind.i64 i9, AV.slice h10, AV.ptr p11], x32))
      else none
    else some (Sum.inr (AX.exit 1, [(4, AV.ptr p11)], σ)) := by intros; kernel_rfl

theorem f76_X111010_1 : ∀ (Γ : Gam) (k : Nat) (σ : Store) (p33 : Ptr), contF Try.prog Γ drawn k Try.f76 [1, 1, 1, 0, 1, 0] (AX.exit 1, [(4, AV.ptr p33)], σ) = some (AV.tuple [AV.ptr p33, AV.int IntKind.i64 0], σ) := by intros; kernel_rfl

theorem f77_eq : ∀ (Γ : Gam) (k : Nat) (σ : Store) (p0 : Ptr) (i1 : Int),
  evBody Try.prog Γ drawn k Try.f77 [AV.ptr p0, AV.int IntKind.i64 i1] σ =
    if Option.isNone p0 = true then some (AV.int IntKind.i64 0, σ)
    else
      if decide (i1 ≤ 0) = true then some (AV.int IntKind.i64 0, σ)
      else
        Option.bind p0 fun x2 ↦
          Option.bind (Store.ldInt σ IntKind.i64 (Ptr.add (some x2) 0)) fun x3 ↦
            if decide (x3 ≤ i1) = true then Option.bind p0 fun x4 ↦ Option.bind (Store.ldInt σ IntKind.i64 (Ptr.add (some x4) 3)) fun x5 ↦ some (AV.int IntKind.i64 x5, σ)
            else
              Option.bind p0 fun x6 ↦
                Option.bind (Store.ldSl σ (Ptr.add (some x6) 2)) fun x7 ↦
                  if 0 ≤ IntKind.wrap IntKind.i64 (Int.tdiv (IntKind.wrap IntKind.i64 (Int.tdiv i1 64)) 8) ∧ IntKind.wrap IntKind.i64 (Int.tdiv (IntKind.wrap IntKind.i64 (Int.tdiv i1 64)) 8) < (↑(Hdl.len x7) : Int) then
                    Option.bind (Store.ldInt σ IntKind.i64 (Hdl.idx x7 (IntKind.wrap IntKind.i64 (Int.tdiv (IntKind.wrap IntKind.i64 (Int.tdiv i1 64)) 8)) 1)) fun x8 ↦
                      Option.bind (loopF Try.prog Γ drawn k Try.f77 [1, 1, 1, 1, 1, 0, 1, 0] [7, 6, 5, 1, 0] ([AV.int IntKind.i64 (IntKind.wrap IntKind.i64 (IntKind.wrap IntKind.i64 (Int.tdiv (IntKind.wrap IntKind.i64 (Int.tdiv i1 64)) 8) * 8)), AV.int IntKind.i64 x8, AV.int IntKind.i64 (IntKind.wrap IntKind.i64 (Int.tdiv i1 64)), AV.int IntKind.i64 i1, AV.ptr p0], σ))
                        (contF Try.prog Γ drawn k Try.f77 [1, 1, 1, 1, 1, 0, 1, 0])
                  else none := by intros; kernel_rfl

theorem f77_L11111010 : ∀ (Γ : Gam) (k : Nat) (σ : Store) (i9 i10 i11 i12 : Int) (p13 : Ptr),
  stepF Try.prog Γ drawn k Try.f77 [1, 1, 1, 1, 1, 0, 1, 0] [7, 6, 5, 1, 0] ([AV.int IntKind.i64 i9, AV.int IntKind.i64 i10, AV.int IntKind.i64 i11, AV.int IntKind.i64 i12, AV.ptr p13], σ) =
    if decide (i9 < i11) = true then
      Option.bind p13 fun x14 ↦
        Option.bind (Store.ldSl σ (Ptr.add (some x14) 1)) fun x15 ↦
          if 0 ≤ i9 ∧ i9 < (↑(Hdl.len x15) : Int) then
            Option.bind (Store.ldInt σ IntKind.u64 (Hdl.idx x15 i9 1)) fun x16 ↦
              Option.bind (Γ (Fun.fn 90) [AV.int IntKind.u64 x16] σ) fun x17 ↦ Option.bind (AV.asInt IntKind.i64 (Prod.fst x17)) fun x18 ↦ some (Sum.inl ([AV.int IntKind.i64 (IntKind.wrap IntKind.i64 (i9 + 1)), AV.int IntKind.i64 (IntKind.wrap IntKind.i64 (i10 + x18)), AV.int IntKind.i64 i11, AV.int IntKind.i64 i12, AV.ptr p13], Prod.snd x17))
          else none
    else some (Sum.inr (AX.exit 0, [(6, AV.int IntKind.i64 i10), (5, AV.int IntKind.i64 i11), (1, AV.int IntKind.i64 i12), (0, AV.ptr p13)], σ)) := by intros; kernel_rfl

theorem f77_X11111010_1 : ∀ (Γ : Gam) (k : Nat) (σ : Store) (i19 i20 i21 : Int) (p22 : Ptr),
  contF Try.prog Γ drawn k Try.f77 [1, 1, 1, 1, 1, 0, 1, 0] (AX.exit 0, [(6, AV.int IntKind.i64 i19), (5, AV.int IntKind.i64 i20), (1, AV.int IntKind.i64 i21), (0, AV.ptr p22)], σ) =
    Option.bind p22 fun x23 ↦
      Option.bind (Store.ldSl σ (Ptr.add (some x23) 1)) fun x24 ↦
        if 0 ≤ i20 ∧ i20 < (↑(Hdl.len x24) : Int) then
          Option.bind (Store.ldInt σ IntKind.u64 (Hdl.idx x24 i20 1)) fun x25 ↦
            if 0 ≤ Int.tmod i21 64 then Option.bind (Γ (Fun.fn 90) [AV.int IntKind.u64 (bitOp BinOp.and IntKind.u64 x25 (IntKind.wrap IntKind.u64 (shlI IntKind.u64 1 (Int.tmod i21 64) - 1)))] σ) fun x26 ↦ Option.bind (AV.asInt IntKind.i64 (Prod.fst x26)) fun x27 ↦ some (AV.int IntKind.i64 (IntKind.wrap IntKind.i64 (i19 + x27)), Prod.snd x26) else none
        else none := by intros; kernel_rfl

theorem f78_eq : ∀ (Γ : Gam) (k : Nat) (σ : Store) (y0 : Nat) (p1 : Ptr), evBody Try.prog Γ drawn k Try.f78 [AV.yld y0, AV.ptr p1] σ = Option.bind (Store.ldSl σ p1) fun x2 ↦ Option.bind (loopF Try.prog Γ drawn k Try.f78 [1, 0] [3, 1, 0] ([AV.int IntKind.i64 (IntKind.wrap IntKind.i64 ((↑(Hdl.len x2) : Int) - 1)), AV.ptr p1, AV.yld y0], σ)) (contF Try.prog Γ drawn k Try.f78 [1, 0]) := by intros; kernel_rfl

theorem f78_L10 : ∀ (Γ : Gam) (k : Nat) (σ : Store) (i3 : Int) (p4 : Ptr) (y5 : Nat),
  stepF Try.prog Γ drawn k Try.f78 [1, 0] [3, 1, 0] ([AV.int IntKind.i64 i3, AV.ptr p4, AV.yld y5], σ) =
    if decide (0 ≤ i3) = true then
      Option.bind (Store.ldSl σ p4) fun x6 ↦
        if 0 ≤ i3 ∧ i3 < (↑(Hdl.len x6) : Int) then
          Option.bind (Store.ldPtr σ (Hdl.idx x6 i3 1)) fun x7 ↦ Option.bind (Γ (Fun.yl y5) [AV.int IntKind.i64 i3, AV.ptr x7] σ) fun x8 ↦ Option.bind (AV.asBool (Prod.fst x8)) fun x9 ↦ if (!x9) = true then some (Sum.inr (AX.ret, [], Prod.snd x8)) else some (Sum.inl ([AV.int IntKind.i64 (IntKind.wrap IntKind.i64 (i3 - 1)), AV.ptr p4, AV.yld y5], Prod.snd x8))
        else none
    else some (Sum.inr (AX.exit 0, [], σ)) := by intros; kernel_rfl

theorem f78_X10_2 : ∀ (Γ : Gam) (k : Nat) (σ : Store), contF Try.prog Γ drawn k Try.f78 [1, 0] (AX.exit 0, [], σ) = some (AV.tuple [], σ) := by intros; kernel_rfl

theorem f79_eq : ∀ (Γ : Gam) (k : Nat) (σ : Store) (p0 : Ptr) (i1 i2 : Int) (g3 : FuncId) (a4 c5 : List AV),
  evBody Try.prog Γ drawn k Try.f79 [AV.ptr p0, AV.int IntKind.i64 i1, AV.int IntKind.i64 i2, AV.func g3 a4 c5] σ =
    Option.bind (Store.ldInt (Store.push (Store.push σ [AV.int IntKind.i64 i1] 1) [AV.func g3 a4 c5] 1) IntKind.i64 (some (List.length (Store.objs σ), 0))) fun x6 ↦
      if decide (x6 < 0) = true then some (AV.int IntKind.i64 (-1), Store.push (Store.push σ [AV.int IntKind.i64 i1] 1) [AV.func g3 a4 c5] 1)
      else
        Option.bind (Store.ldInt (Store.push (Store.push σ [AV.int IntKind.i64 i1] 1) [AV.func g3 a4 c5] 1) IntKind.i64 (some (List.length (Store.objs σ), 0))) fun x7 ↦
          if decide (i2 ≤ x7) = true then some (AV.int IntKind.i64 (-1), Store.push (Store.push σ [AV.int IntKind.i64 i1] 1) [AV.func g3 a4 c5] 1)
          else
            Option.bind p0 fun x8 ↦
              Option.bind (Store.ldInt (Store.push (Store.push σ [AV.int IntKind.i64 i1] 1) [AV.func g3 a4 c5] 1) IntKind.i64 (Ptr.add (some x8) 0)) fun x9 ↦
                Option.bind (Γ (Fun.fn 91) [AV.int IntKind.i64 x9, AV.func 92 [] [AV.ptr (some (List.length (Store.objs (Store.push σ [AV.int IntKind.i64 i1] 1)), 0)), AV.ptr (some (List.length (Store.objs σ), 0))]] (Store.push (Store.push σ [AV.int IntKind.i64 i1] 1) [AV.func g3 a4 c5] 1)) fun x10 ↦
                  Option.bind (AV.asInt IntKind.i64 (Prod.fst x10)) fun x11 ↦ some (AV.int IntKind.i64 x11, Prod.snd x10) := by intros; kernel_rfl

theorem f80_eq : ∀ (Γ : Gam) (k : Nat) (σ : Store) (p0 : Ptr), evBody Try.prog Γ drawn k Try.f80 [AV.ptr p0] σ = if Option.isNone p0 = true then some (AV.int IntKind.i64 0, σ) else Option.bind p0 fun x1 ↦ Option.bind (Store.ldInt σ IntKind.i64 (Ptr.add (some x1) 3)) fun x2 ↦ some (AV.int IntKind.i64 x2, σ) := by intros; kernel_rfl

theorem f81_eq : ∀ (Γ : Gam) (k : Nat) (σ : Store) (p0 : Ptr) (i1 : Int),
  evBody Try.prog Γ drawn k Try.f81 [AV.ptr p0, AV.int IntKind.i64 i1] σ =
    if decide (0 < i1) = true then
      Option.bind p0 fun x2 ↦
        Option.bind (Store.ldSl σ (Ptr.add (some x2) 2)) fun x3 ↦
          if 0 ≤ i1 ∧ i1 < (↑(Hdl.len x3) : Int) then
            Option.bind (Store.ldBool σ (Hdl.idx x3 i1 1)) fun x4 ↦
              if x4 = true then Option.bind p0 fun x5 ↦ Option.bind (Store.ldSl σ (Ptr.add (some x5) 2)) fun x6 ↦ if 0 ≤ IntKind.wrap IntKind.i64 (i1 - 1) ∧ IntKind.wrap IntKind.i64 (i1 - 1) < (↑(Hdl.len x6) : Int) then Option.bind (Store.ldBool σ (Hdl.idx x6 (IntKind.wrap IntKind.i64 (i1 - 1)) 1)) fun x7 ↦ some (AV.bool !x7, σ) else none else some (AV.bool false, σ)
          else none
    else some (AV.bool false, σ) := by intros; kernel_rfl

theorem f82_eq : ∀ (Γ : Gam) (k : Nat) (σ : Store) (p0 : Ptr) (h1 : Hdl),
  evBody Try.prog Γ drawn k Try.f82 [AV.ptr p0, AV.slice h1] σ =
    Option.bind (Store.ldPtr (Store.push σ [AV.ptr p0] 1) (some (List.length (Store.objs σ), 0))) fun x2 ↦
      Option.bind x2 fun x3 ↦ Option.bind (Store.ldSl (Store.push σ [AV.ptr p0] 1) (Ptr.add (some x3) 3)) fun x4 ↦ Option.bind (loopF Try.prog Γ drawn k Try.f82 [1, 0, 1, 0] [19, 18, 2, 1] ([AV.int IntKind.i64 0, AV.int IntKind.i64 (↑(Hdl.len x4) : Int), AV.ptr (some (List.length (Store.objs σ), 0)), AV.slice h1], Store.push σ [AV.ptr p0] 1)) (contF Try.prog Γ drawn k Try.f82 [1, 0, 1, 0]) := by intros; kernel_rfl

theorem f82_L1010 : ∀ (Γ : Gam) (k : Nat) (σ : Store) (i5 i6 : Int) (p7 : Ptr) (h8 : Hdl),
  stepF Try.prog Γ drawn k Try.f82 [1, 0, 1, 0] [19, 18, 2, 1] ([AV.int IntKind.i64 i5, AV.int IntKind.i64 i6, AV.ptr p7, AV.slice h8], σ) =
    if decide (i5 < i6) = true then
      Option.bind (Store.ldPtr σ p7) fun x9 ↦ Option.bind x9 fun x10 ↦ Option.bind (Store.ldSl σ (Ptr.add (some x10) 3)) fun x11 ↦ if 0 ≤ i5 ∧ i5 < (↑(Hdl.len x11) : Int) then Option.bind (Store.stL σ (Hdl.idx x11 i5 1) [AV.int IntKind.i64 (-1)] 0) fun x12 ↦ some (Sum.inl ([AV.int IntKind.i64 (IntKind.wrap IntKind.i64 (i5 + 1)), AV.int IntKind.i64 i6, AV.ptr p7, AV.slice h8], x12)) else none
    else some (Sum.inr (AX.exit 0, [(2, AV.ptr p7), (1, AV.slice h8)], σ)) := by intros; kernel_rfl

theorem f82_X1010_1 : ∀ (Γ : Gam) (k : Nat) (σ : Store) (p13 : Ptr) (h14 : Hdl),
  contF Try.prog Γ drawn k Try.f82 [1, 0, 1, 0] (AX.exit 0, [(2, AV.ptr p13), (1, AV.slice h14)], σ) =
    Option.bind (Store.ldPtr σ p13) fun x15 ↦
      Option.bind (Γ (Fun.fn 93) [AV.ptr x15, AV.bool true] σ) fun x16 ↦
        Option.bind (AV.asSl (Prod.fst x16)) fun x17 ↦
          Option.bind (Store.stL (Store.push (Prod.snd x16) [AV.slice Hdl.nil] 1) (some (List.length (Store.objs (Prod.snd x16)), 0)) [AV.slice x17] 0) fun x18 ↦
            Option.bind (Γ (Fun.fn 94) [AV.slice h14] x18) fun x19 ↦
              Option.bind (AV.asFn (Prod.fst x19)) fun x20 ↦
                Option.bind (rangeV Γ (Prod.fst x20) (Prod.fst (Prod.snd x20)) (Prod.snd (Prod.snd x20)) (AObj.loop [(5, AV.ptr (some (List.length (Store.objs (Prod.snd x16)), 0))), (2, AV.ptr p13)] (Array.toList #[33, 34]) (codeAt (fnCode Try.f82) [1, 1, 1, 0, 1, 0, 0]) (codeAt (fnCode Try.f82) [1, 1, 1, 0, 1, 0, 1]) (Func.ntmps Try.f82) LSt.ready) (Prod.snd x19)) fun x21 ↦
                  contF Try.prog Γ drawn k Try.f82 [1, 1, 1, 0, 1, 0] (Prod.fst x21, [(5, AV.ptr (some (List.length (Store.objs (Prod.snd x16)), 0))), (2, AV.ptr p13)], Prod.snd x21) := by intros; kernel_rfl

theorem f82_RX111010 : ∀ (Γ : Gam) (k : Nat) (σ : Store) (p22 p23 : Ptr) (i24 i25 : Int), roundX Try.prog Γ drawn k Try.f82 [1, 1, 1, 0, 1, 0] [(34, AV.int IntKind.i64 i25), (33, AV.int IntKind.i64 i24), (5, AV.ptr p22), (2, AV.ptr p23)] σ = some (AX.normal, [(7, AV.int IntKind.i64 i25), (34, AV.int IntKind.i64 i25), (33, AV.int IntKind.i64 i24), (5, AV.ptr p22), (2, AV.ptr p23)], σ) := by intros; kernel_rfl

theorem f82_RY111010 : ∀ (Γ : Gam) (k : Nat) (σ : Store) (i26 : Int) (p27 p28 : Ptr),
  roundY Try.prog Γ drawn k Try.f82 [1, 1, 1, 0, 1, 0] [(7, AV.int IntKind.i64 i26), (5, AV.ptr p27), (2, AV.ptr p28)] σ =
    Option.bind (Store.ldPtr σ p28) fun x29 ↦
      Option.bind x29 fun x30 ↦
        Option.bind (Store.ldSl σ (Ptr.add (some x30) 0)) fun x31 ↦
          if 0 ≤ i26 ∧ i26 < (↑(Hdl.len x31) : Int) then
            Option.bind (Store.ldInt σ IntKind.i64 (Hdl.idx x31 i26 1)) fun x32 ↦
              Option.bind (Store.ldSl σ p27) fun x33 ↦
                if 0 ≤ x32 ∧ x32 < (↑(Hdl.len x33) : Int) then
                  Option.bind (Store.ldInt σ IntKind.i64 (Hdl.idx x33 x32 1)) fun x34 ↦
                    if 0 ≤ x32 ∧ x32 < (↑(Hdl.len x33) : Int) then
                      Option.bind (Store.stL σ (Hdl.idx x33 x32 1) [AV.int IntKind.i64 (IntKind.wrap IntKind.i64 (x34 - 1))] 0) fun x35 ↦
                        Option.bind (Store.ldPtr x35 p28) fun x36 ↦
                          Option.bind x36 fun x37 ↦
                            Option.bind (Store.ldSl x35 (Ptr.add (some x37) 3)) fun x38 ↦
                              Option.bind (Store.ldSl x35 p27) fun x39 ↦ if 0 ≤ x32 ∧ x32 < (↑(Hdl.len x39) : Int) then Option.bind (Store.ldInt x35 IntKind.i64 (Hdl.idx x39 x32 1)) fun x40 ↦ if 0 ≤ x40 ∧ x40 < (↑(Hdl.len x38) : Int) then Option.bind (Store.stL x35 (Hdl.idx x38 x40 1) [AV.int IntKind.i64 i26] 0) fun x41 ↦ some (AX.normal, x41) else none else none
                    else none
                else none
          else none := by intros; kernel_rfl

theorem f82_RC111010 : ∀ (Γ : Gam) (k : Nat) (σ : Store) (p42 p43 : Ptr),
  contF Try.prog Γ drawn k Try.f82 [1, 1, 1, 0, 1, 0] (AX.normal, [(5, AV.ptr p42), (2, AV.ptr p43)], σ) =
    Option.bind (Store.ldPtr σ p43) fun x44 ↦
      Option.bind (Γ (Fun.fn 93) [AV.ptr x44, AV.bool false] σ) fun x45 ↦
        Option.bind (AV.asSl (Prod.fst x45)) fun x46 ↦
          Option.bind (Store.stL (Store.push (Prod.snd x45) [AV.slice Hdl.nil] 1) (some (List.length (Store.objs (Prod.snd x45)), 0)) [AV.slice x46] 0) fun x47 ↦
            Option.bind (Store.ldPtr x47 p43) fun x48 ↦
              Option.bind x48 fun x49 ↦
                Option.bind (Store.ldSl x47 (Ptr.add (some x49) 0)) fun x50 ↦
                  Option.bind (Γ (Fun.fn 95) [AV.int IntKind.i64 (IntKind.wrap IntKind.i64 ((↑(Hdl.len x50) : Int) - 1)), AV.ptr p43, AV.ptr (some (List.length (Store.objs (Prod.snd x45)), 0))] x47) fun x51 ↦
                    Option.bind (Store.ldPtr (Prod.snd x51) p43) fun x52 ↦
                      Option.bind x52 fun x53 ↦
                        Option.bind (Store.ldSl (Prod.snd x51) (Ptr.add (some x53) 3)) fun x54 ↦
                          Option.bind (loopF Try.prog Γ drawn k Try.f82 [1, 1, 1, 1, 1, 1, 1, 0, 1, 0] [74, 73, 10, 5, 2] ([AV.int IntKind.i64 0, AV.int IntKind.i64 (↑(Hdl.len x54) : Int), AV.func 95 [] [AV.ptr p43, AV.ptr (some (List.length (Store.objs (Prod.snd x45)), 0))], AV.ptr p42, AV.ptr p43], Prod.snd x51)) (contF Try.prog Γ drawn k Try.f82 [1, 1, 1, 1, 1, 1, 1, 0, 1, 0]) := by intros; kernel_rfl

theorem f82_L1111111010 : ∀ (Γ : Gam) (k : Nat) (σ : Store) (i55 i56 : Int) (p57 p58 p59 p60 : Ptr),
  stepF Try.prog Γ drawn k Try.f82 [1, 1, 1, 1, 1, 1, 1, 0, 1, 0] [74, 73, 10, 5, 2] ([AV.int IntKind.i64 i55, AV.int IntKind.i64 i56, AV.func 95 [] [AV.ptr p57, AV.ptr p58], AV.ptr p59, AV.ptr p60], σ) =
    if decide (i55 < i56) = true then
      Option.bind (Store.ldPtr σ p60) fun x61 ↦
        Option.bind x61 fun x62 ↦
          Option.bind (Store.ldSl σ (Ptr.add (some x62) 3)) fun x63 ↦
            if 0 ≤ i55 ∧ i55 < (↑(Hdl.len x63) : Int) then
              Option.bind (Store.ldInt σ IntKind.i64 (Hdl.idx x63 i55 1)) fun x64 ↦
                if decide (0 < x64) = true then
                  Option.bind (Store.ldPtr σ p60) fun x65 ↦
                    Option.bind x65 fun x66 ↦
                      Option.bind (Store.ldSl σ (Ptr.add (some x66) 3)) fun x67 ↦
                        if 0 ≤ i55 ∧ i55 < (↑(Hdl.len x67) : Int) then
                          Option.bind (Store.ldInt σ IntKind.i64 (Hdl.idx x67 i55 1)) fun x68 ↦ Option.bind (Γ (Fun.fn 95) [AV.int IntKind.i64 (IntKind.wrap IntKind.i64 (x68 - 1)), AV.ptr p57, AV.ptr p58] σ) fun x69 ↦ some (Sum.inl ([AV.int IntKind.i64 (IntKind.wrap IntKind.i64 (i55 + 1)), AV.int IntKind.i64 i56, AV.func 95 [] [AV.ptr p57, AV.ptr p58], AV.ptr p59, AV.ptr p60], Prod.snd x69))
                        else none
                else some (Sum.inl ([AV.int IntKind.i64 (IntKind.wrap IntKind.i64 (i55 + 1)), AV.int IntKind.i64 i56, AV.func 95 [] [AV.ptr p57, AV.ptr p58], AV.ptr p59, AV.ptr p60], σ))
            else none
    else some (Sum.inr (AX.exit 4, [(5, AV.ptr p59), (2, AV.ptr p60)], σ)) := by intros; kernel_rfl

theorem f82_X1111111010_1 : ∀ (Γ : Gam) (k : Nat) (σ : Store) (p70 p71 : Ptr),
  contF Try.prog Γ drawn k Try.f82 [1, 1, 1, 1, 1, 1, 1, 0, 1, 0] (AX.exit 4, [(5, AV.ptr p70), (2, AV.ptr p71)], σ) =
    Option.bind (Store.ldPtr σ p71) fun x72 ↦
      Option.bind (Γ (Fun.fn 93) [AV.ptr x72, AV.bool true] σ) fun x73 ↦
        Option.bind (AV.asSl (Prod.fst x73)) fun x74 ↦
          Option.bind (Store.stL (Prod.snd x73) p70 [AV.slice x74] 0) fun x75 ↦
            Option.bind (Store.ldPtr x75 p71) fun x76 ↦
              Option.bind x76 fun x77 ↦ Option.bind (Store.ldSl x75 (Ptr.add (some x77) 3)) fun x78 ↦ Option.bind (loopF Try.prog Γ drawn k Try.f82 [1, 1, 1, 1, 1, 1, 1, 1, 1, 1, 0] [12, 5, 2] ([AV.int IntKind.i64 (IntKind.wrap IntKind.i64 ((↑(Hdl.len x78) : Int) - 1)), AV.ptr p70, AV.ptr p71], x75)) (contF Try.prog Γ drawn k Try.f82 [1, 1, 1, 1, 1, 1, 1, 1, 1, 1, 0]) := by intros; kernel_rfl

theorem f82_L11111111110 : ∀ (Γ : Gam) (k : Nat) (σ : Store) (i79 : Int) (p80 p81 : Ptr),
  stepF Try.prog Γ drawn k Try.f82 [1, 1, 1, 1, 1, 1, 1, 1, 1, 1, 0] [12, 5, 2] ([AV.int IntKind.i64 i79, AV.ptr p80, AV.ptr p81], σ) =
    if decide (0 ≤ i79) = true then
      Option.bind (Store.ldPtr σ p81) fun x82 ↦
        Option.bind x82 fun x83 ↦
          Option.bind (Store.ldSl σ (Ptr.add (some x83) 3)) fun x84 ↦
            if 0 ≤ i79 ∧ i79 < (↑(Hdl.len x84) : Int) then
              Option.bind (Store.ldInt σ IntKind.i64 (Hdl.idx x84 i79 1)) fun x85 ↦
                if decide (0 ≤ IntKind.wrap IntKind.i64 (x85 - 1)) = true then
                  Option.bind (Store.ldPtr σ p81) fun x86 ↦
                    Option.bind x86 fun x87 ↦
                      Option.bind (Store.ldSl σ (Ptr.add (some x87) 2)) fun x88 ↦
                        if 0 ≤ IntKind.wrap IntKind.i64 (x85 - 1) ∧ IntKind.wrap IntKind.i64 (x85 - 1) < (↑(Hdl.len x88) : Int) then
                          Option.bind (Store.ldBool σ (Hdl.idx x88 (IntKind.wrap IntKind.i64 (x85 - 1)) 1)) fun x89 ↦
                            if x89 = true then
                              Option.bind (Store.ldSl σ p80) fun x90 ↦
                                Option.bind (Store.ldPtr σ p81) fun x91 ↦
                                  Option.bind x91 fun x92 ↦
                                    Option.bind (Store.ldSl σ (Ptr.add (some x92) 0)) fun x93 ↦
                                      if 0 ≤ IntKind.wrap IntKind.i64 (x85 - 1) ∧ IntKind.wrap IntKind.i64 (x85 - 1) < (↑(Hdl.len x93) : Int) then
                                        Option.bind (Store.ldInt σ IntKind.i64 (Hdl.idx x93 (IntKind.wrap IntKind.i64 (x85 - 1)) 1)) fun x94 ↦
                                          if 0 ≤ x94 ∧ x94 < (↑(Hdl.len x90) : Int) then
                                            Option.bind (Store.ldInt σ IntKind.i64 (Hdl.idx x90 x94 1)) fun x95 ↦
                                              if 0 ≤ x94 ∧ x94 < (↑(Hdl.len x90) : Int) then
                                                Option.bind (Store.stL σ (Hdl.idx x90 x94 1) [AV.int IntKind.i64 (IntKind.wrap IntKind.i64 (x95 - 1))] 0) fun x96 ↦
                                                  Option.bind (Store.ldPtr x96 p81) fun x97 ↦
                                                    Option.bind x97 fun x98 ↦
                                                      Option.bind (Store.ldSl x96 (Ptr.add (some x98) 3)) fun x99 ↦
                                                        Option.bind (Store.ldSl x96 p80) fun x100 ↦
                                                          Option.bind (Store.ldPtr x96 p81) fun x101 ↦
                                                            Option.bind x101 fun x102 ↦
                                                              Option.bind (Store.ldSl x96 (Ptr.add (some x102) 0)) fun x103 ↦
                                                                if 0 ≤ IntKind.wrap IntKind.i64 (x85 - 1) ∧ IntKind.wrap IntKind.i64 (x85 - 1) < (↑(Hdl.len x103) : Int) then
                                                                  Option.bind (Store.ldInt x96 IntKind.i64 (Hdl.idx x103 (IntKind.wrap IntKind.i64 (x85 - 1)) 1)) fun x104 ↦
                                                                    if 0 ≤ x104 ∧ x104 < (↑(Hdl.len x100) : Int) then
                                                                      Option.bind (Store.ldInt x96 IntKind.i64 (Hdl.idx x100 x104 1)) fun x105 ↦
                                                                        if 0 ≤ x105 ∧ x105 < (↑(Hdl.len x99) : Int) then Option.bind (Store.stL x96 (Hdl.idx x99 x105 1) [AV.int IntKind.i64 (IntKind.wrap IntKind.i64 (x85 - 1))] 0) fun x106 ↦ some (Sum.inl ([AV.int IntKind.i64 (IntKind.wrap IntKind.i64 (i79 - 1)), AV.ptr p80, AV.ptr p81], x106)) else none
                                                                    else none
                                                                else none
                                              else none
                                          else none
                                      else none
                            else some (Sum.inl ([AV.int IntKind.i64 (IntKind.wrap IntKind.i64 (i79 - 1)), AV.ptr p80, AV.ptr p81], σ))
                        else none
                else some (Sum.inl ([AV.int IntKind.i64 (IntKind.wrap IntKind.i64 (i79 - 1)), AV.ptr p80, AV.ptr p81], σ))
            else none
    else some (Sum.inr (AX.exit 6, [], σ)) := by intros; kernel_rfl

theorem f82_X11111111110_1 : ∀ (Γ : Gam) (k : Nat) (σ : Store), contF Try.prog Γ drawn k Try.f82 [1, 1, 1, 1, 1, 1, 1, 1, 1, 1, 0] (AX.exit 6, [], σ) = some (AV.tuple [], σ) := by intros; kernel_rfl

theorem f83_eq : ∀ (Γ : Gam) (k : Nat) (σ : Store) (p0 : Ptr) (i1 i2 : Int), evBody Try.prog Γ drawn k Try.f83 [AV.ptr p0, AV.int IntKind.i64 i1, AV.int IntKind.i64 i2] σ = Option.bind (loopF Try.prog Γ drawn k Try.f83 [1, 1, 0] [7, 2, 1, 0] ([AV.int IntKind.i64 0, AV.int IntKind.i64 i2, AV.int IntKind.i64 i1, AV.ptr p0], σ)) (contF Try.prog Γ drawn k Try.f83 [1, 1, 0]) := by intros; kernel_rfl

theorem f83_L110 : ∀ (Γ : Gam) (k : Nat) (σ : Store) (i3 i4 i5 : Int) (p6 : Ptr),
  stepF Try.prog Γ drawn k Try.f83 [1, 1, 0] [7, 2, 1, 0] ([AV.int IntKind.i64 i3, AV.int IntKind.i64 i4, AV.int IntKind.i64 i5, AV.ptr p6], σ) =
    Option.bind p6 fun x7 ↦
      Option.bind (Store.ldSl σ (Ptr.add (some x7) 0)) fun x8 ↦
        Option.bind p6 fun x9 ↦
          Option.bind (Store.ldSl σ (Ptr.add (some x9) 0)) fun x10 ↦
            if (!decide (IntKind.wrap IntKind.i64 (i5 + i3) < (↑(Hdl.len x8) : Int))) = true then some (Sum.inr (AX.ret, [(6, AV.bool false)], σ))
            else
              if (!decide (IntKind.wrap IntKind.i64 (i4 + i3) < (↑(Hdl.len x10) : Int))) = true then some (Sum.inr (AX.ret, [(6, AV.bool false)], σ))
              else
                Option.bind p6 fun x11 ↦
                  Option.bind (Store.ldSl σ (Ptr.add (some x11) 0)) fun x12 ↦
                    if 0 ≤ IntKind.wrap IntKind.i64 (i5 + i3) ∧ IntKind.wrap IntKind.i64 (i5 + i3) < (↑(Hdl.len x12) : Int) then
                      Option.bind (Store.ldInt σ IntKind.i64 (Hdl.idx x12 (IntKind.wrap IntKind.i64 (i5 + i3)) 1)) fun x13 ↦
                        Option.bind p6 fun x14 ↦
                          Option.bind (Store.ldSl σ (Ptr.add (some x14) 0)) fun x15 ↦
                            if 0 ≤ IntKind.wrap IntKind.i64 (i4 + i3) ∧ IntKind.wrap IntKind.i64 (i4 + i3) < (↑(Hdl.len x15) : Int) then
                              Option.bind (Store.ldInt σ IntKind.i64 (Hdl.idx x15 (IntKind.wrap IntKind.i64 (i4 + i3)) 1)) fun x16 ↦
                                if decide (x13 ≠ x16) = true then some (Sum.inr (AX.ret, [(6, AV.bool false)], σ))
                                else
                                  Option.bind p6 fun x17 ↦
                                    Option.bind (Store.ldSl σ (Ptr.add (some x17) 2)) fun x18 ↦
                                      if 0 ≤ IntKind.wrap IntKind.i64 (i5 + i3) ∧ IntKind.wrap IntKind.i64 (i5 + i3) < (↑(Hdl.len x18) : Int) then
                                        Option.bind (Store.ldBool σ (Hdl.idx x18 (IntKind.wrap IntKind.i64 (i5 + i3)) 1)) fun x19 ↦
                                          Option.bind p6 fun x20 ↦
                                            Option.bind (Store.ldSl σ (Ptr.add (some x20) 2)) fun x21 ↦
                                              if 0 ≤ IntKind.wrap IntKind.i64 (i4 + i3) ∧ IntKind.wrap IntKind.i64 (i4 + i3) < (↑(Hdl.len x21) : Int) then
                                                Option.bind (Store.ldBool σ (Hdl.idx x21 (IntKind.wrap IntKind.i64 (i4 + i3)) 1)) fun x22 ↦
                                                  if (!x19 == x22) = true then some (Sum.inr (AX.ret, [(6, AV.bool false)], σ))
                                                  else
                                                    if decide (0 < i3) = true then
                                                      Option.bind (Γ (Fun.fn 81) [AV.ptr p6, AV.int IntKind.i64 (IntKind.wrap IntKind.i64 (i5 + i3))] σ) fun x23 ↦
                                                        Option.bind (AV.asBool (Prod.fst x23)) fun x24 ↦
                                                          if x24 = true then
                                                            Option.bind (Γ (Fun.fn 81) [AV.ptr p6, AV.int IntKind.i64 (IntKind.wrap IntKind.i64 (i5 + i3))] (Prod.snd x23)) fun x25 ↦
                                                              Option.bind (AV.asBool (Prod.fst x25)) fun x26 ↦
                                                                if x26 = true then Option.bind (Γ (Fun.fn 81) [AV.ptr p6, AV.int IntKind.i64 (IntKind.wrap IntKind.i64 (i4 + i3))] (Prod.snd x25)) fun x27 ↦ Option.bind (AV.asBool (Prod.fst x27)) fun x28 ↦ some (Sum.inr (AX.ret, [(6, AV.bool x28)], Prod.snd x27)) else some (Sum.inr (AX.ret, [(6, AV.bool false)], Prod.snd x25))
                                                          else
                                                            Option.bind (Γ (Fun.fn 81) [AV.ptr p6, AV.int IntKind.i64 (IntKind.wrap IntKind.i64 (i4 + i3))] (Prod.snd x23)) fun x29 ↦
                                                              Option.bind (AV.asBool (Prod.fst x29)) fun x30 ↦
                                                                if x30 = true then
                                                                  Option.bind (Γ (Fun.fn 81) [AV.ptr p6, AV.int IntKind.i64 (IntKind.wrap IntKind.i64 (i5 + i3))] (Prod.snd x29)) fun x31 ↦
                                                                    Option.bind (AV.asBool (Prod.fst x31)) fun x32 ↦
                                                                      if x32 = true then Option.bind (Γ (Fun.fn 81) [AV.ptr p6, AV.int IntKind.i64 (IntKind.wrap IntKind.i64 (i4 + i3))] (Prod.snd x31)) fun x33 ↦ Option.bind (AV.asBool (Prod.fst x33)) fun x34 ↦ some (Sum.inr (AX.ret, [(6, AV.bool x34)], Prod.snd x33)) else some (Sum.inr (AX.ret, [(6, AV.bool false)], Prod.snd x31))
                                                                else some (Sum.inl ([AV.int IntKind.i64 (IntKind.wrap IntKind.i64 (i3 + 1)), AV.int IntKind.i64 i4, AV.int IntKind.i64 i5, AV.ptr p6], Prod.snd x29))
                                                    else some (Sum.inl ([AV.int IntKind.i64 (IntKind.wrap IntKind.i64 (i3 + 1)), AV.int IntKind.i64 i4, AV.int IntKind.i64 i5, AV.ptr p6], σ))
                                              else none
                                      else none
                            else none
                    else none := by intros; kernel_rfl

theorem f83_X110_1 : ∀ (Γ : Gam) (k : Nat) (σ : Store) (b35 : Bool), contF Try.prog Γ drawn k Try.f83 [1, 1, 0] (AX.ret, [(6, AV.bool b35)], σ) = some (AV.bool b35, σ) := by intros; kernel_rfl

theorem f84_eq : ∀ (Γ : Gam) (k : Nat) (σ : Store) (i0 : Int),
  evBody Try.prog Γ drawn k Try.f84 [AV.int IntKind.u64 i0] σ =
    if decide (4294967296 ≤ i0) = true then
      if decide (65536 ≤ shrI IntKind.u64 i0 32) = true then
        if decide (256 ≤ shrI IntKind.u64 (shrI IntKind.u64 i0 32) 16) = true then
          if 0 ≤ IntKind.wrap IntKind.u8 (shrI IntKind.u64 (shrI IntKind.u64 (shrI IntKind.u64 i0 32) 16) 8) then
            Option.bind
              (strAt
                len8tab
                (Int.toNat (IntKind.wrap IntKind.u8 (shrI IntKind.u64 (shrI IntKind.u64 (shrI IntKind.u64 i0 32) 16) 8))))
              fun x1 ↦ some (AV.int IntKind.i64 (IntKind.wrap IntKind.i64 (IntKind.wrap IntKind.i64 (IntKind.wrap IntKind.i64 (32 + 16) + 8) + IntKind.wrap IntKind.i64 x1)), σ)
          else none
        else
          if 0 ≤ IntKind.wrap IntKind.u8 (shrI IntKind.u64 (shrI IntKind.u64 i0 32) 16) then
            Option.bind
              (strAt
                len8tab
                (Int.toNat (IntKind.wrap IntKind.u8 (shrI IntKind.u64 (shrI IntKind.u64 i0 32) 16))))
              fun x2 ↦ some (AV.int IntKind.i64 (IntKind.wrap IntKind.i64 (IntKind.wrap IntKind.i64 (32 + 16) + IntKind.wrap IntKind.i64 x2)), σ)
          else none
      else
        if decide (256 ≤ shrI IntKind.u64 i0 32) = true then
          if 0 ≤ IntKind.wrap IntKind.u8 (shrI IntKind.u64 (shrI IntKind.u64 i0 32) 8) then
            Option.bind
              (strAt
                len8tab
                (Int.toNat (IntKind.wrap IntKind.u8 (shrI IntKind.u64 (shrI IntKind.u64 i0 32) 8))))
              fun x3 ↦ some (AV.int IntKind.i64 (IntKind.wrap IntKind.i64 (IntKind.wrap IntKind.i64 (32 + 8) + IntKind.wrap IntKind.i64 x3)), σ)
          else none
        else
          if 0 ≤ IntKind.wrap IntKind.u8 (shrI IntKind.u64 i0 32) then
            Option.bind
              (strAt
                len8tab
                (Int.toNat (IntKind.wrap IntKind.u8 (shrI IntKind.u64 i0 32))))
              fun x4 ↦ some (AV.int IntKind.i64 (IntKind.wrap IntKind.i64 (32 + IntKind.wrap IntKind.i64 x4)), σ)
          else none
    else
      if decide (65536 ≤ i0) = true then
        if decide (256 ≤ shrI IntKind.u64 i0 16) = true then
          if 0 ≤ IntKind.wrap IntKind.u8 (shrI IntKind.u64 (shrI IntKind.u64 i0 16) 8) then
            Option.bind
              (strAt
                len8tab
                (Int.toNat (IntKind.wrap IntKind.u8 (shrI IntKind.u64 (shrI IntKind.u64 i0 16) 8))))
              fun x5 ↦ some (AV.int IntKind.i64 (IntKind.wrap IntKind.i64 (IntKind.wrap IntKind.i64 (IntKind.wrap IntKind.i64 (0 + 16) + 8) + IntKind.wrap IntKind.i64 x5)), σ)
          else none
        else
          if 0 ≤ IntKind.wrap IntKind.u8 (shrI IntKind.u64 i0 16) then
            Option.bind
              (strAt
                len8tab
                (Int.toNat (IntKind.wrap IntKind.u8 (shrI IntKind.u64 i0 16))))
              fun x6 ↦ some (AV.int IntKind.i64 (IntKind.wrap IntKind.i64 (IntKind.wrap IntKind.i64 (0 + 16) + IntKind.wrap IntKind.i64 x6)), σ)
          else none
      else
        if decide (256 ≤ i0) = true then
          if 0 ≤ IntKind.wrap IntKind.u8 (shrI IntKind.u64 i0 8) then
            Option.bind
              (strAt
                len8tab
                (Int.toNat (IntKind.wrap IntKind.u8 (shrI IntKind.u64 i0 8))))
              fun x7 ↦ some (AV.int IntKind.i64 (IntKind.wrap IntKind.i64 (IntKind.wrap IntKind.i64 (0 + 8) + IntKind.wrap IntKind.i64 x7)), σ)
          else none
        else
          if 0 ≤ IntKind.wrap IntKind.u8 i0 then
            Option.bind
              (strAt
                len8tab
                (Int.toNat (IntKind.wrap IntKind.u8 i0)))
              fun x8 ↦ some (AV.int IntKind.i64 (IntKind.wrap IntKind.i64 (0 + IntKind.wrap IntKind.i64 x8)), σ)
          else none := by intros; kernel_rfl

theorem f85_eq : ∀ (Γ : Gam) (k : Nat) (σ : Store) (i0 i1 : Int), evBody Try.prog Γ drawn k Try.f85 [AV.int IntKind.i64 i0, AV.int IntKind.i64 i1] σ = some (AV.int IntKind.i64 (IntKind.wrap IntKind.i64 (Int.tdiv (IntKind.wrap IntKind.i64 (IntKind.wrap IntKind.i64 (i0 * i1) + 63)) 64)), σ) := by intros; kernel_rfl

theorem f86_eq : ∀ (Γ : Gam) (k : Nat) (σ : Store) (i0 : Int), evBody Try.prog Γ drawn k Try.f86 [AV.int IntKind.i64 i0] σ = if 0 ≤ IntKind.wrap IntKind.i64 (64 - i0) then some (AV.int IntKind.u64 (shrI IntKind.u64 18446744073709551615 (IntKind.wrap IntKind.i64 (64 - i0))), σ) else none := by intros; kernel_rfl

theorem f87_eq : ∀ (Γ : Gam) (k : Nat) (σ : Store) (p0 : Ptr), evBody Try.prog Γ drawn k Try.f87 [AV.ptr p0] σ = if Option.isNone p0 = true then some (AV.int IntKind.i64 0, σ) else Option.bind p0 fun x1 ↦ Option.bind (Store.ldInt σ IntKind.i64 (Ptr.add (some x1) 0)) fun x2 ↦ some (AV.int IntKind.i64 x2, σ) := by intros; kernel_rfl

theorem f88_eq : ∀ (Γ : Gam) (k : Nat) (σ : Store) (p0 : Ptr), evBody Try.prog Γ drawn k Try.f88 [AV.ptr p0] σ = if Option.isNone p0 = true then some (AV.int IntKind.i64 0, σ) else Option.bind p0 fun x1 ↦ Option.bind (Store.ldInt σ IntKind.i64 (Ptr.add (some x1) 1)) fun x2 ↦ some (AV.int IntKind.i64 x2, σ) := by intros; kernel_rfl

theorem f89_eq : ∀ (Γ : Gam) (k : Nat) (σ : Store) (p0 : Ptr), evBody Try.prog Γ drawn k Try.f89 [AV.ptr p0] σ = if Option.isNone p0 = true then some (AV.slice Hdl.nil, σ) else Option.bind p0 fun x1 ↦ Option.bind (Store.ldSl σ (Ptr.add (some x1) 2)) fun x2 ↦ Option.bind (Γ (Fun.fn 96) [AV.slice x2] σ) fun x3 ↦ Option.bind (AV.asSl (Prod.fst x3)) fun x4 ↦ some (AV.slice x4, Prod.snd x3) := by intros; kernel_rfl

theorem f90_eq : ∀ (Γ : Gam) (k : Nat) (σ : Store) (i0 : Int),
  evBody Try.prog Γ drawn k Try.f90 [AV.int IntKind.u64 i0] σ =
    some
      (AV.int IntKind.i64
          (bitOp BinOp.and IntKind.i64
            (IntKind.wrap IntKind.i64
              (IntKind.wrap IntKind.u64
                (IntKind.wrap IntKind.u64
                    (IntKind.wrap IntKind.u64
                        (bitOp BinOp.and IntKind.u64
                            (IntKind.wrap IntKind.u64
                              (shrI IntKind.u64
                                  (IntKind.wrap IntKind.u64
                                    (bitOp BinOp.and IntKind.u64 (shrI IntKind.u64 (IntKind.wrap IntKind.u64 (bitOp BinOp.and IntKind.u64 (shrI IntKind.u64 i0 1) 6148914691236517205 + bitOp BinOp.and IntKind.u64 i0 6148914691236517205)) 2) 3689348814741910323 +
                                      bitOp BinOp.and IntKind.u64 (IntKind.wrap IntKind.u64 (bitOp BinOp.and IntKind.u64 (shrI IntKind.u64 i0 1) 6148914691236517205 + bitOp BinOp.and IntKind.u64 i0 6148914691236517205)) 3689348814741910323))
                                  4 +
                                IntKind.wrap IntKind.u64
                                  (bitOp BinOp.and IntKind.u64 (shrI IntKind.u64 (IntKind.wrap IntKind.u64 (bitOp BinOp.and IntKind.u64 (shrI IntKind.u64 i0 1) 6148914691236517205 + bitOp BinOp.and IntKind.u64 i0 6148914691236517205)) 2) 3689348814741910323 +
                                    bitOp BinOp.and IntKind.u64 (IntKind.wrap IntKind.u64 (bitOp BinOp.and IntKind.u64 (shrI IntKind.u64 i0 1) 6148914691236517205 + bitOp BinOp.and IntKind.u64 i0 6148914691236517205)) 3689348814741910323)))
                            1085102592571150095 +
                          shrI IntKind.u64
                            (bitOp BinOp.and IntKind.u64
                              (IntKind.wrap IntKind.u64
                                (shrI IntKind.u64
                                    (IntKind.wrap IntKind.u64
                                      (bitOp BinOp.and IntKind.u64 (shrI IntKind.u64 (IntKind.wrap IntKind.u64 (bitOp BinOp.and IntKind.u64 (shrI IntKind.u64 i0 1) 6148914691236517205 + bitOp BinOp.and IntKind.u64 i0 6148914691236517205)) 2) 3689348814741910323 +
                                        bitOp BinOp.and IntKind.u64 (IntKind.wrap IntKind.u64 (bitOp BinOp.and IntKind.u64 (shrI IntKind.u64 i0 1) 6148914691236517205 + bitOp BinOp.and IntKind.u64 i0 6148914691236517205)) 3689348814741910323))
                                    4 +
                                  IntKind.wrap IntKind.u64
                                    (bitOp BinOp.and IntKind.u64 (shrI IntKind.u64 (IntKind.wrap IntKind.u64 (bitOp BinOp.and IntKind.u64 (shrI IntKind.u64 i0 1) 6148914691236517205 + bitOp BinOp.and IntKind.u64 i0 6148914691236517205)) 2) 3689348814741910323 +
                                      bitOp BinOp.and IntKind.u64 (IntKind.wrap IntKind.u64 (bitOp BinOp.and IntKind.u64 (shrI IntKind.u64 i0 1) 6148914691236517205 + bitOp BinOp.and IntKind.u64 i0 6148914691236517205)) 3689348814741910323)))
                              1085102592571150095)
                            8) +
                      shrI IntKind.u64
                        (IntKind.wrap IntKind.u64
                          (bitOp BinOp.and IntKind.u64
                              (IntKind.wrap IntKind.u64
                                (shrI IntKind.u64
                                    (IntKind.wrap IntKind.u64
                                      (bitOp BinOp.and IntKind.u64 (shrI IntKind.u64 (IntKind.wrap IntKind.u64 (bitOp BinOp.and IntKind.u64 (shrI IntKind.u64 i0 1) 6148914691236517205 + bitOp BinOp.and IntKind.u64 i0 6148914691236517205)) 2) 3689348814741910323 +
                                        bitOp BinOp.and IntKind.u64 (IntKind.wrap IntKind.u64 (bitOp BinOp.and IntKind.u64 (shrI IntKind.u64 i0 1) 6148914691236517205 + bitOp BinOp.and IntKind.u64 i0 6148914691236517205)) 3689348814741910323))
                                    4 +
                                  IntKind.wrap IntKind.u64
                                    (bitOp BinOp.and IntKind.u64 (shrI IntKind.u64 (IntKind.wrap IntKind.u64 (bitOp BinOp.and IntKind.u64 (shrI IntKind.u64 i0 1) 6148914691236517205 + bitOp BinOp.and IntKind.u64 i0 6148914691236517205)) 2) 3689348814741910323 +
                                      bitOp BinOp.and IntKind.u64 (IntKind.wrap IntKind.u64 (bitOp BinOp.and IntKind.u64 (shrI IntKind.u64 i0 1) 6148914691236517205 + bitOp BinOp.and IntKind.u64 i0 6148914691236517205)) 3689348814741910323)))
                              1085102592571150095 +
                            shrI IntKind.u64
                              (bitOp BinOp.and IntKind.u64
                                (IntKind.wrap IntKind.u64
                                  (shrI IntKind.u64
                                      (IntKind.wrap IntKind.u64
                                        (bitOp BinOp.and IntKind.u64 (shrI IntKind.u64 (IntKind.wrap IntKind.u64 (bitOp BinOp.and IntKind.u64 (shrI IntKind.u64 i0 1) 6148914691236517205 + bitOp BinOp.and IntKind.u64 i0 6148914691236517205)) 2) 3689348814741910323 +
                                          bitOp BinOp.and IntKind.u64 (IntKind.wrap IntKind.u64 (bitOp BinOp.and IntKind.u64 (shrI IntKind.u64 i0 1) 6148914691236517205 + bitOp BinOp.and IntKind.u64 i0 6148914691236517205)) 3689348814741910323))
                                      4 +
                                    IntKind.wrap IntKind.u64
                                      (bitOp BinOp.and IntKind.u64 (shrI IntKind.u64 (IntKind.wrap IntKind.u64 (bitOp BinOp.and IntKind.u64 (shrI IntKind.u64 i0 1) 6148914691236517205 + bitOp BinOp.and IntKind.u64 i0 6148914691236517205)) 2) 3689348814741910323 +
                                        bitOp BinOp.and IntKind.u64 (IntKind.wrap IntKind.u64 (bitOp BinOp.and IntKind.u64 (shrI IntKind.u64 i0 1) 6148914691236517205 + bitOp BinOp.and IntKind.u64 i0 6148914691236517205)) 3689348814741910323)))
                                1085102592571150095)
                              8))
                        16) +
                  shrI IntKind.u64
                    (IntKind.wrap IntKind.u64
                      (IntKind.wrap IntKind.u64
                          (bitOp BinOp.and IntKind.u64
                              (IntKind.wrap IntKind.u64
                                (shrI IntKind.u64
                                    (IntKind.wrap IntKind.u64
                                      (bitOp BinOp.and IntKind.u64 (shrI IntKind.u64 (IntKind.wrap IntKind.u64 (bitOp BinOp.and IntKind.u64 (shrI IntKind.u64 i0 1) 6148914691236517205 + bitOp BinOp.and IntKind.u64 i0 6148914691236517205)) 2) 3689348814741910323 +
                                        bitOp BinOp.and IntKind.u64 (IntKind.wrap IntKind.u64 (bitOp BinOp.and IntKind.u64 (shrI IntKind.u64 i0 1) 6148914691236517205 + bitOp BinOp.and IntKind.u64 i0 6148914691236517205)) 3689348814741910323))
                                    4 +
                                  IntKind.wrap IntKind.u64
                                    (bitOp BinOp.and IntKind.u64 (shrI IntKind.u64 (IntKind.wrap IntKind.u64 (bitOp BinOp.and IntKind.u64 (shrI IntKind.u64 i0 1) 6148914691236517205 + bitOp BinOp.and IntKind.u64 i0 6148914691236517205)) 2) 3689348814741910323 +
                                      bitOp BinOp.and IntKind.u64 (IntKind.wrap IntKind.u64 (bitOp BinOp.and IntKind.u64 (shrI IntKind.u64 i0 1) 6148914691236517205 + bitOp BinOp.and IntKind.u64 i0 6148914691236517205)) 3689348814741910323)))
                              1085102592571150095 +
                            shrI IntKind.u64
                              (bitOp BinOp.and IntKind.u64
                                (IntKind.wrap IntKind.u64
                                  (shrI IntKind.u64
                                      (IntKind.wrap IntKind.u64
                                        (bitOp BinOp.and IntKind.u64 (shrI IntKind.u64 (IntKind.wrap IntKind.u64 (bitOp BinOp.and IntKind.u64 (shrI IntKind.u64 i0 1) 6148914691236517205 + bitOp BinOp.and IntKind.u64 i0 6148914691236517205)) 2) 3689348814741910323 +
                                          bitOp BinOp.and IntKind.u64 (IntKind.wrap IntKind.u64 (bitOp BinOp.and IntKind.u64 (shrI IntKind.u64 i0 1) 6148914691236517205 + bitOp BinOp.and IntKind.u64 i0 6148914691236517205)) 3689348814741910323))
                                      4 +
                                    IntKind.wrap IntKind.u64
                                      (bitOp BinOp.and IntKind.u64 (shrI IntKind.u64 (IntKind.wrap IntKind.u64 (bitOp BinOp.and IntKind.u64 (shrI IntKind.u64 i0 1) 6148914691236517205 + bitOp BinOp.and IntKind.u64 i0 6148914691236517205)) 2) 3689348814741910323 +
                                        bitOp BinOp.and IntKind.u64 (IntKind.wrap IntKind.u64 (bitOp BinOp.and IntKind.u64 (shrI IntKind.u64 i0 1) 6148914691236517205 + bitOp BinOp.and IntKind.u64 i0 6148914691236517205)) 3689348814741910323)))
                                1085102592571150095)
                              8) +
                        shrI IntKind.u64
                          (IntKind.wrap IntKind.u64
                            (bitOp BinOp.and IntKind.u64
                                (IntKind.wrap IntKind.u64
                                  (shrI IntKind.u64
                                      (IntKind.wrap IntKind.u64
                                        (bitOp BinOp.and IntKind.u64 (shrI IntKind.u64 (IntKind.wrap IntKind.u64 (bitOp BinOp.and IntKind.u64 (shrI IntKind.u64 i0 1) 6148914691236517205 + bitOp BinOp.and IntKind.u64 i0 6148914691236517205)) 2) 3689348814741910323 +
                                          bitOp BinOp.and IntKind.u64 (IntKind.wrap IntKind.u64 (bitOp BinOp.and IntKind.u64 (shrI IntKind.u64 i0 1) 6148914691236517205 + bitOp BinOp.and IntKind.u64 i0 6148914691236517205)) 3689348814741910323))
                                      4 +
                                    IntKind.wrap IntKind.u64
                                      (bitOp BinOp.and IntKind.u64 (shrI IntKind.u64 (IntKind.wrap IntKind.u64 (bitOp BinOp.and IntKind.u64 (shrI IntKind.u64 i0 1) 6148914691236517205 + bitOp BinOp.and IntKind.u64 i0 6148914691236517205)) 2) 3689348814741910323 +
                                        bitOp BinOp.and IntKind.u64 (IntKind.wrap IntKind.u64 (bitOp BinOp.and IntKind.u64 (shrI IntKind.u64 i0 1) 6148914691236517205 + bitOp BinOp.and IntKind.u64 i0 6148914691236517205)) 3689348814741910323)))
                                1085102592571150095 +
                              shrI IntKind.u64
                                (bitOp BinOp.and IntKind.u64
                                  (IntKind.wrap IntKind.u64
                                    (shrI IntKind.u64
                                        (IntKind.wrap IntKind.u64
                                          (bitOp BinOp.and IntKind.u64 (shrI IntKind.u64 (IntKind.wrap IntKind.u64 (bitOp BinOp.and IntKind.u64 (shrI IntKind.u64 i0 1) 6148914691236517205 + bitOp BinOp.and IntKind.u64 i0 6148914691236517205)) 2) 3689348814741910323 +
                                            bitOp BinOp.and IntKind.u64 (IntKind.wrap IntKind.u64 (bitOp BinOp.and IntKind.u64 (shrI IntKind.u64 i0 1) 6148914691236517205 + bitOp BinOp.and IntKind.u64 i0 6148914691236517205)) 3689348814741910323))
                                        4 +
                                      IntKind.wrap IntKind.u64
                                        (bitOp BinOp.and IntKind.u64 (shrI IntKind.u64 (IntKind.wrap IntKind.u64 (bitOp BinOp.and IntKind.u64 (shrI IntKind.u64 i0 1) 6148914691236517205 + bitOp BinOp.and IntKind.u64 i0 6148914691236517205)) 2) 3689348814741910323 +
                                          bitOp BinOp.and IntKind.u64 (IntKind.wrap IntKind.u64 (bitOp BinOp.and IntKind.u64 (shrI IntKind.u64 i0 1) 6148914691236517205 + bitOp BinOp.and IntKind.u64 i0 6148914691236517205)) 3689348814741910323)))
                                  1085102592571150095)
                                8))
                          16))
                    32)))
            127),
        σ) := by intros; kernel_rfl

theorem f91_eq : ∀ (Γ : Gam) (k : Nat) (σ : Store) (i0 : Int) (g1 : FuncId) (a2 c3 : List AV), evBody Try.prog Γ drawn k Try.f91 [AV.int IntKind.i64 i0, AV.func g1 a2 c3] σ = Option.bind (loopF Try.prog Γ drawn k Try.f91 [1, 1, 0, 0] [6, 5, 1] ([AV.int IntKind.i64 i0, AV.int IntKind.i64 0, AV.func g1 a2 c3], σ)) (contF Try.prog Γ drawn k Try.f91 [1, 1, 0, 0]) := by intros; kernel_rfl

theorem f91_L1100 : ∀ (Γ : Gam) (k : Nat) (σ : Store) (i4 i5 : Int) (g6 : FuncId) (a7 c8 : List AV),
  stepF Try.prog Γ drawn k Try.f91 [1, 1, 0, 0] [6, 5, 1] ([AV.int IntKind.i64 i4, AV.int IntKind.i64 i5, AV.func g6 a7 c8], σ) =
    if decide (i5 < i4) = true then
      Option.bind (Γ (Fun.fn g6) (a7 ++ [AV.int IntKind.i64 (IntKind.wrap IntKind.i64 (shrI IntKind.u64 (IntKind.wrap IntKind.u64 (IntKind.wrap IntKind.i64 (i5 + i4))) 1))] ++ c8) σ) fun x9 ↦
        Option.bind (AV.asBool (Prod.fst x9)) fun x10 ↦
          if (!x10) = true then some (Sum.inl ([AV.int IntKind.i64 i4, AV.int IntKind.i64 (IntKind.wrap IntKind.i64 (IntKind.wrap IntKind.i64 (shrI IntKind.u64 (IntKind.wrap IntKind.u64 (IntKind.wrap IntKind.i64 (i5 + i4))) 1) + 1)), AV.func g6 a7 c8], Prod.snd x9))
          else some (Sum.inl ([AV.int IntKind.i64 (IntKind.wrap IntKind.i64 (shrI IntKind.u64 (IntKind.wrap IntKind.u64 (IntKind.wrap IntKind.i64 (i5 + i4))) 1)), AV.int IntKind.i64 i5, AV.func g6 a7 c8], Prod.snd x9))
    else some (Sum.inr (AX.exit 0, [(5, AV.int IntKind.i64 i5)], σ)) := by intros; kernel_rfl

theorem f91_X1100_1 : ∀ (Γ : Gam) (k : Nat) (σ : Store) (i11 : Int), contF Try.prog Γ drawn k Try.f91 [1, 1, 0, 0] (AX.exit 0, [(5, AV.int IntKind.i64 i11)], σ) = some (AV.int IntKind.i64 i11, σ) := by intros; kernel_rfl

theorem f92_eq : ∀ (Γ : Gam) (k : Nat) (σ : Store) (i0 : Int) (p1 p2 : Ptr),
  evBody Try.prog Γ drawn k Try.f92 [AV.int IntKind.i64 i0, AV.ptr p1, AV.ptr p2] σ =
    Option.bind (Store.ldFn σ p1) fun x3 ↦ Option.bind (callG Γ true (Fun.fn (Prod.fst x3)) (Prod.fst (Prod.snd x3) ++ [AV.int IntKind.i64 (IntKind.wrap IntKind.i64 (i0 + 1))] ++ Prod.snd (Prod.snd x3)) σ) fun x4 ↦ Option.bind (AV.asInt IntKind.i64 (Prod.fst x4)) fun x5 ↦ Option.bind (Store.ldInt (Prod.snd x4) IntKind.i64 p2) fun x6 ↦ some (AV.bool (decide (x6 < x5)), Prod.snd x4) := by intros; kernel_rfl

theorem f93_eq : ∀ (Γ : Gam) (k : Nat) (σ : Store) (p0 : Ptr) (b1 : Bool),
  evBody Try.prog Γ drawn k Try.f93 [AV.ptr p0, AV.bool b1] σ =
    Option.bind p0 fun x2 ↦
      Option.bind (Store.ldInt σ IntKind.i64 (Ptr.add (some x2) (1 : Nat))) fun x3 ↦
        if ((0 : Int) ≤ x3 ∧ x3 ≤ x3) ∧ x3 * (↑(8 : Nat) : Int) ≤ (281474976710656 : Int) then
          Option.bind p0 fun x4 ↦
            Option.bind (Store.ldSl (Store.push σ (mkCells [AV.int IntKind.i64 (0 : Int)] (Int.toNat x3)) (1 : Nat)) (Ptr.add (some x4) (0 : Nat))) fun x5 ↦
              Option.bind
                (loopF Try.prog Γ drawn k Try.f93 [(1 : Nat), (1 : Nat), (0 : Nat), (1 : Nat), (0 : Nat)] [(21 : Nat), (20 : Nat), (19 : Nat), (5 : Nat), (1 : Nat)]
                  ([AV.int IntKind.i64 (0 : Int), AV.int IntKind.i64 (↑(Hdl.len x5) : Int), AV.slice x5, AV.slice { a := some (List.length (Store.objs σ), (0 : Nat)), len := Int.toNat x3, cap := some (Int.toNat x3) }, AV.bool b1], Store.push σ (mkCells [AV.int IntKind.i64 (0 : Int)] (Int.toNat x3)) (1 : Nat)))
                (contF Try.prog Γ drawn k Try.f93 [(1 : Nat), (1 : Nat), (0 : Nat), (1 : Nat), (0 : Nat)])
        else none := by intros; kernel_rfl

theorem f93_L11010 : ∀ (Γ : Gam) (k : Nat) (σ : Store) (i6 i7 : Int) (h8 h9 : Hdl) (b10 : Bool),
  stepF Try.prog Γ drawn k Try.f93 [1, 1, 0, 1, 0] [21, 20, 19, 5, 1] ([AV.int IntKind.i64 i6, AV.int IntKind.i64 i7, AV.slice h8, AV.slice h9, AV.bool b10], σ) =
    if decide (i6 < i7) = true then
      if 0 ≤ i6 ∧ i6 < (↑(Hdl.len h8) : Int) then
        Option.bind (Store.ldInt σ IntKind.i64 (Hdl.idx h8 i6 1)) fun x11 ↦
          if 0 ≤ x11 ∧ x11 < (↑(Hdl.len h9) : Int) then
            Option.bind (Store.ldInt σ IntKind.i64 (Hdl.idx h9 x11 1)) fun x12 ↦ if 0 ≤ x11 ∧ x11 < (↑(Hdl.len h9) : Int) then Option.bind (Store.stL σ (Hdl.idx h9 x11 1) [AV.int IntKind.i64 (IntKind.wrap IntKind.i64 (x12 + 1))] 0) fun x13 ↦ some (Sum.inl ([AV.int IntKind.i64 (IntKind.wrap IntKind.i64 (i6 + 1)), AV.int IntKind.i64 i7, AV.slice h8, AV.slice h9, AV.bool b10], x13)) else none
          else none
      else none
    else some (Sum.inr (AX.exit 0, [(5, AV.slice h9), (1, AV.bool b10)], σ)) := by intros; kernel_rfl

theorem f93_X11010_1 : ∀ (Γ : Gam) (k : Nat) (σ : Store) (h14 : Hdl) (b15 : Bool),
  contF Try.prog Γ drawn k Try.f93 [1, 1, 0, 1, 0] (AX.exit 0, [(5, AV.slice h14), (1, AV.bool b15)], σ) = Option.bind (loopF Try.prog Γ drawn k Try.f93 [1, 1, 1, 1, 0, 1, 0] [34, 33, 32, 8, 5, 1] ([AV.int IntKind.i64 0, AV.int IntKind.i64 (↑(Hdl.len h14) : Int), AV.slice h14, AV.int IntKind.i64 0, AV.slice h14, AV.bool b15], σ)) (contF Try.prog Γ drawn k Try.f93 [1, 1, 1, 1, 0, 1, 0]) := by intros; kernel_rfl

theorem f93_L1111010 : ∀ (Γ : Gam) (k : Nat) (σ : Store) (i16 i17 : Int) (h18 : Hdl) (i19 : Int) (h20 : Hdl) (b21 : Bool),
  stepF Try.prog Γ drawn k Try.f93 [1, 1, 1, 1, 0, 1, 0] [34, 33, 32, 8, 5, 1] ([AV.int IntKind.i64 i16, AV.int IntKind.i64 i17, AV.slice h18, AV.int IntKind.i64 i19, AV.slice h20, AV.bool b21], σ) =
    if decide (i16 < i17) = true then
      if 0 ≤ i16 ∧ i16 < (↑(Hdl.len h18) : Int) then
        Option.bind (Store.ldInt σ IntKind.i64 (Hdl.idx h18 i16 1)) fun x22 ↦
          if b21 = true then
            if 0 ≤ i16 ∧ i16 < (↑(Hdl.len h20) : Int) then Option.bind (Store.stL σ (Hdl.idx h20 i16 1) [AV.int IntKind.i64 (IntKind.wrap IntKind.i64 (i19 + x22))] 0) fun x23 ↦ some (Sum.inl ([AV.int IntKind.i64 (IntKind.wrap IntKind.i64 (i16 + 1)), AV.int IntKind.i64 i17, AV.slice h18, AV.int IntKind.i64 (IntKind.wrap IntKind.i64 (i19 + x22)), AV.slice h20, AV.bool b21], x23)) else none
          else if 0 ≤ i16 ∧ i16 < (↑(Hdl.len h20) : Int) then Option.bind (Store.stL σ (Hdl.idx h20 i16 1) [AV.int IntKind.i64 i19] 0) fun x24 ↦ some (Sum.inl ([AV.int IntKind.i64 (IntKind.wrap IntKind.i64 (i16 + 1)), AV.int IntKind.i64 i17, AV.slice h18, AV.int IntKind.i64 (IntKind.wrap IntKind.i64 (i19 + x22)), AV.slice h20, AV.bool b21], x24)) else none
      else none
    else some (Sum.inr (AX.exit 2, [(5, AV.slice h20)], σ)) := by intros; kernel_rfl

theorem f93_X1111010_1 : ∀ (Γ : Gam) (k : Nat) (σ : Store) (h25 : Hdl), contF Try.prog Γ drawn k Try.f93 [1, 1, 1, 1, 0, 1, 0] (AX.exit 2, [(5, AV.slice h25)], σ) = some (AV.slice h25, σ) := by intros; kernel_rfl

theorem f94_eq : ∀ (Γ : Gam) (k : Nat) (σ : Store) (h0 : Hdl), evBody Try.prog Γ drawn k Try.f94 [AV.slice h0] σ = some (AV.func 97 [] [AV.ptr (some (List.length (Store.objs σ), 0))], Store.push σ [AV.slice h0] 1) := by intros; kernel_rfl

theorem f95_eq : ∀ (Γ : Gam) (k : Nat) (σ : Store) (i0 : Int) (p1 p2 : Ptr),
  evBody Try.prog Γ drawn k Try.f95 [AV.int IntKind.i64 i0, AV.ptr p1, AV.ptr p2] σ =
    if decide (0 ≤ i0) = true then
      Option.bind (Store.ldPtr σ p1) fun x3 ↦
        Option.bind x3 fun x4 ↦
          Option.bind (Store.ldSl σ (Ptr.add (some x4) 2)) fun x5 ↦
            if 0 ≤ i0 ∧ i0 < (↑(Hdl.len x5) : Int) then
              Option.bind (Store.ldBool σ (Hdl.idx x5 i0 1)) fun x6 ↦
                if (!x6) = true then
                  Option.bind (Store.ldPtr σ p1) fun x7 ↦
                    Option.bind x7 fun x8 ↦
                      Option.bind (Store.ldSl σ (Ptr.add (some x8) 3)) fun x9 ↦
                        Option.bind (Store.ldSl σ p2) fun x10 ↦
                          Option.bind (Store.ldPtr σ p1) fun x11 ↦
                            Option.bind x11 fun x12 ↦
                              Option.bind (Store.ldSl σ (Ptr.add (some x12) 0)) fun x13 ↦
                                if 0 ≤ i0 ∧ i0 < (↑(Hdl.len x13) : Int) then
                                  Option.bind (Store.ldInt σ IntKind.i64 (Hdl.idx x13 i0 1)) fun x14 ↦
                                    if 0 ≤ x14 ∧ x14 < (↑(Hdl.len x10) : Int) then
                                      Option.bind (Store.ldInt σ IntKind.i64 (Hdl.idx x10 x14 1)) fun x15 ↦
                                        if 0 ≤ x15 ∧ x15 < (↑(Hdl.len x9) : Int) then
                                          Option.bind (Store.stL σ (Hdl.idx x9 x15 1) [AV.int IntKind.i64 i0] 0) fun x16 ↦
                                            Option.bind (Store.ldSl x16 p2) fun x17 ↦
                                              Option.bind (Store.ldPtr x16 p1) fun x18 ↦
                                                Option.bind x18 fun x19 ↦
                                                  Option.bind (Store.ldSl x16 (Ptr.add (some x19) 0)) fun x20 ↦
                                                    if 0 ≤ i0 ∧ i0 < (↑(Hdl.len x20) : Int) then
                                                      Option.bind (Store.ldInt x16 IntKind.i64 (Hdl.idx x20 i0 1)) fun x21 ↦
                                                        if 0 ≤ x21 ∧ x21 < (↑(Hdl.len x17) : Int) then Option.bind (Store.ldInt x16 IntKind.i64 (Hdl.idx x17 x21 1)) fun x22 ↦ if 0 ≤ x21 ∧ x21 < (↑(Hdl.len x17) : Int) then Option.bind (Store.stL x16 (Hdl.idx x17 x21 1) [AV.int IntKind.i64 (IntKind.wrap IntKind.i64 (x22 + 1))] 0) fun x23 ↦ some (AV.tuple [], x23) else none else none
                                                    else none
                                        else none
                                    else none
                                else none
                else some (AV.tuple [], σ)
            else none
    else some (AV.tuple [], σ) := by intros; kernel_rfl

theorem f96_eq : ∀ (Γ : Gam) (k : Nat) (σ : Store) (h0 : Hdl),
  evBody Try.prog Γ drawn k Try.f96 [AV.slice h0] σ = if Option.isNone (Hdl.a h0) = true then some (AV.slice Hdl.nil, σ) else Option.bind (Store.readSl (Store.push σ [] 1) h0 1) fun x1 ↦ Option.bind (Store.app (Store.push σ [] 1) { a := some (List.length (Store.objs σ), 0), len := 0, cap := some 0 } 1 8 x1 (Hdl.len h0)) fun x2 ↦ some (AV.slice (Prod.fst x2), Prod.snd x2) := by intros; kernel_rfl

theorem f97_eq : ∀ (Γ : Gam) (k : Nat) (σ : Store) (y0 : Nat) (p1 : Ptr), evBody Try.prog Γ drawn k Try.f97 [AV.yld y0, AV.ptr p1] σ = Option.bind (Store.ldSl σ p1) fun x2 ↦ Option.bind (loopF Try.prog Γ drawn k Try.f97 [1, 0] [3, 1, 0] ([AV.int IntKind.i64 (IntKind.wrap IntKind.i64 ((↑(Hdl.len x2) : Int) - 1)), AV.ptr p1, AV.yld y0], σ)) (contF Try.prog Γ drawn k Try.f97 [1, 0]) := by intros; kernel_rfl

theorem f97_L10 : ∀ (Γ : Gam) (k : Nat) (σ : Store) (i3 : Int) (p4 : Ptr) (y5 : Nat),
  stepF Try.prog Γ drawn k Try.f97 [1, 0] [3, 1, 0] ([AV.int IntKind.i64 i3, AV.ptr p4, AV.yld y5], σ) =
    if decide (0 ≤ i3) = true then
      Option.bind (Store.ldSl σ p4) fun x6 ↦
        if 0 ≤ i3 ∧ i3 < (↑(Hdl.len x6) : Int) then
          Option.bind (Store.ldInt σ IntKind.i64 (Hdl.idx x6 i3 1)) fun x7 ↦ Option.bind (Γ (Fun.yl y5) [AV.int IntKind.i64 i3, AV.int IntKind.i64 x7] σ) fun x8 ↦ Option.bind (AV.asBool (Prod.fst x8)) fun x9 ↦ if (!x9) = true then some (Sum.inr (AX.ret, [], Prod.snd x8)) else some (Sum.inl ([AV.int IntKind.i64 (IntKind.wrap IntKind.i64 (i3 - 1)), AV.ptr p4, AV.yld y5], Prod.snd x8))
        else none
    else some (Sum.inr (AX.exit 0, [], σ)) := by intros; kernel_rfl

theorem f97_X10_2 : ∀ (Γ : Gam) (k : Nat) (σ : Store), contF Try.prog Γ drawn k Try.f97 [1, 0] (AX.exit 0, [], σ) = some (AV.tuple [], σ) := by intros; kernel_rfl

end Go.Ab

/- Induced sorting: from the order of the left places that of all. Plain Lean, no program. -/
namespace Go.Ab.Sai
open Go.Ab.Wd Go.Ab.Bs
set_option linter.unusedVariables false
set_option linter.unusedSimpArgs false

/-! ### buckets -/
/-- How many numbers are below c. -/
def hd (t : List Int) (c : Int) : Int := ((t.filter fun x => decide (x < c)).length : Int)
theorem hd_nonneg (t : List Int) (c : Int) : 0 ≤ hd t c := by unfold hd; omega
theorem hd_le (t : List Int) (c : Int) : hd t c ≤ t.length := by
  unfold hd
  have := List.length_filter_le (fun x => decide (x < c)) t
  omega
theorem hd_mono (t : List Int) {c d : Int} (h : c ≤ d) : hd t c ≤ hd t d := by
  induction t with
  | nil => simp [hd]
  | cons x t ih =>
    unfold hd at ih ⊢
    by_cases h1 : x < c
    · rw [List.filter_cons_of_pos (by simpa using h1), List.filter_cons_of_pos (by simp; omega)]
      simp only [List.length_cons]; omega
    · rw [List.filter_cons_of_neg (by simpa using h1)]
      by_cases h2 : x < d
      · rw [List.filter_cons_of_pos (by simpa using h2)]; simp only [List.length_cons]; omega
      · rw [List.filter_cons_of_neg (by simpa using h2)]; exact ih
theorem hd_zero {t : List Int} (h : ∀ x ∈ t, 0 ≤ x) : hd t 0 = 0 := by
  unfold hd
  rw [List.filter_eq_nil_iff.2 fun x hx => by have := h x hx; simp; omega]
  rfl
theorem hd_all {t : List Int} {k : Int} (h : ∀ x ∈ t, x < k) : hd t k = t.length := by
  unfold hd
  rw [List.filter_eq_self.2 fun x hx => by have := h x hx; simpa using this]
/-- The places of a number. -/
def of (t : List Int) (c : Int) : List Int := (places t.length).filter fun p => decide (rd t p = c)
theorem mem_of {t : List Int} {c p : Int} : p ∈ of t c ↔ (0 ≤ p ∧ p < t.length) ∧ rd t p = c := by
  unfold of
  rw [List.mem_filter, mem_places, decide_eq_true_iff]
theorem of_length (t : List Int) (c : Int) : ((of t c).length : Int) = hd t (c + 1) - hd t c := by
  have h1 : (of t c).length = (t.filter fun x => decide (x = c)).length := by
    have e : t = (places t.length).map (rd t) := by
      refine List.ext_getElem (by simp [places]) fun i h1 h2 => ?_
      simp only [places, List.getElem_map, List.getElem_range]
      exact (rd_getElem h1).symm
    unfold of
    conv => rhs; rw [e]
    rw [List.filter_map, List.length_map]
    rfl
  rw [h1]
  unfold hd
  induction t with
  | nil => simp
  | cons x t ih =>
    have ih' := ih (by
      have e : t = (places t.length).map (rd t) := by
        refine List.ext_getElem (by simp [places]) fun i h1 h2 => ?_
        simp only [places, List.getElem_map, List.getElem_range]
        exact (rd_getElem h1).symm
      unfold of
      conv => rhs; rw [e]
      rw [List.filter_map, List.length_map]
      rfl)
    rcases Int.lt_trichotomy x c with h | h | h
    · rw [List.filter_cons_of_neg (by simp; omega), List.filter_cons_of_pos (p := fun x => decide (x < c + 1)) (by simp; omega), List.filter_cons_of_pos (p := fun x => decide (x < c)) (by simpa using h)]
      simp only [List.length_cons]; omega
    · rw [List.filter_cons_of_pos (by simpa using h), List.filter_cons_of_pos (p := fun x => decide (x < c + 1)) (by simp; omega), List.filter_cons_of_neg (p := fun x => decide (x < c)) (by simp; omega)]
      simp only [List.length_cons]; omega
    · rw [List.filter_cons_of_neg (by simp; omega), List.filter_cons_of_neg (p := fun x => decide (x < c + 1)) (by simp; omega), List.filter_cons_of_neg (p := fun x => decide (x < c)) (by simp; omega)]
      exact ih'
theorem count_le {t l : List Int} {c : Int} (hn : l.Nodup) (h : ∀ p ∈ l, (0 ≤ p ∧ p < t.length) ∧ rd t p = c) : (l.length : Int) ≤ hd t (c + 1) - hd t c := by
  rw [← of_length]
  have := nodup_sub_len hn (m := of t c) fun p hp => mem_of.2 (h p hp)
  omega
theorem count_ge {t l : List Int} {c : Int} (h : ∀ p : Int, 0 ≤ p → p < t.length → rd t p = c → p ∈ l) : hd t (c + 1) - hd t c ≤ l.length := by
  rw [← of_length]
  have := nodup_sub_len (l := of t c) ((nodup_places _).filter _) (m := l) fun p hp => by
    have := mem_of.1 hp
    exact h p this.1.1 this.1.2 this.2
  omega
theorem bucket_of (t : List Int) {j : Int} (j0 : 0 ≤ j) (h0 : ∀ x ∈ t, 0 ≤ x) (k : Nat) (h1 : j < hd t k) : ∃ c : Int, 0 ≤ c ∧ c < k ∧ hd t c ≤ j ∧ j < hd t (c + 1) := by
  induction k with
  | zero => have := hd_zero h0; rw [show ((0 : Nat) : Int) = 0 from rfl] at h1; omega
  | succ k ih =>
    by_cases h : j < hd t k
    · obtain ⟨c, c0, c1, c2, c3⟩ := ih h
      exact ⟨c, c0, by omega, c2, c3⟩
    · exact ⟨k, by omega, by omega, by omega, h1⟩
/-- What stands from a on, ahead of b. -/
def seg (l : List Int) (a b : Int) : List Int := (List.range (b - a).toNat).map fun i : Nat => rd l (a + i)
theorem seg_length (l : List Int) (a b : Int) : (seg l a b).length = (b - a).toNat := by simp [seg]
theorem mem_seg {l : List Int} {a b x : Int} : x ∈ seg l a b ↔ ∃ j : Int, a ≤ j ∧ j < b ∧ rd l j = x := by
  simp only [seg, List.mem_map, List.mem_range]
  constructor
  · rintro ⟨i, hi, rfl⟩; exact ⟨a + i, by omega, by omega, rfl⟩
  · rintro ⟨j, h0, h1, rfl⟩; exact ⟨(j - a).toNat, by omega, by rw [show a + ((j - a).toNat : Int) = j by omega]⟩
theorem seg_nodup {l : List Int} {a b : Int} (h : ∀ i j : Int, a ≤ i → i < j → j < b → rd l i ≠ rd l j) : (seg l a b).Nodup := by
  unfold seg List.Nodup
  rw [List.pairwise_map]
  have : (List.range (b - a).toNat).Pairwise (· < ·) := List.pairwise_lt_range
  refine this.imp_of_mem ?_
  intro i j hi hj hij
  rw [List.mem_range] at hi hj
  exact h _ _ (by omega) (by omega) (by omega)

/-! ### short places -/
/-- Is the place's suffix less than the next one's? -/
def S (short : List Bool) (p : Int) : Bool := rdOf false short p
structure Short (t : List Int) (short : List Bool) : Prop where
  len : short.length = t.length
  last : S short (t.length - 1) = false
  step : ∀ p : Int, 0 ≤ p → p + 1 < t.length → S short p = (decide (rd t p < rd t (p + 1)) || (decide (rd t p = rd t (p + 1)) && S short (p + 1)))
theorem Short.yes {t : List Int} {short : List Bool} (h : Short t short) {p : Int} (p0 : 0 ≤ p) (p1 : p < t.length) (hs : S short p = true) : p + 1 < t.length ∧ (rd t p < rd t (p + 1) ∨ (rd t p = rd t (p + 1) ∧ S short (p + 1) = true)) := by
  have hlt : p + 1 < t.length := by
    apply Classical.byContradiction
    intro hn
    have e : p = t.length - 1 := by omega
    rw [e, h.last] at hs
    simp at hs
  have := h.step p p0 hlt
  rw [hs] at this
  refine ⟨hlt, ?_⟩
  by_cases c : rd t p < rd t (p + 1)
  · exact .inl c
  · simp [c] at this
    exact .inr this
theorem Short.no {t : List Int} {short : List Bool} (h : Short t short) {p : Int} (p0 : 0 ≤ p) (p1 : p + 1 < t.length) (hs : S short p = false) : rd t (p + 1) < rd t p ∨ (rd t p = rd t (p + 1) ∧ S short (p + 1) = false) := by
  have := h.step p p0 p1
  rw [hs] at this
  simp at this
  by_cases c : rd t p = rd t (p + 1)
  · exact .inr ⟨c, this.2 c⟩
  · exact .inl (by omega)
/-- The first of its row of short ones. -/
def Lf (short : List Bool) (p : Int) : Prop := 0 < p ∧ S short p = true ∧ S short (p - 1) = false
def code (t : List Int) (short : List Bool) (p : Int) : Int := 2 * rd t p + if S short p = true then 1 else 0
theorem code_no {t : List Int} {short : List Bool} {p : Int} (h : S short p = false) : code t short p = 2 * rd t p := by unfold code; rw [h]; simp
theorem code_yes {t : List Int} {short : List Bool} {p : Int} (h : S short p = true) : code t short p = 2 * rd t p + 1 := by unfold code; rw [h]; simp
/-- Two orders of places, told by lists: A of the long and the left ones, B of all. -/
structure Keys (t : List Int) (short : List Bool) (A B : Int → List Int) : Prop where
  An : A t.length = []
  AL : ∀ p : Int, 0 ≤ p → p < t.length → S short p = false → A p = code t short p :: A (p + 1)
  AM : ∀ p : Int, 0 ≤ p → p < t.length → Lf short p → ∃ r, A p = code t short p :: r
  BL : ∀ p : Int, 0 ≤ p → p < t.length → S short p = false → B p = A p
  BS : ∀ p : Int, 0 ≤ p → p < t.length → S short p = true → B p = code t short p :: B (p + 1)
def le (a b : List Int) : Prop := ¬ llt b a
theorem le_refl (a : List Int) : le a a := llt_irrefl a
theorem le_trans {a b c : List Int} (h : le a b) (k : le b c) : le a c := by
  intro hca
  rcases llt_tri a b with h1 | h1 | h1
  · exact k (llt_trans hca h1)
  · rw [← h1] at k; exact k hca
  · exact h h1
theorem le_nil (a : List Int) : le [] a := by unfold le; cases a <;> simp [llt]
theorem le_cons {x : Int} {a b : List Int} (h : le a b) : le (x :: a) (x :: b) := by unfold le at h ⊢; simp only [llt]; rintro (h1 | ⟨_, h1⟩); omega; exact h h1
theorem le_head {x y : Int} {a b : List Int} (h : x < y) : le (x :: a) (y :: b) := by unfold le; simp only [llt]; rintro (h1 | ⟨h1, _⟩) <;> omega
theorem le_of_llt {a b : List Int} (h : llt a b) : le a b := llt_asymm h
theorem le_total (a b : List Int) : le a b ∨ le b a := by
  rcases llt_tri a b with h | h | h
  · exact .inl (le_of_llt h)
  · rw [h]; exact .inl (le_refl b)
  · exact .inr (le_of_llt h)
end Go.Ab.Sai

/- Induced sorting: the three passes. Plain Lean, no program. -/
namespace Go.Ab.Sai
open Go.Ab.Wd Go.Ab.Bs
set_option linter.unusedVariables false
set_option linter.unusedSimpArgs false

/-! ### what the program does -/
abbrev St := List Int × List Int
/-- A place put at the end of its bucket, and the end moved down. -/
def down (t : List Int) (st : St) (p : Int) : Option St :=
  if 0 ≤ p ∧ p < t.length ∧ 0 ≤ rd t p ∧ rd t p < st.2.length ∧ 0 ≤ rd st.2 (rd t p) - 1 ∧ rd st.2 (rd t p) - 1 < st.1.length then
    some (st.1.set (rd st.2 (rd t p) - 1).toNat p, st.2.set (rd t p).toNat (rd st.2 (rd t p) - 1)) else none
/-- A place put at the head of its bucket, and the head moved up. -/
def upw (t : List Int) (st : St) (p : Int) : Option St :=
  if 0 ≤ p ∧ p < t.length ∧ 0 ≤ rd t p ∧ rd t p < st.2.length ∧ 0 ≤ rd st.2 (rd t p) ∧ rd st.2 (rd t p) < st.1.length then
    some (st.1.set (rd st.2 (rd t p)).toNat p, st.2.set (rd t p).toNat (rd st.2 (rd t p) + 1)) else none
def put (t : List Int) (short : List Bool) (st : St) (p : Int) : Option St :=
  if 0 ≤ p then (if p < short.length then (if S short p = true then some st else upw t st p) else none) else some st
def pass1 (t : List Int) : List Int → St → Option St
  | [], st => some st
  | p :: ps, st => (down t st p).bind (pass1 t ps)
def pass2 (t : List Int) (short : List Bool) : Nat → Int → St → Option St
  | 0, _, st => some st
  | m + 1, i, st => if 0 < rd st.1 i then (put t short st (rd st.1 i - 1)).bind (pass2 t short m (i + 1)) else pass2 t short m (i + 1) st
def pass3 (t : List Int) (short : List Bool) : Nat → Int → St → Option St
  | 0, _, st => some st
  | m + 1, i, st =>
    if 0 ≤ rd st.1 i - 1 then (if rd st.1 i - 1 < short.length then (if S short (rd st.1 i - 1) = true then (down t st (rd st.1 i - 1)).bind (pass3 t short m (i - 1)) else pass3 t short m (i - 1) st) else none)
    else pass3 t short m (i - 1) st
def heads (t : List Int) (k : Nat) : List Int := (List.range k).map fun c : Nat => hd t c
def tails (t : List Int) (k : Nat) : List Int := (List.range k).map fun c : Nat => hd t (c + 1)
def induce (t : List Int) (short : List Bool) (k : Nat) (some_ : List Int) : Option (List Int) :=
  (pass1 t some_.reverse (List.replicate t.length (-1), tails t k)).bind fun st =>
    (put t short (st.1, heads t k) (t.length - 1)).bind fun st =>
      (pass2 t short t.length 0 st).bind fun st =>
        (pass3 t short t.length (t.length - 1) (st.1, tails t k)).map (·.1)
theorem heads_length (t : List Int) (k : Nat) : (heads t k).length = k := by simp [heads]
theorem tails_length (t : List Int) (k : Nat) : (tails t k).length = k := by simp [tails]
theorem rd_heads (t : List Int) (k : Nat) {c : Int} (c0 : 0 ≤ c) (c1 : c < k) : rd (heads t k) c = hd t c := by
  obtain ⟨c, rfl⟩ := Int.eq_ofNat_of_zero_le c0
  rw [rd_getElem (by rw [heads_length]; omega)]
  simp [heads]
theorem rd_tails (t : List Int) (k : Nat) {c : Int} (c0 : 0 ≤ c) (c1 : c < k) : rd (tails t k) c = hd t (c + 1) := by
  obtain ⟨c, rfl⟩ := Int.eq_ofNat_of_zero_le c0
  rw [rd_getElem (by rw [tails_length]; omega)]
  simp [tails]

/-! ### the world of a list -/
structure Base (t : List Int) (short : List Bool) (k : Nat) (A B : Int → List Int) : Prop where
  pos : 0 < t.length
  rng : ∀ x ∈ t, 0 ≤ x ∧ x < k
  sh : Short t short
  keys : Keys t short A B
variable {t : List Int} {short : List Bool} {k : Nat} {A B : Int → List Int}
theorem Base.at_ (b : Base t short k A B) {p : Int} (p0 : 0 ≤ p) (p1 : p < t.length) : 0 ≤ rd t p ∧ rd t p < k := b.rng _ (rd_mem p0 p1)
theorem Base.hd_top (b : Base t short k A B) {c : Int} (hc : c ≤ k) : hd t c ≤ t.length := hd_le t c
theorem Base.bucket (b : Base t short k A B) {j : Int} (j0 : 0 ≤ j) (j1 : j < t.length) : ∃ c : Int, 0 ≤ c ∧ c < k ∧ hd t c ≤ j ∧ j < hd t (c + 1) :=
  bucket_of t j0 (fun x hx => (b.rng x hx).1) k (by rw [hd_all fun x hx => (b.rng x hx).2]; exact j1)
/-- Buckets lie one behind the other. -/
theorem hd_next (t : List Int) {c d : Int} (h : c < d) : hd t (c + 1) ≤ hd t d := hd_mono t (by omega)

/-! ### pass 1: the left places, from the last one on -/
/-- How many of some places have a number. -/
def cnt (t : List Int) (l : List Int) (c : Int) : Int := ((l.filter fun p => decide (rd t p = c)).length : Int)
theorem cnt_nonneg (t l : List Int) (c : Int) : 0 ≤ cnt t l c := by unfold cnt; omega
theorem cnt_cons (t : List Int) (p : Int) (l : List Int) (c : Int) : cnt t (p :: l) c = cnt t l c + if rd t p = c then 1 else 0 := by
  unfold cnt
  by_cases h : rd t p = c
  · rw [List.filter_cons_of_pos (by simpa using h), if_pos h]; simp only [List.length_cons]; omega
  · rw [List.filter_cons_of_neg (by simpa using h), if_neg h]; omega
/-- Behind pass 1: the places done stand at the buckets' ends, as they stood; all else is free. -/
structure Seeds (t : List Int) (k : Nat) (l : List Int) (st : St) : Prop where
  l1 : st.1.length = t.length
  l2 : st.2.length = k
  tl : ∀ c : Int, 0 ≤ c → c < k → rd st.2 c = hd t (c + 1) - cnt t l c
  there : ∀ p ∈ l, ∃ j : Int, hd t (rd t p + 1) - cnt t l (rd t p) ≤ j ∧ j < hd t (rd t p + 1) ∧ rd st.1 j = p
  seed : ∀ c : Int, 0 ≤ c → c < k → ∀ j : Int, hd t (c + 1) - cnt t l c ≤ j → j < hd t (c + 1) → rd st.1 j ∈ l ∧ rd t (rd st.1 j) = c
  ord : ∀ c : Int, 0 ≤ c → c < k → ∀ i j : Int, hd t (c + 1) - cnt t l c ≤ i → i < j → j < hd t (c + 1) → ∃ a b, l = a ++ rd st.1 i :: b ∧ rd st.1 j ∈ b
  free : ∀ j : Int, 0 ≤ j → j < t.length → (∀ c : Int, 0 ≤ c → c < k → hd t c ≤ j → j < hd t (c + 1) → j < hd t (c + 1) - cnt t l c) → rd st.1 j = -1
theorem cnt_le (b : Base t short k A B) {l : List Int} (hn : l.Nodup) (h : ∀ p ∈ l, 0 ≤ p ∧ p < t.length) (c : Int) : cnt t l c ≤ hd t (c + 1) - hd t c := by
  unfold cnt
  refine count_le (hn.filter _) fun p hp => ?_
  rw [List.mem_filter, decide_eq_true_iff] at hp
  exact ⟨h p hp.1, hp.2⟩
theorem pass1_spec (b : Base t short k A B) : ∀ (l done : List Int) (st : St), (l.reverse ++ done).Nodup → (∀ p ∈ l.reverse ++ done, 0 ≤ p ∧ p < t.length) → Seeds t k done st → ∃ st', pass1 t l st = some st' ∧ Seeds t k (l.reverse ++ done) st'
  | [], done, st, _, _, h => ⟨st, rfl, by simpa using h⟩
  | p :: l, done, st, hn, hr, h => by
    have hp := hr p (by simp)
    have e : (p :: l).reverse ++ done = l.reverse ++ (p :: done) := by simp
    rw [e] at hn hr ⊢
    have hn2 : (p :: done).Nodup := (List.nodup_append.1 hn).2.1
    have hr2 : ∀ q ∈ p :: done, 0 ≤ q ∧ q < t.length := fun q hq => hr q (List.mem_append_right _ hq)
    obtain ⟨c0, c1⟩ := b.at_ hp.1 hp.2
    obtain ⟨c, hc⟩ : ∃ c, rd t p = c := ⟨_, rfl⟩
    rw [hc] at c0 c1
    have hle := cnt_le b hn2 hr2 c
    rw [cnt_cons, if_pos hc] at hle
    have hnn := cnt_nonneg t done c
    have hh := hd_nonneg t c
    have ht := hd_le t (c + 1)
    have htl := h.tl c c0 c1
    have hJ : 0 ≤ rd st.2 c - 1 ∧ rd st.2 c - 1 < t.length := by omega
    have hd1 : down t st p = some (st.1.set (rd st.2 c - 1).toNat p, st.2.set c.toNat (rd st.2 c - 1)) := by
      unfold down
      rw [hc, if_pos ⟨hp.1, hp.2, c0, by rw [h.l2]; exact c1, hJ.1, by rw [h.l1]; exact hJ.2⟩]
    obtain ⟨J, hJe⟩ : ∃ J, rd st.2 c - 1 = J := ⟨_, rfl⟩
    rw [hJe] at hd1 hJ
    have hcc : ∀ d : Int, cnt t (p :: done) d = cnt t done d + if c = d then 1 else 0 := fun d => by rw [cnt_cons, hc]
    have hrd : ∀ j : Int, 0 ≤ j → rd (st.1.set J.toNat p) j = if J = j then p else rd st.1 j := fun j j0 => rd_set hJ.1 (by rw [h.l1]; exact hJ.2) j0
    have hpd : p ∉ done := (List.nodup_cons.1 hn2).1
    have hbk : ∀ d : Int, c ≠ d → 0 ≤ d → d < k → ∀ j : Int, hd t d ≤ j → j < hd t (d + 1) → J ≠ j := by
      intro d hne d0 d1 j j0 j1 e
      rcases Int.lt_trichotomy c d with hl | hl | hl
      · have := hd_next t hl; omega
      · exact hne hl
      · have := hd_next t hl; omega
    have h' : Seeds t k (p :: done) (st.1.set J.toNat p, st.2.set c.toNat J) := by
      refine ⟨by simpa using h.l1, by simpa using h.l2, ?_, ?_, ?_, ?_, ?_⟩
      · intro d d0 d1
        rw [rd_set c0 (by rw [h.l2]; exact c1) d0, hcc]
        by_cases e : c = d
        · subst e; rw [if_pos rfl, if_pos rfl]; omega
        · rw [if_neg e, if_neg e, h.tl d d0 d1]; omega
      · intro q hq
        rcases List.mem_cons.1 hq with rfl | hq
        · exact ⟨J, by rw [hc, hcc, if_pos rfl]; omega, by rw [hc]; omega, by rw [hrd J hJ.1, if_pos rfl]⟩
        · obtain ⟨j, j0, j1, e⟩ := h.there q hq
          have hq1 := hr2 q (List.mem_cons_of_mem _ hq)
          have hqc := b.at_ hq1.1 hq1.2
          have hqn := cnt_nonneg t done (rd t q)
          have hlq := cnt_le b (List.nodup_cons.1 hn2).2 (fun x hx => hr2 x (List.mem_cons_of_mem _ hx)) (rd t q)
          have hh0 := hd_nonneg t (rd t q)
          refine ⟨j, by rw [hcc]; split <;> omega, j1, ?_⟩
          rw [hrd j (by omega), if_neg ?_, e]
          intro e'
          by_cases ec : c = rd t q
          · rw [← ec] at j0; omega
          · exact hbk _ ec hqc.1 hqc.2 j (by omega) j1 e'
      · intro d d0 d1 j j0 j1
        rw [hcc] at j0
        have hln := cnt_nonneg t done d
        have hld := cnt_le b (List.nodup_cons.1 hn2).2 (fun x hx => hr2 x (List.mem_cons_of_mem _ hx)) d
        have hh0 := hd_nonneg t d
        by_cases ej : J = j
        · have ed : c = d := by
            apply Classical.byContradiction
            intro hne
            rw [if_neg hne] at j0
            exact hbk d hne d0 d1 j (by omega) j1 ej
          subst ed
          show rd (st.1.set J.toNat p) j ∈ _ ∧ _
          rw [hrd j (by omega), if_pos ej]
          exact ⟨List.mem_cons_self .., hc⟩
        · have hj : hd t (d + 1) - cnt t done d ≤ j := by
            by_cases ed : c = d
            · subst ed; rw [if_pos rfl] at j0; omega
            · rw [if_neg ed] at j0; omega
          show rd (st.1.set J.toNat p) j ∈ _ ∧ rd t (rd (st.1.set J.toNat p) j) = d
          rw [hrd j (by omega), if_neg ej]
          have := h.seed d d0 d1 j hj j1
          exact ⟨List.mem_cons_of_mem _ this.1, this.2⟩
      · intro d d0 d1 i j i0 hij j1
        rw [hcc] at i0
        have hln := cnt_nonneg t done d
        have hld := cnt_le b (List.nodup_cons.1 hn2).2 (fun x hx => hr2 x (List.mem_cons_of_mem _ hx)) d
        have hh0 := hd_nonneg t d
        show ∃ a b, p :: done = a ++ rd (st.1.set J.toNat p) i :: b ∧ rd (st.1.set J.toNat p) j ∈ b
        have hlow : c = d → hd t (d + 1) - cnt t done d - 1 = J := fun ed => by subst ed; omega
        have hjn : J ≠ j := by
          intro e
          by_cases ed : c = d
          · have := hlow ed; rw [if_pos ed] at i0; omega
          · rw [if_neg ed] at i0; exact hbk d ed d0 d1 j (by omega) j1 e
        have hj2 : hd t (d + 1) - cnt t done d ≤ j := by
          by_cases ed : c = d
          · rw [if_pos ed] at i0; omega
          · rw [if_neg ed] at i0; omega
        rw [hrd i (by split at i0 <;> omega), hrd j (by omega), if_neg hjn]
        by_cases ei : J = i
        · rw [if_pos ei]
          exact ⟨[], done, rfl, (h.seed d d0 d1 j hj2 j1).1⟩
        · rw [if_neg ei]
          have hi2 : hd t (d + 1) - cnt t done d ≤ i := by
            by_cases ed : c = d
            · have := hlow ed; rw [if_pos ed] at i0; omega
            · rw [if_neg ed] at i0; omega
          obtain ⟨x, y, e1, e2⟩ := h.ord d d0 d1 i j hi2 hij j1
          exact ⟨p :: x, y, by rw [e1]; rfl, e2⟩
      · intro j j0 j1 hf
        show rd (st.1.set J.toNat p) j = -1
        have hne : J ≠ j := by
          intro e
          have := hf c c0 c1 (by omega) (by omega)
          rw [hcc, if_pos rfl] at this
          omega
        rw [hrd j j0, if_neg hne]
        refine h.free j j0 j1 fun d d0 d1 k0 k1 => ?_
        have := hf d d0 d1 k0 k1
        rw [hcc] at this
        split at this <;> omega
    obtain ⟨st', hs, hS⟩ := pass1_spec b l (p :: done) _ hn hr h'
    exact ⟨st', by simp only [pass1]; rw [hd1]; exact hs, hS⟩
theorem seeds_start : Seeds t k [] (List.replicate t.length (-1), tails t k) := by
  refine ⟨by simp, tails_length t k, fun c c0 c1 => ?_, fun p hp => by simp at hp, fun c c0 c1 j j0 j1 => ?_, fun c c0 c1 i j i0 hij j1 => ?_, fun j j0 j1 _ => ?_⟩
  · show rd (tails t k) c = _
    rw [rd_tails t k c0 c1]
    simp [cnt]
  · simp [cnt] at j0; omega
  · simp [cnt] at i0; omega
  · show rd (List.replicate t.length (-1)) j = -1
    obtain ⟨j, rfl⟩ := Int.eq_ofNat_of_zero_le j0
    rw [rd_getElem (by simp; omega)]
    simp
end Go.Ab.Sai
