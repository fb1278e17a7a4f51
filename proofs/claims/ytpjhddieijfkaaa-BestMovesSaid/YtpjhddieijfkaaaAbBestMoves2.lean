/- A part of the proof of the law BestMoves: lemmas alone; what each says stands at it. No conditions. -/
import Derived.Test.YtpjhddieijfkaaaAbBestMoves1
import Derived.Test.YtpjhddieijfkaaaProg
set_option maxRecDepth 100000
set_option linter.unusedVariables false
namespace Go.Ab
open Go Go.Proofs
noncomputable instance toldTry : Told Try.prog := ⟨orTell (sortSp 60) [9,20]⟩
theorem f4_eq : ∀ (Γ : Gam) (k : Nat) (σ : Store) (h0 : Hdl) (i1 i2 : Int),
  evBody Try.prog Γ drawn k Try.f4 [AV.slice h0, AV.int IntKind.i64 i1, AV.int IntKind.i64 i2] σ =
    Option.bind (Γ (Fun.fn 9) [] σ) fun x3 ↦
      Option.bind (AV.asBool (Prod.fst x3)) fun x4 ↦
        if (!x4) = true then some (AV.bool false, Prod.snd x3)
        else
          if decide (200 < (↑(Hdl.len h0) : Int)) = true then some (AV.bool true, Prod.snd x3)
          else
            Option.bind (Γ (Fun.fn 10) [AV.slice h0, AV.int IntKind.i64 301] (Prod.snd x3)) fun x5 ↦
              Option.bind (AV.asBool (Prod.fst x5)) fun x6 ↦
                if (!x6) = true then some (AV.bool true, Prod.snd x5)
                else
                  if decide ((↑(Hdl.len h0) : Int) = 0) = true then some (AV.bool true, Prod.snd x5)
                  else
                    if IntKind.wrap IntKind.u64 (↑(Hdl.len h0) : Int) = 0 then none
                    else
                      Option.bind (Store.sub (Store.push (Prod.snd x5) [] 1) h0 1 (some (IntKind.wrap IntKind.i64 (Int.tmod (IntKind.wrap IntKind.u64 i1) (IntKind.wrap IntKind.u64 (↑(Hdl.len h0) : Int))))) none none) fun x7 ↦
                        Option.bind (Store.readSl (Store.push (Prod.snd x5) [] 1) x7 1) fun x8 ↦
                          Option.bind (Store.app (Store.push (Prod.snd x5) [] 1) { a := some (List.length (Store.objs (Prod.snd x5)), 0), len := 0, cap := some 0 } 1 8 x8 (Hdl.len x7)) fun x9 ↦
                            Option.bind (Store.sub (Prod.snd x9) h0 1 none (some (IntKind.wrap IntKind.i64 (Int.tmod (IntKind.wrap IntKind.u64 i1) (IntKind.wrap IntKind.u64 (↑(Hdl.len h0) : Int))))) none) fun x10 ↦
                              Option.bind (Store.readSl (Prod.snd x9) x10 1) fun x11 ↦
                                Option.bind (Store.app (Prod.snd x9) (Prod.fst x9) 1 8 x11 (Hdl.len x10)) fun x12 ↦ Option.bind (loopF Try.prog Γ drawn k Try.f4 [1, 1, 1, 1, 1, 0, 1, 0] [9, 8, 2, 0] ([AV.int IntKind.i64 0, AV.slice (Prod.fst x12), AV.int IntKind.i64 i2, AV.slice h0], Prod.snd x12)) (contF Try.prog Γ drawn k Try.f4 [1, 1, 1, 1, 1, 0, 1, 0]) := by intros; kernel_rfl

theorem f4_L11111010 : ∀ (Γ : Gam) (k : Nat) (σ : Store) (i13 : Int) (h14 : Hdl) (i15 : Int) (h16 : Hdl),
  stepF Try.prog Γ drawn k Try.f4 [1, 1, 1, 1, 1, 0, 1, 0] [9, 8, 2, 0] ([AV.int IntKind.i64 i13, AV.slice h14, AV.int IntKind.i64 i15, AV.slice h16], σ) =
    if decide (IntKind.wrap IntKind.i64 (i13 + 1) < (↑(Hdl.len h14) : Int)) = true then
      if 0 ≤ IntKind.wrap IntKind.i64 (i13 + 1) ∧ IntKind.wrap IntKind.i64 (i13 + 1) < (↑(Hdl.len h14) : Int) then
        Option.bind (Store.ldInt σ IntKind.i64 (Hdl.idx h14 (IntKind.wrap IntKind.i64 (i13 + 1)) 1)) fun x17 ↦
          if 0 ≤ i13 ∧ i13 < (↑(Hdl.len h14) : Int) then
            Option.bind (Store.ldInt σ IntKind.i64 (Hdl.idx h14 i13 1)) fun x18 ↦
              if 0 ≤ i13 ∧ i13 < (↑(Hdl.len h14) : Int) then
                Option.bind (Store.stL σ (Hdl.idx h14 i13 1) [AV.int IntKind.i64 x17] 0) fun x19 ↦
                  if 0 ≤ IntKind.wrap IntKind.i64 (i13 + 1) ∧ IntKind.wrap IntKind.i64 (i13 + 1) < (↑(Hdl.len h14) : Int) then Option.bind (Store.stL x19 (Hdl.idx h14 (IntKind.wrap IntKind.i64 (i13 + 1)) 1) [AV.int IntKind.i64 x18] 0) fun x20 ↦ some (Sum.inl ([AV.int IntKind.i64 (IntKind.wrap IntKind.i64 (i13 + 2)), AV.slice h14, AV.int IntKind.i64 i15, AV.slice h16], x20)) else none
              else none
          else none
      else none
    else some (Sum.inr (AX.exit 0, [(8, AV.slice h14), (2, AV.int IntKind.i64 i15), (0, AV.slice h16)], σ)) := by intros; kernel_rfl

theorem f4_X11111010_1 : ∀ (Γ : Gam) (k : Nat) (σ : Store) (h21 : Hdl) (i22 : Int) (h23 : Hdl),
  contF Try.prog Γ drawn k Try.f4 [1, 1, 1, 1, 1, 0, 1, 0] (AX.exit 0, [(8, AV.slice h21), (2, AV.int IntKind.i64 i22), (0, AV.slice h23)], σ) =
    Option.bind (Γ (Fun.fn 11) [AV.slice h23, AV.int IntKind.i64 300] σ) fun x24 ↦
      Option.bind (AV.item 0 2 (Prod.fst x24)) fun x25 ↦
        Option.bind (AV.asPtr x25) fun x26 ↦
          Option.bind (AV.item 1 2 (Prod.fst x24)) fun x27 ↦
            Option.bind (AV.asInt IntKind.i64 x27) fun x28 ↦
              Option.bind (Γ (Fun.fn 11) [AV.slice h21, AV.int IntKind.i64 300] (Prod.snd x24)) fun x29 ↦
                Option.bind (AV.item 0 2 (Prod.fst x29)) fun x30 ↦
                  Option.bind (AV.asPtr x30) fun x31 ↦
                    Option.bind (AV.item 1 2 (Prod.fst x29)) fun x32 ↦
                      Option.bind (AV.asInt IntKind.i64 x32) fun x33 ↦
                        Option.bind (Γ (Fun.fn 15) [AV.ptr x26, AV.int IntKind.i64 0, AV.int IntKind.i64 (↑(Hdl.len h23) : Int), AV.int IntKind.i64 (IntKind.wrap IntKind.i64 (1 + IntKind.wrap IntKind.i64 (Int.tmod (IntKind.wrap IntKind.u64 i22) 200)))] (Prod.snd x29)) fun x34 ↦
                          Option.bind (AV.asSl (Prod.fst x34)) fun x35 ↦
                            Option.bind (Γ (Fun.fn 15) [AV.ptr x31, AV.int IntKind.i64 0, AV.int IntKind.i64 (↑(Hdl.len h23) : Int), AV.int IntKind.i64 (IntKind.wrap IntKind.i64 (1 + IntKind.wrap IntKind.i64 (Int.tmod (IntKind.wrap IntKind.u64 i22) 200)))] (Prod.snd x34)) fun x36 ↦
                              Option.bind (AV.asSl (Prod.fst x36)) fun x37 ↦ Option.bind (Γ (Fun.fn 14) [AV.slice x35, AV.slice x37] (Prod.snd x36)) fun x38 ↦ Option.bind (AV.asBool (Prod.fst x38)) fun x39 ↦ some (AV.bool x39, Prod.snd x38) := by intros; kernel_rfl

theorem f10_eq : ∀ (Γ : Gam) (k : Nat) (σ : Store) (h0 : Hdl) (i1 : Int),
  evBody Try.prog Γ drawn k Try.f10 [AV.slice h0, AV.int IntKind.i64 i1] σ =
    if decide (i1 < 0) = true then some (AV.bool false, σ)
    else if decide (4194304 < i1) = true then some (AV.bool false, σ) else if decide (4194304 < (↑(Hdl.len h0) : Int)) = true then some (AV.bool false, σ) else Option.bind (loopF Try.prog Γ drawn k Try.f10 [1, 1, 0, 1, 0] [20, 19, 18, 1] ([AV.int IntKind.i64 0, AV.int IntKind.i64 (↑(Hdl.len h0) : Int), AV.slice h0, AV.int IntKind.i64 i1], σ)) (contF Try.prog Γ drawn k Try.f10 [1, 1, 0, 1, 0]) := by intros; kernel_rfl

theorem f10_L11010 : ∀ (Γ : Gam) (k : Nat) (σ : Store) (i2 i3 : Int) (h4 : Hdl) (i5 : Int),
  stepF Try.prog Γ drawn k Try.f10 [1, 1, 0, 1, 0] [20, 19, 18, 1] ([AV.int IntKind.i64 i2, AV.int IntKind.i64 i3, AV.slice h4, AV.int IntKind.i64 i5], σ) =
    if decide (i2 < i3) = true then
      if 0 ≤ i2 ∧ i2 < (↑(Hdl.len h4) : Int) then
        Option.bind (Store.ldInt σ IntKind.i64 (Hdl.idx h4 i2 1)) fun x6 ↦ if decide (x6 < 0) = true then some (Sum.inr (AX.ret, [(4, AV.bool false)], σ)) else if decide (i5 ≤ x6) = true then some (Sum.inr (AX.ret, [(4, AV.bool false)], σ)) else some (Sum.inl ([AV.int IntKind.i64 (IntKind.wrap IntKind.i64 (i2 + 1)), AV.int IntKind.i64 i3, AV.slice h4, AV.int IntKind.i64 i5], σ))
      else none
    else some (Sum.inr (AX.exit 0, [], σ)) := by intros; kernel_rfl

theorem f10_X11010_1 : ∀ (Γ : Gam) (k : Nat) (σ : Store) (b7 : Bool), contF Try.prog Γ drawn k Try.f10 [1, 1, 0, 1, 0] (AX.ret, [(4, AV.bool b7)], σ) = some (AV.bool b7, σ) := by intros; kernel_rfl

theorem f10_X11010_2 : ∀ (Γ : Gam) (k : Nat) (σ : Store), contF Try.prog Γ drawn k Try.f10 [1, 1, 0, 1, 0] (AX.exit 0, [], σ) = some (AV.bool true, σ) := by intros; kernel_rfl

theorem f11_eq : ∀ (Γ : Gam) (k : Nat) (σ : Store) (h0 : Hdl) (i1 : Int),
  evBody Try.prog Γ drawn k Try.f11 [AV.slice h0, AV.int IntKind.i64 i1] σ =
    Option.bind (Store.ldInt (Store.push σ [AV.int IntKind.i64 i1] 1) IntKind.i64 (some (List.length (Store.objs σ), 0))) fun x2 ↦
      if decide (x2 < 0) = true then some (AV.tuple [AV.ptr none, AV.int IntKind.i64 2], Store.push σ [AV.int IntKind.i64 i1] 1)
      else
        Option.bind (Store.ldInt (Store.push σ [AV.int IntKind.i64 i1] 1) IntKind.i64 (some (List.length (Store.objs σ), 0))) fun x3 ↦
          if decide (4194304 ≤ x3) = true then some (AV.tuple [AV.ptr none, AV.int IntKind.i64 2], Store.push σ [AV.int IntKind.i64 i1] 1)
          else
            if decide (4194304 < (↑(Hdl.len h0) : Int)) = true then some (AV.tuple [AV.ptr none, AV.int IntKind.i64 2], Store.push σ [AV.int IntKind.i64 i1] 1)
            else
              Option.bind (Γ (Fun.fn 25) [AV.slice h0, AV.func 26 [] [AV.ptr (some (List.length (Store.objs σ), 0))]] (Store.push σ [AV.int IntKind.i64 i1] 1)) fun x4 ↦
                Option.bind (AV.asBool (Prod.fst x4)) fun x5 ↦
                  if x5 = true then some (AV.tuple [AV.ptr none, AV.int IntKind.i64 2], Prod.snd x4)
                  else
                    Option.bind (Store.ldInt (Prod.snd x4) IntKind.i64 (some (List.length (Store.objs σ), 0))) fun x6 ↦
                      Option.bind (Γ (Fun.fn 27) [AV.int IntKind.u64 (IntKind.wrap IntKind.u64 x6)] (Prod.snd x4)) fun x7 ↦
                        Option.bind (AV.asInt IntKind.i64 (Prod.fst x7)) fun x8 ↦
                          Option.bind (Γ (Fun.fn 28) [AV.slice h0] (Store.push (Prod.snd x7) [AV.int IntKind.i64 (↑(Hdl.len h0) : Int), AV.int IntKind.i64 x8, AV.slice Hdl.nil] 3)) fun x9 ↦
                            Option.bind (AV.asSl (Prod.fst x9)) fun x10 ↦
                              Option.bind (Store.ldInt (Prod.snd x9) IntKind.i64 (Ptr.add (some (List.length (Store.objs (Prod.snd x7)), 0)) 1)) fun x11 ↦
                                Option.bind (loopF Try.prog Γ drawn k Try.f11 [1, 1, 1, 1, 0, 1, 0] [8, 7, 6] ([AV.int IntKind.i64 (IntKind.wrap IntKind.i64 (x11 - 1)), AV.slice x10, AV.ptr (some (List.length (Store.objs (Prod.snd x7)), 0))], Prod.snd x9)) (contF Try.prog Γ drawn k Try.f11 [1, 1, 1, 1, 0, 1, 0]) := by intros; kernel_rfl

theorem f11_L1111010 : ∀ (Γ : Gam) (k : Nat) (σ : Store) (i12 : Int) (h13 : Hdl) (p14 : Ptr),
  stepF Try.prog Γ drawn k Try.f11 [1, 1, 1, 1, 0, 1, 0] [8, 7, 6] ([AV.int IntKind.i64 i12, AV.slice h13, AV.ptr p14], σ) =
    if decide (0 ≤ i12) = true then
      Option.bind p14 fun x15 ↦
        Option.bind (Store.ldInt σ IntKind.i64 (Ptr.add (some x15) 0)) fun x16 ↦
          Option.bind (Γ (Fun.fn 29) [AV.int IntKind.i64 1, AV.int IntKind.i64 x16] σ) fun x17 ↦
            Option.bind (AV.item 0 2 (Prod.fst x17)) fun x18 ↦
              Option.bind (AV.asPtr x18) fun x19 ↦
                Option.bind (AV.item 1 2 (Prod.fst x17)) fun x20 ↦
                  Option.bind (AV.asInt IntKind.i64 x20) fun x21 ↦
                    Option.bind (loopF Try.prog Γ drawn k Try.f11 [1, 1, 1, 1, 0, 1, 0, 0, 1, 0, 0, 1, 1, 0, 1, 0] [61, 60, 59, 12, 11, 9, 8, 6] ([AV.int IntKind.i64 0, AV.int IntKind.i64 (↑(Hdl.len h13) : Int), AV.slice h13, AV.slice Hdl.nil, AV.slice Hdl.nil, AV.ptr x19, AV.int IntKind.i64 i12, AV.ptr p14], Prod.snd x17))
                      (contFL Try.prog Γ drawn k Try.f11 [1, 1, 1, 1, 0, 1, 0] [8, 7, 6] [1, 0, 0, 1, 1, 0, 1, 0])
    else some (Sum.inr (AX.exit 0, [(6, AV.ptr p14)], σ)) := by intros; kernel_rfl

theorem f11_X1111010_1 : ∀ (Γ : Gam) (k : Nat) (σ : Store) (p22 : Ptr), contF Try.prog Γ drawn k Try.f11 [1, 1, 1, 1, 0, 1, 0] (AX.exit 0, [(6, AV.ptr p22)], σ) = some (AV.tuple [AV.ptr p22, AV.int IntKind.i64 0], σ) := by intros; kernel_rfl

theorem f11_L1111010010011010 : ∀ (Γ : Gam) (k : Nat) (σ : Store) (i23 i24 : Int) (h25 h26 h27 : Hdl) (p28 : Ptr) (i29 : Int) (p30 : Ptr),
  stepF Try.prog Γ drawn k Try.f11 [1, 1, 1, 1, 0, 1, 0, 0, 1, 0, 0, 1, 1, 0, 1, 0] [61, 60, 59, 12, 11, 9, 8, 6] ([AV.int IntKind.i64 i23, AV.int IntKind.i64 i24, AV.slice h25, AV.slice h26, AV.slice h27, AV.ptr p28, AV.int IntKind.i64 i29, AV.ptr p30], σ) =
    if decide (i23 < i24) = true then
      if 0 ≤ i23 ∧ i23 < (↑(Hdl.len h25) : Int) then
        Option.bind (Store.ldInt σ IntKind.i64 (Hdl.idx h25 i23 1)) fun x31 ↦
          if 0 ≤ i29 then
            if decide (bitOp BinOp.and IntKind.i64 (shrI IntKind.i64 x31 i29) 1 = 1) = true then
              Option.bind (Γ (Fun.fn 30) [AV.ptr p28, AV.int IntKind.i64 i23, AV.int IntKind.u64 1] σ) fun x32 ↦
                Option.bind (AV.asBool (Prod.fst x32)) fun x33 ↦
                  Option.bind (Store.readSl (Store.push (Prod.snd x32) [AV.int IntKind.i64 x31] 1) { a := some (List.length (Store.objs (Prod.snd x32)), 0), len := 1, cap := some 1 } 1) fun x34 ↦
                    Option.bind (Store.app (Store.push (Prod.snd x32) [AV.int IntKind.i64 x31] 1) h26 1 8 x34 1) fun x35 ↦ some (Sum.inl ([AV.int IntKind.i64 (IntKind.wrap IntKind.i64 (i23 + 1)), AV.int IntKind.i64 i24, AV.slice h25, AV.slice (Prod.fst x35), AV.slice h27, AV.ptr p28, AV.int IntKind.i64 i29, AV.ptr p30], Prod.snd x35))
            else
              Option.bind (Store.readSl (Store.push σ [AV.int IntKind.i64 x31] 1) { a := some (List.length (Store.objs σ), 0), len := 1, cap := some 1 } 1) fun x36 ↦
                Option.bind (Store.app (Store.push σ [AV.int IntKind.i64 x31] 1) h27 1 8 x36 1) fun x37 ↦ some (Sum.inl ([AV.int IntKind.i64 (IntKind.wrap IntKind.i64 (i23 + 1)), AV.int IntKind.i64 i24, AV.slice h25, AV.slice h26, AV.slice (Prod.fst x37), AV.ptr p28, AV.int IntKind.i64 i29, AV.ptr p30], Prod.snd x37))
          else none
      else none
    else some (Sum.inr (AX.exit 2, [(12, AV.slice h26), (11, AV.slice h27), (9, AV.ptr p28), (8, AV.int IntKind.i64 i29), (6, AV.ptr p30)], σ)) := by intros; kernel_rfl

theorem f11_X1111010010011010_1 : ∀ (Γ : Gam) (k : Nat) (σ : Store) (h38 h39 : Hdl) (p40 : Ptr) (i41 : Int) (p42 : Ptr),
  contFL Try.prog Γ drawn k Try.f11 [1, 1, 1, 1, 0, 1, 0] [8, 7, 6] [1, 0, 0, 1, 1, 0, 1, 0] (AX.exit 2, [(12, AV.slice h38), (11, AV.slice h39), (9, AV.ptr p40), (8, AV.int IntKind.i64 i41), (6, AV.ptr p42)], σ) =
    Option.bind (Γ (Fun.fn 31) [AV.ptr p40] σ) fun x43 ↦
      Option.bind (AV.item 0 2 (Prod.fst x43)) fun x44 ↦
        Option.bind (AV.asPtr x44) fun x45 ↦
          Option.bind (AV.item 1 2 (Prod.fst x43)) fun x46 ↦
            Option.bind (AV.asInt IntKind.i64 x46) fun x47 ↦
              Option.bind p42 fun x48 ↦
                Option.bind (Store.ldSl (Prod.snd x43) (Ptr.add (some x48) 2)) fun x49 ↦
                  Option.bind (Store.readSl (Store.push (Prod.snd x43) [AV.ptr x45] 1) { a := some (List.length (Store.objs (Prod.snd x43)), 0), len := 1, cap := some 1 } 1) fun x50 ↦
                    Option.bind (Store.app (Store.push (Prod.snd x43) [AV.ptr x45] 1) x49 1 8 x50 1) fun x51 ↦
                      Option.bind p42 fun x52 ↦ Option.bind (Store.stL (Prod.snd x51) (Ptr.add (some x52) 2) [AV.slice (Prod.fst x51)] 0) fun x53 ↦ Option.bind (Store.readSl x53 h38 1) fun x54 ↦ Option.bind (Store.app x53 h39 1 8 x54 (Hdl.len h38)) fun x55 ↦ some (Sum.inl ([AV.int IntKind.i64 (IntKind.wrap IntKind.i64 (i41 - 1)), AV.slice (Prod.fst x55), AV.ptr p42], Prod.snd x55)) := by intros; kernel_rfl

theorem f14_eq : ∀ (Γ : Gam) (k : Nat) (σ : Store) (h0 h1 : Hdl),
  evBody Try.prog Γ drawn k Try.f14 [AV.slice h0, AV.slice h1] σ = if decide ((↑(Hdl.len h0) : Int) ≠ (↑(Hdl.len h1) : Int)) = true then some (AV.bool false, σ) else Option.bind (loopF Try.prog Γ drawn k Try.f14 [1, 1, 0, 1, 0] [13, 12, 1, 0] ([AV.int IntKind.i64 0, AV.int IntKind.i64 (↑(Hdl.len h0) : Int), AV.slice h1, AV.slice h0], σ)) (contF Try.prog Γ drawn k Try.f14 [1, 1, 0, 1, 0]) := by intros; kernel_rfl

theorem f14_L11010 : ∀ (Γ : Gam) (k : Nat) (σ : Store) (i2 i3 : Int) (h4 h5 : Hdl),
  stepF Try.prog Γ drawn k Try.f14 [1, 1, 0, 1, 0] [13, 12, 1, 0] ([AV.int IntKind.i64 i2, AV.int IntKind.i64 i3, AV.slice h4, AV.slice h5], σ) =
    if decide (i2 < i3) = true then
      if 0 ≤ i2 ∧ i2 < (↑(Hdl.len h5) : Int) then
        Option.bind (Store.ldInt σ IntKind.i64 (Ptr.add (Hdl.idx h5 i2 2) 0)) fun x6 ↦
          Option.bind (Store.ldInt σ IntKind.i64 (Ptr.add (Hdl.idx h5 i2 2) 1)) fun x7 ↦
            if 0 ≤ i2 ∧ i2 < (↑(Hdl.len h4) : Int) then
              Option.bind (Store.ldInt σ IntKind.i64 (Ptr.add (Hdl.idx h4 i2 2) 0)) fun x8 ↦
                Option.bind (Store.ldInt σ IntKind.i64 (Ptr.add (Hdl.idx h4 i2 2) 1)) fun x9 ↦ if (!(decide (x6 = x8) && (decide (x7 = x9) && true))) = true then some (Sum.inr (AX.ret, [(4, AV.bool false)], σ)) else some (Sum.inl ([AV.int IntKind.i64 (IntKind.wrap IntKind.i64 (i2 + 1)), AV.int IntKind.i64 i3, AV.slice h4, AV.slice h5], σ))
            else none
      else none
    else some (Sum.inr (AX.exit 0, [], σ)) := by intros; kernel_rfl

theorem f14_X11010_2 : ∀ (Γ : Gam) (k : Nat) (σ : Store), contF Try.prog Γ drawn k Try.f14 [1, 1, 0, 1, 0] (AX.exit 0, [], σ) = some (AV.bool true, σ) := by intros; kernel_rfl

theorem f15_eq : ∀ (Γ : Gam) (k : Nat) (σ : Store) (p0 : Ptr) (i1 i2 i3 : Int),
  evBody Try.prog Γ drawn k Try.f15 [AV.ptr p0, AV.int IntKind.i64 i1, AV.int IntKind.i64 i2, AV.int IntKind.i64 i3] σ =
    Option.bind (Γ (Fun.fn 16) [AV.ptr p0, AV.int IntKind.i64 i1, AV.int IntKind.i64 i2] σ) fun x4 ↦ Option.bind (AV.asPtr (Prod.fst x4)) fun x5 ↦ Option.bind (loopF Try.prog Γ drawn k Try.f15 [1, 1, 1, 0, 0] [10, 9, 3] ([AV.slice Hdl.nil, AV.ptr x5, AV.int IntKind.i64 i3], Prod.snd x4)) (contF Try.prog Γ drawn k Try.f15 [1, 1, 1, 0, 0]) := by intros; kernel_rfl

theorem f15_L11100 : ∀ (Γ : Gam) (k : Nat) (σ : Store) (h6 : Hdl) (p7 : Ptr) (i8 : Int),
  stepF Try.prog Γ drawn k Try.f15 [1, 1, 1, 0, 0] [10, 9, 3] ([AV.slice h6, AV.ptr p7, AV.int IntKind.i64 i8], σ) =
    if decide ((↑(Hdl.len h6) : Int) < i8) = true then
      Option.bind (Γ (Fun.fn 18) [AV.ptr p7] σ) fun x9 ↦
        Option.bind (AV.item 0 2 (Prod.fst x9)) fun x10 ↦
          Option.bind (AV.aggAt 0 2 x10) fun x11 ↦
            Option.bind (AV.asInt IntKind.i64 x11) fun x12 ↦
              Option.bind (AV.aggAt 1 2 x10) fun x13 ↦
                Option.bind (AV.asInt IntKind.i64 x13) fun x14 ↦
                  Option.bind (AV.item 1 2 (Prod.fst x9)) fun x15 ↦
                    Option.bind (AV.asBool x15) fun x16 ↦
                      Option.bind (Store.stL (Store.push (Prod.snd x9) [AV.int IntKind.i64 0, AV.int IntKind.i64 0] 2) (some (List.length (Store.objs (Prod.snd x9)), 0)) [AV.int IntKind.i64 x12, AV.int IntKind.i64 x14] 0) fun x17 ↦
                        if (!x16) = true then some (Sum.inr (AX.exit 0, [(10, AV.slice h6)], x17))
                        else
                          Option.bind (Store.ldInt x17 IntKind.i64 (Ptr.add (some (List.length (Store.objs (Prod.snd x9)), 0)) 0)) fun x18 ↦
                            Option.bind (Store.ldInt x17 IntKind.i64 (Ptr.add (some (List.length (Store.objs (Prod.snd x9)), 0)) 1)) fun x19 ↦
                              Option.bind (Store.readSl (Store.push x17 [AV.int IntKind.i64 x18, AV.int IntKind.i64 x19] 2) { a := some (List.length (Store.objs x17), 0), len := 1, cap := some 1 } 2) fun x20 ↦
                                Option.bind (Store.app (Store.push x17 [AV.int IntKind.i64 x18, AV.int IntKind.i64 x19] 2) h6 2 16 x20 1) fun x21 ↦ some (Sum.inl ([AV.slice (Prod.fst x21), AV.ptr p7, AV.int IntKind.i64 i8], Prod.snd x21))
    else some (Sum.inr (AX.exit 0, [(10, AV.slice h6)], σ)) := by intros; kernel_rfl

theorem f15_X11100_1 : ∀ (Γ : Gam) (k : Nat) (σ : Store) (h22 : Hdl), contF Try.prog Γ drawn k Try.f15 [1, 1, 1, 0, 0] (AX.exit 0, [(10, AV.slice h22)], σ) = some (AV.slice h22, σ) := by intros; kernel_rfl

theorem f16_eq : ∀ (Γ : Gam) (k : Nat) (σ : Store) (p0 : Ptr) (i1 i2 : Int),
  evBody Try.prog Γ drawn k Try.f16 [AV.ptr p0, AV.int IntKind.i64 i1, AV.int IntKind.i64 i2] σ =
    Option.bind (Γ (Fun.fn 34) [AV.ptr p0] (Store.push σ [AV.ptr p0, AV.slice Hdl.nil] 2)) fun x3 ↦
      Option.bind (AV.asInt IntKind.i64 (Prod.fst x3)) fun x4 ↦ Option.bind (Γ (Fun.fn 33) [AV.ptr (some (List.length (Store.objs σ), 0)), AV.agg [AV.int IntKind.i64 0, AV.int IntKind.i64 0, AV.int IntKind.i64 0, AV.int IntKind.i64 (mx2 i1 0), AV.int IntKind.i64 (mn2 i2 x4)]] (Prod.snd x3)) fun x5 ↦ some (AV.ptr (some (List.length (Store.objs σ), 0)), Prod.snd x5) := by intros; kernel_rfl

theorem f17_eq : ∀ (Γ : Gam) (k : Nat) (σ : Store) (p0 : Ptr),
  evBody Try.prog Γ drawn k Try.f17 [AV.ptr p0] σ =
    Option.bind p0 fun x1 ↦
      Option.bind (Store.ldSl (Store.push σ [AV.int IntKind.i64 0, AV.int IntKind.i64 0] 2) (Ptr.add (some x1) 1)) fun x2 ↦
        if decide ((↑(Hdl.len x2) : Int) = 0) = true then
          Option.bind (Store.stL (Store.push σ [AV.int IntKind.i64 0, AV.int IntKind.i64 0] 2) (some (List.length (Store.objs σ), 0)) [AV.int IntKind.i64 0, AV.int IntKind.i64 0] 0) fun x3 ↦
            Option.bind (Store.ldInt x3 IntKind.i64 (Ptr.add (some (List.length (Store.objs σ), 0)) 0)) fun x4 ↦ Option.bind (Store.ldInt x3 IntKind.i64 (Ptr.add (some (List.length (Store.objs σ), 0)) 1)) fun x5 ↦ some (AV.tuple [AV.agg [AV.int IntKind.i64 x4, AV.int IntKind.i64 x5], AV.bool false, AV.bool false], x3)
        else
          Option.bind p0 fun x6 ↦
            Option.bind (Γ (Fun.fn 35) [AV.iface 81 (AV.ptr (Ptr.add (some x6) 1))] (Store.push σ [AV.int IntKind.i64 0, AV.int IntKind.i64 0] 2)) fun x7 ↦
              Option.bind (AV.asIfc (Prod.fst x7)) fun x8 ↦
                if Prod.fst x8 = 79 then
                  Option.bind (AV.aggAt 0 5 (Prod.snd x8)) fun x9 ↦
                    Option.bind (AV.asInt IntKind.i64 x9) fun x10 ↦
                      Option.bind (AV.aggAt 1 5 (Prod.snd x8)) fun x11 ↦
                        Option.bind (AV.asInt IntKind.i64 x11) fun x12 ↦
                          Option.bind (AV.aggAt 2 5 (Prod.snd x8)) fun x13 ↦
                            Option.bind (AV.asInt IntKind.i64 x13) fun x14 ↦
                              Option.bind (AV.aggAt 3 5 (Prod.snd x8)) fun x15 ↦
                                Option.bind (AV.asInt IntKind.i64 x15) fun x16 ↦
                                  Option.bind (AV.aggAt 4 5 (Prod.snd x8)) fun x17 ↦
                                    Option.bind (AV.asInt IntKind.i64 x17) fun x18 ↦
                                      if
                                          szOf Try.prog 79 =
                                              some (List.length (AV.cells (if false = true then AV.tuple [AV.agg [AV.int IntKind.i64 x10, AV.int IntKind.i64 x12, AV.int IntKind.i64 x14, AV.int IntKind.i64 x16, AV.int IntKind.i64 x18], AV.bool true] else AV.agg [AV.int IntKind.i64 x10, AV.int IntKind.i64 x12, AV.int IntKind.i64 x14, AV.int IntKind.i64 x16, AV.int IntKind.i64 x18]))) ∧
                                            0 < List.length (AV.cells (if false = true then AV.tuple [AV.agg [AV.int IntKind.i64 x10, AV.int IntKind.i64 x12, AV.int IntKind.i64 x14, AV.int IntKind.i64 x16, AV.int IntKind.i64 x18], AV.bool true] else AV.agg [AV.int IntKind.i64 x10, AV.int IntKind.i64 x12, AV.int IntKind.i64 x14, AV.int IntKind.i64 x16, AV.int IntKind.i64 x18])) then
                                        Option.bind
                                          (Store.stL (Store.push (Prod.snd x7) [AV.int IntKind.i64 0, AV.int IntKind.i64 0, AV.int IntKind.i64 0, AV.int IntKind.i64 0, AV.int IntKind.i64 0] 5) (some (List.length (Store.objs (Prod.snd x7)), 0))
                                            (AV.cells (if false = true then AV.tuple [AV.agg [AV.int IntKind.i64 x10, AV.int IntKind.i64 x12, AV.int IntKind.i64 x14, AV.int IntKind.i64 x16, AV.int IntKind.i64 x18], AV.bool true] else AV.agg [AV.int IntKind.i64 x10, AV.int IntKind.i64 x12, AV.int IntKind.i64 x14, AV.int IntKind.i64 x16, AV.int IntKind.i64 x18])) 0)
                                          fun x19 ↦
                                          Option.bind p0 fun x20 ↦
                                            Option.bind (Store.ldPtr x19 (Ptr.add (some x20) 0)) fun x21 ↦
                                              Option.bind (Γ (Fun.fn 36) [AV.ptr x21] x19) fun x22 ↦
                                                Option.bind (AV.asSl (Prod.fst x22)) fun x23 ↦
                                                  Option.bind (Store.ldInt (Prod.snd x22) IntKind.i64 (Ptr.add (some (List.length (Store.objs (Prod.snd x7)), 0)) 0)) fun x24 ↦
                                                    if decide (x24 = (↑(Hdl.len x23) : Int)) = true then
                                                      Option.bind (Store.ldInt (Prod.snd x22) IntKind.i64 (Ptr.add (some (List.length (Store.objs (Prod.snd x7)), 0)) 1)) fun x25 ↦
                                                        Option.bind (Store.ldInt (Prod.snd x22) IntKind.i64 (Ptr.add (some (List.length (Store.objs (Prod.snd x7)), 0)) 4)) fun x26 ↦
                                                          Option.bind (Store.ldInt (Prod.snd x22) IntKind.i64 (Ptr.add (some (List.length (Store.objs (Prod.snd x7)), 0)) 3)) fun x27 ↦
                                                            Option.bind (Store.stL (Prod.snd x22) (some (List.length (Store.objs σ), 0)) [AV.int IntKind.i64 x25, AV.int IntKind.i64 (IntKind.wrap IntKind.i64 (x26 - x27))] 0) fun x28 ↦
                                                              Option.bind (Store.ldInt x28 IntKind.i64 (Ptr.add (some (List.length (Store.objs σ), 0)) 0)) fun x29 ↦ Option.bind (Store.ldInt x28 IntKind.i64 (Ptr.add (some (List.length (Store.objs σ), 0)) 1)) fun x30 ↦ some (AV.tuple [AV.agg [AV.int IntKind.i64 x29, AV.int IntKind.i64 x30], AV.bool true, AV.bool true], x28)
                                                    else
                                                      Option.bind (Store.ldInt (Prod.snd x22) IntKind.i64 (Ptr.add (some (List.length (Store.objs (Prod.snd x7)), 0)) 0)) fun x31 ↦
                                                        if 0 ≤ x31 ∧ x31 < (↑(Hdl.len x23) : Int) then
                                                          Option.bind (Store.ldPtr (Prod.snd x22) (Hdl.idx x23 x31 1)) fun x32 ↦
                                                            Option.bind (Store.ldInt (Prod.snd x22) IntKind.i64 (Ptr.add (some (List.length (Store.objs (Prod.snd x7)), 0)) 0)) fun x33 ↦
                                                              if 0 ≤ IntKind.wrap IntKind.i64 (IntKind.wrap IntKind.i64 ((↑(Hdl.len x23) : Int) - x33) - 1) then
                                                                Option.bind (Γ (Fun.fn 37) [AV.ptr x32] (Prod.snd x22)) fun x34 ↦
                                                                  Option.bind (AV.asInt IntKind.i64 (Prod.fst x34)) fun x35 ↦
                                                                    Option.bind (Γ (Fun.fn 38) [AV.ptr x32] (Prod.snd x34)) fun x36 ↦
                                                                      Option.bind (AV.asInt IntKind.i64 (Prod.fst x36)) fun x37 ↦
                                                                        Option.bind (Store.ldInt (Prod.snd x36) IntKind.i64 (Ptr.add (some (List.length (Store.objs (Prod.snd x7)), 0)) 0)) fun x38 ↦
                                                                          Option.bind (Store.ldInt (Prod.snd x36) IntKind.i64 (Ptr.add (some (List.length (Store.objs (Prod.snd x7)), 0)) 1)) fun x39 ↦
                                                                            Option.bind (Store.ldInt (Prod.snd x36) IntKind.i64 (Ptr.add (some (List.length (Store.objs (Prod.snd x7)), 0)) 2)) fun x40 ↦
                                                                              Option.bind (Store.ldInt (Prod.snd x36) IntKind.i64 (Ptr.add (some (List.length (Store.objs (Prod.snd x7)), 0)) 3)) fun x41 ↦
                                                                                Option.bind (callG Γ true (Fun.fn 39) [AV.ptr x32, AV.int IntKind.i64 x41] (Prod.snd x36)) fun x42 ↦
                                                                                  Option.bind (AV.asInt IntKind.i64 (Prod.fst x42)) fun x43 ↦
                                                                                    Option.bind (Store.ldInt (Prod.snd x42) IntKind.i64 (Ptr.add (some (List.length (Store.objs (Prod.snd x7)), 0)) 4)) fun x44 ↦
                                                                                      Option.bind (callG Γ true (Fun.fn 39) [AV.ptr x32, AV.int IntKind.i64 x44] (Prod.snd x42)) fun x45 ↦
                                                                                        Option.bind (AV.asInt IntKind.i64 (Prod.fst x45)) fun x46 ↦
                                                                                          Option.bind (Γ (Fun.fn 33) [AV.ptr p0, AV.agg [AV.int IntKind.i64 (IntKind.wrap IntKind.i64 (x38 + 1)), AV.int IntKind.i64 (IntKind.wrap IntKind.i64 (2 * x39)), AV.int IntKind.i64 x40, AV.int IntKind.i64 x43, AV.int IntKind.i64 x46]] (Prod.snd x45)) fun x47 ↦
                                                                                            Option.bind (Store.ldInt (Prod.snd x47) IntKind.i64 (Ptr.add (some (List.length (Store.objs (Prod.snd x7)), 0)) 0)) fun x48 ↦
                                                                                              Option.bind (Store.ldInt (Prod.snd x47) IntKind.i64 (Ptr.add (some (List.length (Store.objs (Prod.snd x7)), 0)) 1)) fun x49 ↦
                                                                                                Option.bind (Store.ldInt (Prod.snd x47) IntKind.i64 (Ptr.add (some (List.length (Store.objs (Prod.snd x7)), 0)) 2)) fun x50 ↦
                                                                                                  Option.bind (Store.ldInt (Prod.snd x47) IntKind.i64 (Ptr.add (some (List.length (Store.objs (Prod.snd x7)), 0)) 3)) fun x51 ↦
                                                                                                    Option.bind (callG Γ true (Fun.fn 40) [AV.ptr x32, AV.int IntKind.i64 x51] (Prod.snd x47)) fun x52 ↦
                                                                                                      Option.bind (AV.asInt IntKind.i64 (Prod.fst x52)) fun x53 ↦
                                                                                                        Option.bind (Store.ldInt (Prod.snd x52) IntKind.i64 (Ptr.add (some (List.length (Store.objs (Prod.snd x7)), 0)) 4)) fun x54 ↦
                                                                                                          Option.bind (callG Γ true (Fun.fn 40) [AV.ptr x32, AV.int IntKind.i64 x54] (Prod.snd x52)) fun x55 ↦
                                                                                                            Option.bind (AV.asInt IntKind.i64 (Prod.fst x55)) fun x56 ↦
                                                                                                              Option.bind
                                                                                                                (Γ (Fun.fn 33)
                                                                                                                  [AV.ptr p0,
                                                                                                                    AV.agg
                                                                                                                      [AV.int IntKind.i64 (IntKind.wrap IntKind.i64 (x48 + 1)), AV.int IntKind.i64 (IntKind.wrap IntKind.i64 (IntKind.wrap IntKind.i64 (2 * x49) + 1)),
                                                                                                                        AV.int IntKind.i64 (IntKind.wrap IntKind.i64 (x50 + shlI IntKind.i64 1 (IntKind.wrap IntKind.i64 (IntKind.wrap IntKind.i64 ((↑(Hdl.len x23) : Int) - x33) - 1)))), AV.int IntKind.i64 (IntKind.wrap IntKind.i64 (IntKind.wrap IntKind.i64 (x35 - x37) + x53)),
                                                                                                                        AV.int IntKind.i64 (IntKind.wrap IntKind.i64 (IntKind.wrap IntKind.i64 (x35 - x37) + x56))]]
                                                                                                                  (Prod.snd x55))
                                                                                                                fun x57 ↦
                                                                                                                Option.bind (Store.stL (Prod.snd x57) (some (List.length (Store.objs σ), 0)) [AV.int IntKind.i64 0, AV.int IntKind.i64 0] 0) fun x58 ↦
                                                                                                                  Option.bind (Store.ldInt x58 IntKind.i64 (Ptr.add (some (List.length (Store.objs σ), 0)) 0)) fun x59 ↦
                                                                                                                    Option.bind (Store.ldInt x58 IntKind.i64 (Ptr.add (some (List.length (Store.objs σ), 0)) 1)) fun x60 ↦ some (AV.tuple [AV.agg [AV.int IntKind.i64 x59, AV.int IntKind.i64 x60], AV.bool false, AV.bool true], x58)
                                                              else none
                                                        else none
                                      else none
                else none := by intros; kernel_rfl

theorem f18_eq : ∀ (Γ : Gam) (k : Nat) (σ : Store) (p0 : Ptr), evBody Try.prog Γ drawn k Try.f18 [AV.ptr p0] σ = Option.bind (loopF Try.prog Γ drawn k Try.f18 [1, 0] [2, 0] ([AV.ptr (some (List.length (Store.objs σ), 0)), AV.ptr p0], Store.push σ [AV.int IntKind.i64 0, AV.int IntKind.i64 0] 2)) (contF Try.prog Γ drawn k Try.f18 [1, 0]) := by intros; kernel_rfl

theorem f18_L10 : ∀ (Γ : Gam) (k : Nat) (σ : Store) (p1 p2 : Ptr),
  stepF Try.prog Γ drawn k Try.f18 [1, 0] [2, 0] ([AV.ptr p1, AV.ptr p2], σ) =
    Option.bind (Γ (Fun.fn 17) [AV.ptr p2] σ) fun x3 ↦
      Option.bind (AV.item 0 3 (Prod.fst x3)) fun x4 ↦
        Option.bind (AV.aggAt 0 2 x4) fun x5 ↦
          Option.bind (AV.asInt IntKind.i64 x5) fun x6 ↦
            Option.bind (AV.aggAt 1 2 x4) fun x7 ↦
              Option.bind (AV.asInt IntKind.i64 x7) fun x8 ↦
                Option.bind (AV.item 1 3 (Prod.fst x3)) fun x9 ↦
                  Option.bind (AV.asBool x9) fun x10 ↦
                    Option.bind (AV.item 2 3 (Prod.fst x3)) fun x11 ↦
                      Option.bind (AV.asBool x11) fun x12 ↦
                        Option.bind (Store.stL (Store.push (Prod.snd x3) [AV.int IntKind.i64 0, AV.int IntKind.i64 0] 2) (some (List.length (Store.objs (Prod.snd x3)), 0)) [AV.int IntKind.i64 x6, AV.int IntKind.i64 x8] 0) fun x13 ↦
                          if x10 = true then
                            Option.bind (Store.ldInt x13 IntKind.i64 (Ptr.add (some (List.length (Store.objs (Prod.snd x3)), 0)) 0)) fun x14 ↦
                              Option.bind (Store.ldInt x13 IntKind.i64 (Ptr.add (some (List.length (Store.objs (Prod.snd x3)), 0)) 1)) fun x15 ↦ Option.bind (Store.stL x13 p1 [AV.int IntKind.i64 x14, AV.int IntKind.i64 x15] 0) fun x16 ↦ some (Sum.inr (AX.ret, [(3, AV.bool x10), (2, AV.ptr p1)], x16))
                          else
                            if (!x12) = true then
                              Option.bind (Store.ldInt x13 IntKind.i64 (Ptr.add (some (List.length (Store.objs (Prod.snd x3)), 0)) 0)) fun x17 ↦
                                Option.bind (Store.ldInt x13 IntKind.i64 (Ptr.add (some (List.length (Store.objs (Prod.snd x3)), 0)) 1)) fun x18 ↦ Option.bind (Store.stL x13 p1 [AV.int IntKind.i64 x17, AV.int IntKind.i64 x18] 0) fun x19 ↦ some (Sum.inr (AX.ret, [(3, AV.bool x10), (2, AV.ptr p1)], x19))
                            else some (Sum.inl ([AV.ptr p1, AV.ptr p2], x13)) := by intros; kernel_rfl

theorem f18_X10_1 : ∀ (Γ : Gam) (k : Nat) (σ : Store) (b20 : Bool) (p21 : Ptr), contF Try.prog Γ drawn k Try.f18 [1, 0] (AX.ret, [(3, AV.bool b20), (2, AV.ptr p21)], σ) = Option.bind (Store.ldInt σ IntKind.i64 (Ptr.add p21 0)) fun x22 ↦ Option.bind (Store.ldInt σ IntKind.i64 (Ptr.add p21 1)) fun x23 ↦ some (AV.tuple [AV.agg [AV.int IntKind.i64 x22, AV.int IntKind.i64 x23], AV.bool b20], σ) := by intros; kernel_rfl

theorem f25_eq : ∀ (Γ : Gam) (k : Nat) (σ : Store) (h0 : Hdl) (g1 : FuncId) (a2 c3 : List AV), evBody Try.prog Γ drawn k Try.f25 [AV.slice h0, AV.func g1 a2 c3] σ = Option.bind (Γ (Fun.fn 46) [AV.slice h0, AV.func g1 a2 c3] σ) fun x4 ↦ Option.bind (AV.asInt IntKind.i64 (Prod.fst x4)) fun x5 ↦ some (AV.bool (decide (0 ≤ x5)), Prod.snd x4) := by intros; kernel_rfl

theorem f26_eq : ∀ (Γ : Gam) (k : Nat) (σ : Store) (i0 : Int) (p1 : Ptr), evBody Try.prog Γ drawn k Try.f26 [AV.int IntKind.i64 i0, AV.ptr p1] σ = if decide (i0 < 0) = true then some (AV.bool true, σ) else Option.bind (Store.ldInt σ IntKind.i64 p1) fun x2 ↦ some (AV.bool (decide (x2 < i0)), σ) := by intros; kernel_rfl

theorem f27_eq : ∀ (Γ : Gam) (k : Nat) (σ : Store) (i0 : Int), evBody Try.prog Γ drawn k Try.f27 [AV.int IntKind.u64 i0] σ = Option.bind (Γ (Fun.fn 47) [AV.int IntKind.u64 i0] σ) fun x1 ↦ Option.bind (AV.asInt IntKind.i64 (Prod.fst x1)) fun x2 ↦ some (AV.int IntKind.i64 (mx2 (Int.ofNat 1) x2), Prod.snd x1) := by intros; kernel_rfl

theorem f28_eq : ∀ (Γ : Gam) (k : Nat) (σ : Store) (h0 : Hdl),
  evBody Try.prog Γ drawn k Try.f28 [AV.slice h0] σ = if Option.isNone (Hdl.a h0) = true then some (AV.slice Hdl.nil, σ) else Option.bind (Store.readSl (Store.push σ [] 1) h0 1) fun x1 ↦ Option.bind (Store.app (Store.push σ [] 1) { a := some (List.length (Store.objs σ), 0), len := 0, cap := some 0 } 1 8 x1 (Hdl.len h0)) fun x2 ↦ some (AV.slice (Prod.fst x2), Prod.snd x2) := by intros; kernel_rfl

theorem f29_eq : ∀ (Γ : Gam) (k : Nat) (σ : Store) (i0 i1 : Int),
  evBody Try.prog Γ drawn k Try.f29 [AV.int IntKind.i64 i0, AV.int IntKind.i64 i1] σ =
    if decide (i0 < (1 : Int)) = true then some (AV.tuple [AV.ptr none, AV.int IntKind.i64 (2 : Int)], σ)
    else
      if decide ((64 : Int) < i0) = true then some (AV.tuple [AV.ptr none, AV.int IntKind.i64 (2 : Int)], σ)
      else
        if decide (i1 < (0 : Int)) = true then some (AV.tuple [AV.ptr none, AV.int IntKind.i64 (2 : Int)], σ)
        else
          if decide ((4194304 : Int) < i1) = true then some (AV.tuple [AV.ptr none, AV.int IntKind.i64 (2 : Int)], σ)
          else
            Option.bind (Γ (Fun.fn (48 : Nat)) [AV.int IntKind.i64 i0, AV.int IntKind.i64 i1] σ) fun x2 ↦
              Option.bind (AV.asInt IntKind.i64 (Prod.fst x2)) fun x3 ↦
                if ((0 : Int) ≤ x3 ∧ x3 ≤ x3) ∧ x3 * (↑(8 : Nat) : Int) ≤ (281474976710656 : Int) then
                  some
                    (AV.tuple [AV.ptr (some (List.length (Store.objs (Store.push (Prod.snd x2) (mkCells [AV.int IntKind.u64 (0 : Int)] (Int.toNat x3)) (1 : Nat))), (0 : Nat))), AV.int IntKind.i64 (0 : Int)],
                      Store.push (Store.push (Prod.snd x2) (mkCells [AV.int IntKind.u64 (0 : Int)] (Int.toNat x3)) (1 : Nat)) [AV.int IntKind.i64 i0, AV.int IntKind.i64 i1, AV.slice { a := some (List.length (Store.objs (Prod.snd x2)), (0 : Nat)), len := Int.toNat x3, cap := some (Int.toNat x3) }] (3 : Nat))
                else none := by intros; kernel_rfl

theorem f30_eq : ∀ (Γ : Gam) (k : Nat) (σ : Store) (p0 : Ptr) (i1 i2 : Int),
  evBody Try.prog Γ drawn k Try.f30 [AV.ptr p0, AV.int IntKind.i64 i1, AV.int IntKind.u64 i2] σ =
    if Option.isNone p0 = true then some (AV.bool false, σ)
    else
      if decide (i1 < 0) = true then some (AV.bool false, σ)
      else
        Option.bind p0 fun x3 ↦
          Option.bind (Store.ldInt σ IntKind.i64 (Ptr.add (some x3) 1)) fun x4 ↦
            if decide (x4 ≤ i1) = true then some (AV.bool false, σ)
            else
              Option.bind p0 fun x5 ↦
                Option.bind (Store.ldInt σ IntKind.i64 (Ptr.add (some x5) 0)) fun x6 ↦
                  Option.bind (Γ (Fun.fn 49) [AV.int IntKind.i64 x6] σ) fun x7 ↦
                    Option.bind (AV.asInt IntKind.u64 (Prod.fst x7)) fun x8 ↦
                      if decide (x8 < i2) = true then some (AV.bool false, Prod.snd x7)
                      else
                        Option.bind p0 fun x9 ↦
                          Option.bind (Store.ldInt (Prod.snd x7) IntKind.i64 (Ptr.add (some x9) 0)) fun x10 ↦
                            Option.bind p0 fun x11 ↦
                              Option.bind (Store.ldInt (Prod.snd x7) IntKind.i64 (Ptr.add (some x11) 0)) fun x12 ↦
                                Option.bind (Γ (Fun.fn 49) [AV.int IntKind.i64 x12] (Prod.snd x7)) fun x13 ↦
                                  Option.bind (AV.asInt IntKind.u64 (Prod.fst x13)) fun x14 ↦
                                    Option.bind p0 fun x15 ↦
                                      Option.bind (Store.ldSl (Prod.snd x13) (Ptr.add (some x15) 2)) fun x16 ↦
                                        Option.bind p0 fun x17 ↦
                                          Option.bind (Store.ldSl (Prod.snd x13) (Ptr.add (some x17) 2)) fun x18 ↦
                                            if 0 ≤ IntKind.wrap IntKind.i64 (Int.tdiv (IntKind.wrap IntKind.i64 (i1 * x10)) 64) ∧ IntKind.wrap IntKind.i64 (Int.tdiv (IntKind.wrap IntKind.i64 (i1 * x10)) 64) < (↑(Hdl.len x18) : Int) then
                                              Option.bind (Store.ldInt (Prod.snd x13) IntKind.u64 (Hdl.idx x18 (IntKind.wrap IntKind.i64 (Int.tdiv (IntKind.wrap IntKind.i64 (i1 * x10)) 64)) 1)) fun x19 ↦
                                                if 0 ≤ Int.tmod (IntKind.wrap IntKind.i64 (i1 * x10)) 64 then
                                                  if 0 ≤ Int.tmod (IntKind.wrap IntKind.i64 (i1 * x10)) 64 then
                                                    if 0 ≤ IntKind.wrap IntKind.i64 (Int.tdiv (IntKind.wrap IntKind.i64 (i1 * x10)) 64) ∧ IntKind.wrap IntKind.i64 (Int.tdiv (IntKind.wrap IntKind.i64 (i1 * x10)) 64) < (↑(Hdl.len x16) : Int) then
                                                      Option.bind
                                                        (Store.stL (Prod.snd x13) (Hdl.idx x16 (IntKind.wrap IntKind.i64 (Int.tdiv (IntKind.wrap IntKind.i64 (i1 * x10)) 64)) 1)
                                                          [AV.int IntKind.u64 (bitOp BinOp.or IntKind.u64 (bitOp BinOp.andNot IntKind.u64 x19 (shlI IntKind.u64 x14 (Int.tmod (IntKind.wrap IntKind.i64 (i1 * x10)) 64))) (shlI IntKind.u64 i2 (Int.tmod (IntKind.wrap IntKind.i64 (i1 * x10)) 64)))] 0)
                                                        fun x20 ↦
                                                        Option.bind p0 fun x21 ↦
                                                          Option.bind (Store.ldInt x20 IntKind.i64 (Ptr.add (some x21) 0)) fun x22 ↦
                                                            if decide (64 < IntKind.wrap IntKind.i64 (Int.tmod (IntKind.wrap IntKind.i64 (i1 * x10)) 64 + x22)) = true then
                                                              Option.bind p0 fun x23 ↦
                                                                Option.bind (Store.ldSl x20 (Ptr.add (some x23) 2)) fun x24 ↦
                                                                  Option.bind p0 fun x25 ↦
                                                                    Option.bind (Store.ldSl x20 (Ptr.add (some x25) 2)) fun x26 ↦
                                                                      if 0 ≤ IntKind.wrap IntKind.i64 (IntKind.wrap IntKind.i64 (Int.tdiv (IntKind.wrap IntKind.i64 (i1 * x10)) 64) + 1) ∧ IntKind.wrap IntKind.i64 (IntKind.wrap IntKind.i64 (Int.tdiv (IntKind.wrap IntKind.i64 (i1 * x10)) 64) + 1) < (↑(Hdl.len x26) : Int) then
                                                                        Option.bind (Store.ldInt x20 IntKind.u64 (Hdl.idx x26 (IntKind.wrap IntKind.i64 (IntKind.wrap IntKind.i64 (Int.tdiv (IntKind.wrap IntKind.i64 (i1 * x10)) 64) + 1)) 1)) fun x27 ↦
                                                                          if 0 ≤ IntKind.wrap IntKind.i64 (64 - Int.tmod (IntKind.wrap IntKind.i64 (i1 * x10)) 64) then
                                                                            if 0 ≤ IntKind.wrap IntKind.i64 (64 - Int.tmod (IntKind.wrap IntKind.i64 (i1 * x10)) 64) then
                                                                              if 0 ≤ IntKind.wrap IntKind.i64 (IntKind.wrap IntKind.i64 (Int.tdiv (IntKind.wrap IntKind.i64 (i1 * x10)) 64) + 1) ∧ IntKind.wrap IntKind.i64 (IntKind.wrap IntKind.i64 (Int.tdiv (IntKind.wrap IntKind.i64 (i1 * x10)) 64) + 1) < (↑(Hdl.len x24) : Int) then
                                                                                Option.bind
                                                                                  (Store.stL x20 (Hdl.idx x24 (IntKind.wrap IntKind.i64 (IntKind.wrap IntKind.i64 (Int.tdiv (IntKind.wrap IntKind.i64 (i1 * x10)) 64) + 1)) 1)
                                                                                    [AV.int IntKind.u64 (bitOp BinOp.or IntKind.u64 (bitOp BinOp.andNot IntKind.u64 x27 (shrI IntKind.u64 x14 (IntKind.wrap IntKind.i64 (64 - Int.tmod (IntKind.wrap IntKind.i64 (i1 * x10)) 64)))) (shrI IntKind.u64 i2 (IntKind.wrap IntKind.i64 (64 - Int.tmod (IntKind.wrap IntKind.i64 (i1 * x10)) 64))))] 0)
                                                                                  fun x28 ↦ some (AV.bool true, x28)
                                                                              else none
                                                                            else none
                                                                          else none
                                                                      else none
                                                            else some (AV.bool true, x20)
                                                    else none
                                                  else none
                                                else none
                                            else none := by intros; kernel_rfl

theorem f31_eq : ∀ (Γ : Gam) (k : Nat) (σ : Store) (p0 : Ptr),
  evBody Try.prog Γ drawn k Try.f31 [AV.ptr p0] σ =
    if Option.isNone p0 = true then some (AV.tuple [AV.ptr none, AV.int IntKind.i64 1], σ)
    else
      Option.bind (Γ (Fun.fn 50) [AV.ptr p0] σ) fun x1 ↦
        Option.bind (AV.asInt IntKind.i64 (Prod.fst x1)) fun x2 ↦
          if decide (x2 ≠ 1) = true then some (AV.tuple [AV.ptr none, AV.int IntKind.i64 2], Prod.snd x1)
          else
            Option.bind (Γ (Fun.fn 51) [AV.ptr p0] (Prod.snd x1)) fun x3 ↦
              Option.bind (AV.asInt IntKind.i64 (Prod.fst x3)) fun x4 ↦
                Option.bind (Γ (Fun.fn 52) [AV.ptr p0] (Prod.snd x3)) fun x5 ↦
                  Option.bind (AV.asSl (Prod.fst x5)) fun x6 ↦
                    Option.bind (Store.ldSl (Store.push (Prod.snd x5) [AV.int IntKind.i64 x4, AV.slice x6, AV.slice Hdl.nil, AV.int IntKind.i64 0] 4) (Ptr.add (some (List.length (Store.objs (Prod.snd x5)), 0)) 1)) fun x7 ↦
                      Option.bind (loopF Try.prog Γ drawn k Try.f31 [1, 1, 1, 0, 1, 0] [25, 24, 23, 4] ([AV.int IntKind.i64 0, AV.int IntKind.i64 (↑(Hdl.len x7) : Int), AV.slice x7, AV.ptr (some (List.length (Store.objs (Prod.snd x5)), 0))], Store.push (Prod.snd x5) [AV.int IntKind.i64 x4, AV.slice x6, AV.slice Hdl.nil, AV.int IntKind.i64 0] 4))
                        (contF Try.prog Γ drawn k Try.f31 [1, 1, 1, 0, 1, 0]) := by intros; kernel_rfl

theorem f31_L111010 : ∀ (Γ : Gam) (k : Nat) (σ : Store) (i8 i9 : Int) (h10 : Hdl) (p11 : Ptr),
  stepF Try.prog Γ drawn k Try.f31 [1, 1, 1, 0, 1, 0] [25, 24, 23, 4] ([AV.int IntKind.i64 i8, AV.int IntKind.i64 i9, AV.slice h10, AV.ptr p11], σ) =
    if decide (i8 < i9) = true then
      if 0 ≤ i8 ∧ i8 < (↑(Hdl.len h10) : Int) then
        Option.bind (Store.ldInt σ IntKind.u64 (Hdl.idx h10 i8 1)) fun x12 ↦
          if decide (Int.tmod i8 8 = 0) = true then
            Option.bind p11 fun x13 ↦
              Option.bind (Store.ldSl σ (Ptr.add (some x13) 2)) fun x14 ↦
                Option.bind p11 fun x15 ↦
                  Option.bind (Store.ldInt σ IntKind.i64 (Ptr.add (some x15) 3)) fun x16 ↦
                    Option.bind (Store.readSl (Store.push σ [AV.int IntKind.i64 x16] 1) { a := some (List.length (Store.objs σ), 0), len := 1, cap := some 1 } 1) fun x17 ↦
                      Option.bind (Store.app (Store.push σ [AV.int IntKind.i64 x16] 1) x14 1 8 x17 1) fun x18 ↦
                        Option.bind p11 fun x19 ↦
                          Option.bind (Store.stL (Prod.snd x18) (Ptr.add (some x19) 2) [AV.slice (Prod.fst x18)] 0) fun x20 ↦
                            Option.bind p11 fun x21 ↦
                              Option.bind (Store.ldInt x20 IntKind.i64 (Ptr.add (some x21) 3)) fun x22 ↦
                                Option.bind (callG Γ true (Fun.fn 53) [AV.int IntKind.u64 x12] x20) fun x23 ↦
                                  Option.bind (AV.asInt IntKind.i64 (Prod.fst x23)) fun x24 ↦ Option.bind p11 fun x25 ↦ Option.bind (Store.stL (Prod.snd x23) (Ptr.add (some x25) 3) [AV.int IntKind.i64 (IntKind.wrap IntKind.i64 (x22 + x24))] 0) fun x26 ↦ some (Sum.inl ([AV.int IntKind.i64 (IntKind.wrap IntKind.i64 (i8 + 1)), AV.int IntKind.i64 i9, AV.slice h10, AV.ptr p11], x26))
          else
            Option.bind p11 fun x27 ↦
              Option.bind (Store.ldInt σ IntKind.i64 (Ptr.add (some x27) 3)) fun x28 ↦
                Option.bind (callG Γ true (Fun.fn 53) [AV.int IntKind.u64 x12] σ) fun x29 ↦
                  Option.bind (AV.asInt IntKind.i64 (Prod.fst x29)) fun x30 ↦ Option.bind p11 fun x31 ↦ Option.bind (Store.stL (Prod.snd x29) (Ptr.add (some x31) 3) [AV.int IntKind.i64 (IntKind.wrap IntKind.i64 (x28 + x30))] 0) fun x32 ↦ some (Sum.inl ([AV.int IntKind.i64 (IntKind.wrap IntKind.i64 (i8 + 1)), AV.int IntKind.i64 i9, AV.slice h10, AV.ptr p11], x32))
      else none
    else some (Sum.inr (AX.exit 1, [(4, AV.ptr p11)], σ)) := by intros; kernel_rfl

theorem f31_X111010_1 : ∀ (Γ : Gam) (k : Nat) (σ : Store) (p33 : Ptr), contF Try.prog Γ drawn k Try.f31 [1, 1, 1, 0, 1, 0] (AX.exit 1, [(4, AV.ptr p33)], σ) = some (AV.tuple [AV.ptr p33, AV.int IntKind.i64 0], σ) := by intros; kernel_rfl

theorem f33_eq : ∀ (Γ : Gam) (k : Nat) (σ : Store) (p0 : Ptr) (i1 i2 i3 i4 i5 : Int),
  evBody Try.prog Γ drawn k Try.f33 [AV.ptr p0, AV.agg [AV.int IntKind.i64 i1, AV.int IntKind.i64 i2, AV.int IntKind.i64 i3, AV.int IntKind.i64 i4, AV.int IntKind.i64 i5]] σ =
    Option.bind (Store.ldInt (Store.push σ [AV.int IntKind.i64 i1, AV.int IntKind.i64 i2, AV.int IntKind.i64 i3, AV.int IntKind.i64 i4, AV.int IntKind.i64 i5] 5) IntKind.i64 (Ptr.add (some (List.length (Store.objs σ), 0)) 3)) fun x6 ↦
      Option.bind (Store.ldInt (Store.push σ [AV.int IntKind.i64 i1, AV.int IntKind.i64 i2, AV.int IntKind.i64 i3, AV.int IntKind.i64 i4, AV.int IntKind.i64 i5] 5) IntKind.i64 (Ptr.add (some (List.length (Store.objs σ), 0)) 4)) fun x7 ↦
        if decide (x6 < x7) = true then
          Option.bind p0 fun x8 ↦
            Option.bind (Store.ldInt (Store.push σ [AV.int IntKind.i64 i1, AV.int IntKind.i64 i2, AV.int IntKind.i64 i3, AV.int IntKind.i64 i4, AV.int IntKind.i64 i5] 5) IntKind.i64 (Ptr.add (some (List.length (Store.objs σ), 0)) 0)) fun x9 ↦
              Option.bind (Store.ldInt (Store.push σ [AV.int IntKind.i64 i1, AV.int IntKind.i64 i2, AV.int IntKind.i64 i3, AV.int IntKind.i64 i4, AV.int IntKind.i64 i5] 5) IntKind.i64 (Ptr.add (some (List.length (Store.objs σ), 0)) 1)) fun x10 ↦
                Option.bind (Store.ldInt (Store.push σ [AV.int IntKind.i64 i1, AV.int IntKind.i64 i2, AV.int IntKind.i64 i3, AV.int IntKind.i64 i4, AV.int IntKind.i64 i5] 5) IntKind.i64 (Ptr.add (some (List.length (Store.objs σ), 0)) 2)) fun x11 ↦
                  Option.bind (Store.ldInt (Store.push σ [AV.int IntKind.i64 i1, AV.int IntKind.i64 i2, AV.int IntKind.i64 i3, AV.int IntKind.i64 i4, AV.int IntKind.i64 i5] 5) IntKind.i64 (Ptr.add (some (List.length (Store.objs σ), 0)) 3)) fun x12 ↦
                    Option.bind (Store.ldInt (Store.push σ [AV.int IntKind.i64 i1, AV.int IntKind.i64 i2, AV.int IntKind.i64 i3, AV.int IntKind.i64 i4, AV.int IntKind.i64 i5] 5) IntKind.i64 (Ptr.add (some (List.length (Store.objs σ), 0)) 4)) fun x13 ↦
                      Option.bind (Γ (Fun.fn 55) [AV.iface 81 (AV.ptr (Ptr.add (some x8) 1)), AV.iface 79 (AV.agg [AV.int IntKind.i64 x9, AV.int IntKind.i64 x10, AV.int IntKind.i64 x11, AV.int IntKind.i64 x12, AV.int IntKind.i64 x13])] (Store.push σ [AV.int IntKind.i64 i1, AV.int IntKind.i64 i2, AV.int IntKind.i64 i3, AV.int IntKind.i64 i4, AV.int IntKind.i64 i5] 5)) fun x14 ↦
                        some (AV.tuple [], Prod.snd x14)
        else some (AV.tuple [], Store.push σ [AV.int IntKind.i64 i1, AV.int IntKind.i64 i2, AV.int IntKind.i64 i3, AV.int IntKind.i64 i4, AV.int IntKind.i64 i5] 5) := by intros; kernel_rfl

theorem f34_eq : ∀ (Γ : Gam) (k : Nat) (σ : Store) (p0 : Ptr), evBody Try.prog Γ drawn k Try.f34 [AV.ptr p0] σ = if Option.isNone p0 = true then some (AV.int IntKind.i64 0, σ) else Option.bind p0 fun x1 ↦ Option.bind (Store.ldInt σ IntKind.i64 (Ptr.add (some x1) 0)) fun x2 ↦ some (AV.int IntKind.i64 x2, σ) := by intros; kernel_rfl

theorem f35_eq : ∀ (Γ : Gam) (k : Nat) (σ : Store) (p0 : Ptr),
  evBody Try.prog Γ drawn k Try.f35 [AV.iface 81 (AV.ptr p0)] σ =
    Option.bind (Store.ldSl σ p0) fun x1 ↦
      Option.bind (Γ (Fun.fn 102) [AV.slice x1] σ) fun x2 ↦
        Option.bind (AV.asInt IntKind.i64 (Prod.fst x2)) fun x3 ↦
          Option.bind (Store.ldSl (Prod.snd x2) p0) fun x4 ↦
            Option.bind (Γ (Fun.fn 104) [AV.slice x4, AV.int IntKind.i64 0, AV.int IntKind.i64 (IntKind.wrap IntKind.i64 (x3 - 1))] (Prod.snd x2)) fun x5 ↦
              Option.bind (Γ (Fun.fn 56) [AV.iface 81 (AV.ptr p0), AV.int IntKind.i64 0, AV.int IntKind.i64 (IntKind.wrap IntKind.i64 (x3 - 1))] (Prod.snd x5)) fun x6 ↦ Option.bind (AV.asBool (Prod.fst x6)) fun x7 ↦ Option.bind (Γ (Fun.fn 107) [AV.ptr p0] (Prod.snd x6)) fun x8 ↦ Option.bind (AV.asIfc (Prod.fst x8)) fun x9 ↦ some (AV.iface (Prod.fst x9) (Prod.snd x9), Prod.snd x8) := by intros; kernel_rfl

theorem f36_eq : ∀ (Γ : Gam) (k : Nat) (σ : Store) (p0 : Ptr), evBody Try.prog Γ drawn k Try.f36 [AV.ptr p0] σ = if Option.isNone p0 = true then some (AV.slice Hdl.nil, σ) else Option.bind p0 fun x1 ↦ Option.bind (Store.ldSl σ (Ptr.add (some x1) 2)) fun x2 ↦ Option.bind (Γ (Fun.fn 57) [AV.slice x2] σ) fun x3 ↦ Option.bind (AV.asSl (Prod.fst x3)) fun x4 ↦ some (AV.slice x4, Prod.snd x3) := by intros; kernel_rfl

theorem f37_eq : ∀ (Γ : Gam) (k : Nat) (σ : Store) (p0 : Ptr), evBody Try.prog Γ drawn k Try.f37 [AV.ptr p0] σ = if Option.isNone p0 = true then some (AV.int IntKind.i64 0, σ) else Option.bind p0 fun x1 ↦ Option.bind (Store.ldInt σ IntKind.i64 (Ptr.add (some x1) 0)) fun x2 ↦ some (AV.int IntKind.i64 x2, σ) := by intros; kernel_rfl

theorem f38_eq : ∀ (Γ : Gam) (k : Nat) (σ : Store) (p0 : Ptr), evBody Try.prog Γ drawn k Try.f38 [AV.ptr p0] σ = if Option.isNone p0 = true then some (AV.int IntKind.i64 0, σ) else Option.bind p0 fun x1 ↦ Option.bind (Store.ldInt σ IntKind.i64 (Ptr.add (some x1) 3)) fun x2 ↦ some (AV.int IntKind.i64 x2, σ) := by intros; kernel_rfl

theorem f39_eq : ∀ (Γ : Gam) (k : Nat) (σ : Store) (p0 : Ptr) (i1 : Int),
  evBody Try.prog Γ drawn k Try.f39 [AV.ptr p0, AV.int IntKind.i64 i1] σ =
    Option.bind (Γ (Fun.fn 37) [AV.ptr p0] σ) fun x2 ↦ Option.bind (AV.asInt IntKind.i64 (Prod.fst x2)) fun x3 ↦ Option.bind (Γ (Fun.fn 40) [AV.ptr p0, AV.int IntKind.i64 i1] (Prod.snd x2)) fun x4 ↦ Option.bind (AV.asInt IntKind.i64 (Prod.fst x4)) fun x5 ↦ some (AV.int IntKind.i64 (IntKind.wrap IntKind.i64 (mx2 (Int.ofNat 0) (mn2 i1 x3) - x5)), Prod.snd x4) := by intros; kernel_rfl

theorem f40_eq : ∀ (Γ : Gam) (k : Nat) (σ : Store) (p0 : Ptr) (i1 : Int),
  evBody Try.prog Γ drawn k Try.f40 [AV.ptr p0, AV.int IntKind.i64 i1] σ =
    if Option.isNone p0 = true then some (AV.int IntKind.i64 0, σ)
    else
      if decide (i1 ≤ 0) = true then some (AV.int IntKind.i64 0, σ)
      else
        Option.bind p0 fun x2 ↦
          Option.bind (Store.ldInt σ IntKind.i64 (Ptr.add (some x2) 0)) fun x3 ↦
            if decide (x3 ≤ i1) = true then Option.bind p0 fun x4 ↦ Option.bind (Store.ldInt σ IntKind.i64 (Ptr.add (some x4) 3)) fun x5 ↦ some (AV.int IntKind.i64 x5, σ)
            else
              Option.bind p0 fun x6 ↦
                Option.bind (Store.ldSl σ (Ptr.add (some x6) 2)) fun x7 ↦
                  if 0 ≤ IntKind.wrap IntKind.i64 (Int.tdiv (IntKind.wrap IntKind.i64 (Int.tdiv i1 64)) 8) ∧ IntKind.wrap IntKind.i64 (Int.tdiv (IntKind.wrap IntKind.i64 (Int.tdiv i1 64)) 8) < (↑(Hdl.len x7) : Int) then
                    Option.bind (Store.ldInt σ IntKind.i64 (Hdl.idx x7 (IntKind.wrap IntKind.i64 (Int.tdiv (IntKind.wrap IntKind.i64 (Int.tdiv i1 64)) 8)) 1)) fun x8 ↦
                      Option.bind (loopF Try.prog Γ drawn k Try.f40 [1, 1, 1, 1, 1, 0, 1, 0] [7, 6, 5, 1, 0] ([AV.int IntKind.i64 (IntKind.wrap IntKind.i64 (IntKind.wrap IntKind.i64 (Int.tdiv (IntKind.wrap IntKind.i64 (Int.tdiv i1 64)) 8) * 8)), AV.int IntKind.i64 x8, AV.int IntKind.i64 (IntKind.wrap IntKind.i64 (Int.tdiv i1 64)), AV.int IntKind.i64 i1, AV.ptr p0], σ))
                        (contF Try.prog Γ drawn k Try.f40 [1, 1, 1, 1, 1, 0, 1, 0])
                  else none := by intros; kernel_rfl

theorem f40_L11111010 : ∀ (Γ : Gam) (k : Nat) (σ : Store) (i9 i10 i11 i12 : Int) (p13 : Ptr),
  stepF Try.prog Γ drawn k Try.f40 [1, 1, 1, 1, 1, 0, 1, 0] [7, 6, 5, 1, 0] ([AV.int IntKind.i64 i9, AV.int IntKind.i64 i10, AV.int IntKind.i64 i11, AV.int IntKind.i64 i12, AV.ptr p13], σ) =
    if decide (i9 < i11) = true then
      Option.bind p13 fun x14 ↦
        Option.bind (Store.ldSl σ (Ptr.add (some x14) 1)) fun x15 ↦
          if 0 ≤ i9 ∧ i9 < (↑(Hdl.len x15) : Int) then
            Option.bind (Store.ldInt σ IntKind.u64 (Hdl.idx x15 i9 1)) fun x16 ↦
              Option.bind (Γ (Fun.fn 53) [AV.int IntKind.u64 x16] σ) fun x17 ↦ Option.bind (AV.asInt IntKind.i64 (Prod.fst x17)) fun x18 ↦ some (Sum.inl ([AV.int IntKind.i64 (IntKind.wrap IntKind.i64 (i9 + 1)), AV.int IntKind.i64 (IntKind.wrap IntKind.i64 (i10 + x18)), AV.int IntKind.i64 i11, AV.int IntKind.i64 i12, AV.ptr p13], Prod.snd x17))
          else none
    else some (Sum.inr (AX.exit 0, [(6, AV.int IntKind.i64 i10), (5, AV.int IntKind.i64 i11), (1, AV.int IntKind.i64 i12), (0, AV.ptr p13)], σ)) := by intros; kernel_rfl

theorem f40_X11111010_1 : ∀ (Γ : Gam) (k : Nat) (σ : Store) (i19 i20 i21 : Int) (p22 : Ptr),
  contF Try.prog Γ drawn k Try.f40 [1, 1, 1, 1, 1, 0, 1, 0] (AX.exit 0, [(6, AV.int IntKind.i64 i19), (5, AV.int IntKind.i64 i20), (1, AV.int IntKind.i64 i21), (0, AV.ptr p22)], σ) =
    Option.bind p22 fun x23 ↦
      Option.bind (Store.ldSl σ (Ptr.add (some x23) 1)) fun x24 ↦
        if 0 ≤ i20 ∧ i20 < (↑(Hdl.len x24) : Int) then
          Option.bind (Store.ldInt σ IntKind.u64 (Hdl.idx x24 i20 1)) fun x25 ↦
            if 0 ≤ Int.tmod i21 64 then Option.bind (Γ (Fun.fn 53) [AV.int IntKind.u64 (bitOp BinOp.and IntKind.u64 x25 (IntKind.wrap IntKind.u64 (shlI IntKind.u64 1 (Int.tmod i21 64) - 1)))] σ) fun x26 ↦ Option.bind (AV.asInt IntKind.i64 (Prod.fst x26)) fun x27 ↦ some (AV.int IntKind.i64 (IntKind.wrap IntKind.i64 (i19 + x27)), Prod.snd x26) else none
        else none := by intros; kernel_rfl

theorem f46_eq : ∀ (Γ : Gam) (k : Nat) (σ : Store) (h0 : Hdl) (g1 : FuncId) (a2 c3 : List AV), evBody Try.prog Γ drawn k Try.f46 [AV.slice h0, AV.func g1 a2 c3] σ = Option.bind (loopF Try.prog Γ drawn k Try.f46 [1, 0, 1, 0] [8, 7, 1, 0] ([AV.int IntKind.i64 0, AV.int IntKind.i64 (↑(Hdl.len h0) : Int), AV.func g1 a2 c3, AV.slice h0], σ)) (contF Try.prog Γ drawn k Try.f46 [1, 0, 1, 0]) := by intros; kernel_rfl

theorem f46_L1010 : ∀ (Γ : Gam) (k : Nat) (σ : Store) (i4 i5 : Int) (g6 : FuncId) (a7 c8 : List AV) (h9 : Hdl),
  stepF Try.prog Γ drawn k Try.f46 [1, 0, 1, 0] [8, 7, 1, 0] ([AV.int IntKind.i64 i4, AV.int IntKind.i64 i5, AV.func g6 a7 c8, AV.slice h9], σ) =
    if decide (i4 < i5) = true then
      if 0 ≤ i4 ∧ i4 < (↑(Hdl.len h9) : Int) then
        Option.bind (Store.ldInt σ IntKind.i64 (Hdl.idx h9 i4 1)) fun x10 ↦
          Option.bind (Γ (Fun.fn g6) (a7 ++ [AV.int IntKind.i64 x10] ++ c8) σ) fun x11 ↦ Option.bind (AV.asBool (Prod.fst x11)) fun x12 ↦ if x12 = true then some (Sum.inr (AX.ret, [(4, AV.int IntKind.i64 i4)], Prod.snd x11)) else some (Sum.inl ([AV.int IntKind.i64 (IntKind.wrap IntKind.i64 (i4 + 1)), AV.int IntKind.i64 i5, AV.func g6 a7 c8, AV.slice h9], Prod.snd x11))
      else none
    else some (Sum.inr (AX.exit 0, [], σ)) := by intros; kernel_rfl

theorem f46_X1010_1 : ∀ (Γ : Gam) (k : Nat) (σ : Store) (i13 : Int), contF Try.prog Γ drawn k Try.f46 [1, 0, 1, 0] (AX.ret, [(4, AV.int IntKind.i64 i13)], σ) = some (AV.int IntKind.i64 i13, σ) := by intros; kernel_rfl

theorem f46_X1010_2 : ∀ (Γ : Gam) (k : Nat) (σ : Store), contF Try.prog Γ drawn k Try.f46 [1, 0, 1, 0] (AX.exit 0, [], σ) = some (AV.int IntKind.i64 (-1), σ) := by intros; kernel_rfl

theorem f47_eq : ∀ (Γ : Gam) (k : Nat) (σ : Store) (i0 : Int),
  evBody Try.prog Γ drawn k Try.f47 [AV.int IntKind.u64 i0] σ =
    if decide (4294967296 ≤ i0) = true then
      if decide (65536 ≤ shrI IntKind.u64 i0 32) = true then
        if decide (256 ≤ shrI IntKind.u64 (shrI IntKind.u64 i0 32) 16) = true then
          if 0 ≤ IntKind.wrap IntKind.u8 (shrI IntKind.u64 (shrI IntKind.u64 (shrI IntKind.u64 i0 32) 16) 8) then
            Option.bind
              (strAt
                len8tab
                (Int.toNat (IntKind.wrap IntKind.u8 (shrI IntKind.u64 (shrI IntKind.u64 (shrI IntKind.u64 i0 32) 16) 8))))
              fun x1 ↦ some (AV.int IntKind.i64 (IntKind.wrap IntKind.i64 (IntKind.wrap IntKind.i64 (IntKind.wrap IntKind.i64 (32 + 16) + 8) + IntKind.wrap IntKind.i64 x1)), σ)
          else none
        else
          if 0 ≤ IntKind.wrap IntKind.u8 (shrI IntKind.u64 (shrI IntKind.u64 i0 32) 16) then
            Option.bind
              (strAt
                len8tab
                (Int.toNat (IntKind.wrap IntKind.u8 (shrI IntKind.u64 (shrI IntKind.u64 i0 32) 16))))
              fun x2 ↦ some (AV.int IntKind.i64 (IntKind.wrap IntKind.i64 (IntKind.wrap IntKind.i64 (32 + 16) + IntKind.wrap IntKind.i64 x2)), σ)
          else none
      else
        if decide (256 ≤ shrI IntKind.u64 i0 32) = true then
          if 0 ≤ IntKind.wrap IntKind.u8 (shrI IntKind.u64 (shrI IntKind.u64 i0 32) 8) then
            Option.bind
              (strAt
                len8tab
                (Int.toNat (IntKind.wrap IntKind.u8 (shrI IntKind.u64 (shrI IntKind.u64 i0 32) 8))))
              fun x3 ↦ some (AV.int IntKind.i64 (IntKind.wrap IntKind.i64 (IntKind.wrap IntKind.i64 (32 + 8) + IntKind.wrap IntKind.i64 x3)), σ)
          else none
        else
          if 0 ≤ IntKind.wrap IntKind.u8 (shrI IntKind.u64 i0 32) then
            Option.bind
              (strAt
                len8tab
                (Int.toNat (IntKind.wrap IntKind.u8 (shrI IntKind.u64 i0 32))))
              fun x4 ↦ some (AV.int IntKind.i64 (IntKind.wrap IntKind.i64 (32 + IntKind.wrap IntKind.i64 x4)), σ)
          else none
    else
      if decide (65536 ≤ i0) = true then
        if decide (256 ≤ shrI IntKind.u64 i0 16) = true then
          if 0 ≤ IntKind.wrap IntKind.u8 (shrI IntKind.u64 (shrI IntKind.u64 i0 16) 8) then
            Option.bind
              (strAt
                len8tab
                (Int.toNat (IntKind.wrap IntKind.u8 (shrI IntKind.u64 (shrI IntKind.u64 i0 16) 8))))
              fun x5 ↦ some (AV.int IntKind.i64 (IntKind.wrap IntKind.i64 (IntKind.wrap IntKind.i64 (IntKind.wrap IntKind.i64 (0 + 16) + 8) + IntKind.wrap IntKind.i64 x5)), σ)
          else none
        else
          if 0 ≤ IntKind.wrap IntKind.u8 (shrI IntKind.u64 i0 16) then
            Option.bind
              (strAt
                len8tab
                (Int.toNat (IntKind.wrap IntKind.u8 (shrI IntKind.u64 i0 16))))
              fun x6 ↦ some (AV.int IntKind.i64 (IntKind.wrap IntKind.i64 (IntKind.wrap IntKind.i64 (0 + 16) + IntKind.wrap IntKind.i64 x6)), σ)
          else none
      else
        if decide (256 ≤ i0) = true then
          if 0 ≤ IntKind.wrap IntKind.u8 (shrI IntKind.u64 i0 8) then
            Option.bind
              (strAt
                len8tab
                (Int.toNat (IntKind.wrap IntKind.u8 (shrI IntKind.u64 i0 8))))
              fun x7 ↦ some (AV.int IntKind.i64 (IntKind.wrap IntKind.i64 (IntKind.wrap IntKind.i64 (0 + 8) + IntKind.wrap IntKind.i64 x7)), σ)
          else none
        else
          if 0 ≤ IntKind.wrap IntKind.u8 i0 then
            Option.bind
              (strAt
                len8tab
                (Int.toNat (IntKind.wrap IntKind.u8 i0)))
              fun x8 ↦ some (AV.int IntKind.i64 (IntKind.wrap IntKind.i64 (0 + IntKind.wrap IntKind.i64 x8)), σ)
          else none := by intros; kernel_rfl

theorem f48_eq : ∀ (Γ : Gam) (k : Nat) (σ : Store) (i0 i1 : Int), evBody Try.prog Γ drawn k Try.f48 [AV.int IntKind.i64 i0, AV.int IntKind.i64 i1] σ = some (AV.int IntKind.i64 (IntKind.wrap IntKind.i64 (Int.tdiv (IntKind.wrap IntKind.i64 (IntKind.wrap IntKind.i64 (i0 * i1) + 63)) 64)), σ) := by intros; kernel_rfl

theorem f49_eq : ∀ (Γ : Gam) (k : Nat) (σ : Store) (i0 : Int), evBody Try.prog Γ drawn k Try.f49 [AV.int IntKind.i64 i0] σ = if 0 ≤ IntKind.wrap IntKind.i64 (64 - i0) then some (AV.int IntKind.u64 (shrI IntKind.u64 18446744073709551615 (IntKind.wrap IntKind.i64 (64 - i0))), σ) else none := by intros; kernel_rfl

theorem f50_eq : ∀ (Γ : Gam) (k : Nat) (σ : Store) (p0 : Ptr), evBody Try.prog Γ drawn k Try.f50 [AV.ptr p0] σ = if Option.isNone p0 = true then some (AV.int IntKind.i64 0, σ) else Option.bind p0 fun x1 ↦ Option.bind (Store.ldInt σ IntKind.i64 (Ptr.add (some x1) 0)) fun x2 ↦ some (AV.int IntKind.i64 x2, σ) := by intros; kernel_rfl

theorem f51_eq : ∀ (Γ : Gam) (k : Nat) (σ : Store) (p0 : Ptr), evBody Try.prog Γ drawn k Try.f51 [AV.ptr p0] σ = if Option.isNone p0 = true then some (AV.int IntKind.i64 0, σ) else Option.bind p0 fun x1 ↦ Option.bind (Store.ldInt σ IntKind.i64 (Ptr.add (some x1) 1)) fun x2 ↦ some (AV.int IntKind.i64 x2, σ) := by intros; kernel_rfl

theorem f52_eq : ∀ (Γ : Gam) (k : Nat) (σ : Store) (p0 : Ptr), evBody Try.prog Γ drawn k Try.f52 [AV.ptr p0] σ = if Option.isNone p0 = true then some (AV.slice Hdl.nil, σ) else Option.bind p0 fun x1 ↦ Option.bind (Store.ldSl σ (Ptr.add (some x1) 2)) fun x2 ↦ Option.bind (Γ (Fun.fn 63) [AV.slice x2] σ) fun x3 ↦ Option.bind (AV.asSl (Prod.fst x3)) fun x4 ↦ some (AV.slice x4, Prod.snd x3) := by intros; kernel_rfl

theorem f53_eq : ∀ (Γ : Gam) (k : Nat) (σ : Store) (i0 : Int),
  evBody Try.prog Γ drawn k Try.f53 [AV.int IntKind.u64 i0] σ =
    some
      (AV.int IntKind.i64
          (bitOp BinOp.and IntKind.i64
            (IntKind.wrap IntKind.i64
              (IntKind.wrap IntKind.u64
                (IntKind.wrap IntKind.u64
                    (IntKind.wrap IntKind.u64
                        (bitOp BinOp.and IntKind.u64
                            (IntKind.wrap IntKind.u64
                              (shrI IntKind.u64
                                  (IntKind.wrap IntKind.u64
                                    (bitOp BinOp.and IntKind.u64 (shrI IntKind.u64 (IntKind.wrap IntKind.u64 (bitOp BinOp.and IntKind.u64 (shrI IntKind.u64 i0 1) 6148914691236517205 + bitOp BinOp.and IntKind.u64 i0 6148914691236517205)) 2) 3689348814741910323 +
                                      bitOp BinOp.and IntKind.u64 (IntKind.wrap IntKind.u64 (bitOp BinOp.and IntKind.u64 (shrI IntKind.u64 i0 1) 6148914691236517205 + bitOp BinOp.and IntKind.u64 i0 6148914691236517205)) 3689348814741910323))
                                  4 +
                                IntKind.wrap IntKind.u64
                                  (bitOp BinOp.and IntKind.u64 (shrI IntKind.u64 (IntKind.wrap IntKind.u64 (bitOp BinOp.and IntKind.u64 (shrI IntKind.u64 i0 1) 6148914691236517205 + bitOp BinOp.and IntKind.u64 i0 6148914691236517205)) 2) 3689348814741910323 +
                                    bitOp BinOp.and IntKind.u64 (IntKind.wrap IntKind.u64 (bitOp BinOp.and IntKind.u64 (shrI IntKind.u64 i0 1) 6148914691236517205 + bitOp BinOp.and IntKind.u64 i0 6148914691236517205)) 3689348814741910323)))
                            1085102592571150095 +
                          shrI IntKind.u64
                            (bitOp BinOp.and IntKind.u64
                              (IntKind.wrap IntKind.u64
                                (shrI IntKind.u64
                                    (IntKind.wrap IntKind.u64
                                      (bitOp BinOp.and IntKind.u64 (shrI IntKind.u64 (IntKind.wrap IntKind.u64 (bitOp BinOp.and IntKind.u64 (shrI IntKind.u64 i0 1) 6148914691236517205 + bitOp BinOp.and IntKind.u64 i0 6148914691236517205)) 2) 3689348814741910323 +
                                        bitOp BinOp.and IntKind.u64 (IntKind.wrap IntKind.u64 (bitOp BinOp.and IntKind.u64 (shrI IntKind.u64 i0 1) 6148914691236517205 + bitOp BinOp.and IntKind.u64 i0 6148914691236517205)) 3689348814741910323))
                                    4 +
                                  IntKind.wrap IntKind.u64
                                    (bitOp BinOp.and IntKind.u64 (shrI IntKind.u64 (IntKind.wrap IntKind.u64 (bitOp BinOp.and IntKind.u64 (shrI IntKind.u64 i0 1) 6148914691236517205 + bitOp BinOp.and IntKind.u64 i0 6148914691236517205)) 2) 3689348814741910323 +
                                      bitOp BinOp.and IntKind.u64 (IntKind.wrap IntKind.u64 (bitOp BinOp.and IntKind.u64 (shrI IntKind.u64 i0 1) 6148914691236517205 + bitOp BinOp.and IntKind.u64 i0 6148914691236517205)) 3689348814741910323)))
                              1085102592571150095)
                            8) +
                      shrI IntKind.u64
                        (IntKind.wrap IntKind.u64
                          (bitOp BinOp.and IntKind.u64
                              (IntKind.wrap IntKind.u64
                                (shrI IntKind.u64
                                    (IntKind.wrap IntKind.u64
                                      (bitOp BinOp.and IntKind.u64 (shrI IntKind.u64 (IntKind.wrap IntKind.u64 (bitOp BinOp.and IntKind.u64 (shrI IntKind.u64 i0 1) 6148914691236517205 + bitOp BinOp.and IntKind.u64 i0 6148914691236517205)) 2) 3689348814741910323 +
                                        bitOp BinOp.and IntKind.u64 (IntKind.wrap IntKind.u64 (bitOp BinOp.and IntKind.u64 (shrI IntKind.u64 i0 1) 6148914691236517205 + bitOp BinOp.and IntKind.u64 i0 6148914691236517205)) 3689348814741910323))
                                    4 +
                                  IntKind.wrap IntKind.u64
                                    (bitOp BinOp.and IntKind.u64 (shrI IntKind.u64 (IntKind.wrap IntKind.u64 (bitOp BinOp.and IntKind.u64 (shrI IntKind.u64 i0 1) 6148914691236517205 + bitOp BinOp.and IntKind.u64 i0 6148914691236517205)) 2) 3689348814741910323 +
                                      bitOp BinOp.and IntKind.u64 (IntKind.wrap IntKind.u64 (bitOp BinOp.and IntKind.u64 (shrI IntKind.u64 i0 1) 6148914691236517205 + bitOp BinOp.and IntKind.u64 i0 6148914691236517205)) 3689348814741910323)))
                              1085102592571150095 +
                            shrI IntKind.u64
                              (bitOp BinOp.and IntKind.u64
                                (IntKind.wrap IntKind.u64
                                  (shrI IntKind.u64
                                      (IntKind.wrap IntKind.u64
                                        (bitOp BinOp.and IntKind.u64 (shrI IntKind.u64 (IntKind.wrap IntKind.u64 (bitOp BinOp.and IntKind.u64 (shrI IntKind.u64 i0 1) 6148914691236517205 + bitOp BinOp.and IntKind.u64 i0 6148914691236517205)) 2) 3689348814741910323 +
                                          bitOp BinOp.and IntKind.u64 (IntKind.wrap IntKind.u64 (bitOp BinOp.and IntKind.u64 (shrI IntKind.u64 i0 1) 6148914691236517205 + bitOp BinOp.and IntKind.u64 i0 6148914691236517205)) 3689348814741910323))
                                      4 +
                                    IntKind.wrap IntKind.u64
                                      (bitOp BinOp.and IntKind.u64 (shrI IntKind.u64 (IntKind.wrap IntKind.u64 (bitOp BinOp.and IntKind.u64 (shrI IntKind.u64 i0 1) 6148914691236517205 + bitOp BinOp.and IntKind.u64 i0 6148914691236517205)) 2) 3689348814741910323 +
                                        bitOp BinOp.and IntKind.u64 (IntKind.wrap IntKind.u64 (bitOp BinOp.and IntKind.u64 (shrI IntKind.u64 i0 1) 6148914691236517205 + bitOp BinOp.and IntKind.u64 i0 6148914691236517205)) 3689348814741910323)))
                                1085102592571150095)
                              8))
                        16) +
                  shrI IntKind.u64
                    (IntKind.wrap IntKind.u64
                      (IntKind.wrap IntKind.u64
                          (bitOp BinOp.and IntKind.u64
                              (IntKind.wrap IntKind.u64
                                (shrI IntKind.u64
                                    (IntKind.wrap IntKind.u64
                                      (bitOp BinOp.and IntKind.u64 (shrI IntKind.u64 (IntKind.wrap IntKind.u64 (bitOp BinOp.and IntKind.u64 (shrI IntKind.u64 i0 1) 6148914691236517205 + bitOp BinOp.and IntKind.u64 i0 6148914691236517205)) 2) 3689348814741910323 +
                                        bitOp BinOp.and IntKind.u64 (IntKind.wrap IntKind.u64 (bitOp BinOp.and IntKind.u64 (shrI IntKind.u64 i0 1) 6148914691236517205 + bitOp BinOp.and IntKind.u64 i0 6148914691236517205)) 3689348814741910323))
                                    4 +
                                  IntKind.wrap IntKind.u64
                                    (bitOp BinOp.and IntKind.u64 (shrI IntKind.u64 (IntKind.wrap IntKind.u64 (bitOp BinOp.and IntKind.u64 (shrI IntKind.u64 i0 1) 6148914691236517205 + bitOp BinOp.and IntKind.u64 i0 6148914691236517205)) 2) 3689348814741910323 +
                                      bitOp BinOp.and IntKind.u64 (IntKind.wrap IntKind.u64 (bitOp BinOp.and IntKind.u64 (shrI IntKind.u64 i0 1) 6148914691236517205 + bitOp BinOp.and IntKind.u64 i0 6148914691236517205)) 3689348814741910323)))
                              1085102592571150095 +
                            shrI IntKind.u64
                              (bitOp BinOp.and IntKind.u64
                                (IntKind.wrap IntKind.u64
                                  (shrI IntKind.u64
                                      (IntKind.wrap IntKind.u64
                                        (bitOp BinOp.and IntKind.u64 (shrI IntKind.u64 (IntKind.wrap IntKind.u64 (bitOp BinOp.and IntKind.u64 (shrI IntKind.u64 i0 1) 6148914691236517205 + bitOp BinOp.and IntKind.u64 i0 6148914691236517205)) 2) 3689348814741910323 +
                                          bitOp BinOp.and IntKind.u64 (IntKind.wrap IntKind.u64 (bitOp BinOp.and IntKind.u64 (shrI IntKind.u64 i0 1) 6148914691236517205 + bitOp BinOp.and IntKind.u64 i0 6148914691236517205)) 3689348814741910323))
                                      4 +
                                    IntKind.wrap IntKind.u64
                                      (bitOp BinOp.and IntKind.u64 (shrI IntKind.u64 (IntKind.wrap IntKind.u64 (bitOp BinOp.and IntKind.u64 (shrI IntKind.u64 i0 1) 6148914691236517205 + bitOp BinOp.and IntKind.u64 i0 6148914691236517205)) 2) 3689348814741910323 +
                                        bitOp BinOp.and IntKind.u64 (IntKind.wrap IntKind.u64 (bitOp BinOp.and IntKind.u64 (shrI IntKind.u64 i0 1) 6148914691236517205 + bitOp BinOp.and IntKind.u64 i0 6148914691236517205)) 3689348814741910323)))
                                1085102592571150095)
                              8) +
                        shrI IntKind.u64
                          (IntKind.wrap IntKind.u64
                            (bitOp BinOp.and IntKind.u64
                                (IntKind.wrap IntKind.u64
                                  (shrI IntKind.u64
                                      (IntKind.wrap IntKind.u64
                                        (bitOp BinOp.and IntKind.u64 (shrI IntKind.u64 (IntKind.wrap IntKind.u64 (bitOp BinOp.and IntKind.u64 (shrI IntKind.u64 i0 1) 6148914691236517205 + bitOp BinOp.and IntKind.u64 i0 6148914691236517205)) 2) 3689348814741910323 +
                                          bitOp BinOp.and IntKind.u64 (IntKind.wrap IntKind.u64 (bitOp BinOp.and IntKind.u64 (shrI IntKind.u64 i0 1) 6148914691236517205 + bitOp BinOp.and IntKind.u64 i0 6148914691236517205)) 3689348814741910323))
                                      4 +
                                    IntKind.wrap IntKind.u64
                                      (bitOp BinOp.and IntKind.u64 (shrI IntKind.u64 (IntKind.wrap IntKind.u64 (bitOp BinOp.and IntKind.u64 (shrI IntKind.u64 i0 1) 6148914691236517205 + bitOp BinOp.and IntKind.u64 i0 6148914691236517205)) 2) 3689348814741910323 +
                                        bitOp BinOp.and IntKind.u64 (IntKind.wrap IntKind.u64 (bitOp BinOp.and IntKind.u64 (shrI IntKind.u64 i0 1) 6148914691236517205 + bitOp BinOp.and IntKind.u64 i0 6148914691236517205)) 3689348814741910323)))
                                1085102592571150095 +
                              shrI IntKind.u64
                                (bitOp BinOp.and IntKind.u64
                                  (IntKind.wrap IntKind.u64
                                    (shrI IntKind.u64
                                        (IntKind.wrap IntKind.u64
                                          (bitOp BinOp.and IntKind.u64 (shrI IntKind.u64 (IntKind.wrap IntKind.u64 (bitOp BinOp.and IntKind.u64 (shrI IntKind.u64 i0 1) 6148914691236517205 + bitOp BinOp.and IntKind.u64 i0 6148914691236517205)) 2) 3689348814741910323 +
                                            bitOp BinOp.and IntKind.u64 (IntKind.wrap IntKind.u64 (bitOp BinOp.and IntKind.u64 (shrI IntKind.u64 i0 1) 6148914691236517205 + bitOp BinOp.and IntKind.u64 i0 6148914691236517205)) 3689348814741910323))
                                        4 +
                                      IntKind.wrap IntKind.u64
                                        (bitOp BinOp.and IntKind.u64 (shrI IntKind.u64 (IntKind.wrap IntKind.u64 (bitOp BinOp.and IntKind.u64 (shrI IntKind.u64 i0 1) 6148914691236517205 + bitOp BinOp.and IntKind.u64 i0 6148914691236517205)) 2) 3689348814741910323 +
                                          bitOp BinOp.and IntKind.u64 (IntKind.wrap IntKind.u64 (bitOp BinOp.and IntKind.u64 (shrI IntKind.u64 i0 1) 6148914691236517205 + bitOp BinOp.and IntKind.u64 i0 6148914691236517205)) 3689348814741910323)))
                                  1085102592571150095)
                                8))
                          16))
                    32)))
            127),
        σ) := by intros; kernel_rfl

theorem f55_eq : ∀ (Γ : Gam) (k : Nat) (σ : Store) (p0 : Ptr) (i1 i2 i3 i4 i5 : Int),
  evBody Try.prog Γ drawn k Try.f55 [AV.iface 81 (AV.ptr p0), AV.iface 79 (AV.agg [AV.int IntKind.i64 i1, AV.int IntKind.i64 i2, AV.int IntKind.i64 i3, AV.int IntKind.i64 i4, AV.int IntKind.i64 i5])] σ =
    Option.bind (Γ (Fun.fn 108) [AV.ptr p0, AV.iface 79 (AV.agg [AV.int IntKind.i64 i1, AV.int IntKind.i64 i2, AV.int IntKind.i64 i3, AV.int IntKind.i64 i4, AV.int IntKind.i64 i5])] σ) fun x6 ↦
      Option.bind (Store.ldSl (Prod.snd x6) p0) fun x7 ↦ Option.bind (Γ (Fun.fn 102) [AV.slice x7] (Prod.snd x6)) fun x8 ↦ Option.bind (AV.asInt IntKind.i64 (Prod.fst x8)) fun x9 ↦ Option.bind (Γ (Fun.fn 64) [AV.iface 81 (AV.ptr p0), AV.int IntKind.i64 (IntKind.wrap IntKind.i64 (x9 - 1))] (Prod.snd x8)) fun x10 ↦ some (AV.tuple [], Prod.snd x10) := by intros; kernel_rfl

theorem f56_eq : ∀ (Γ : Gam) (k : Nat) (σ : Store) (p0 : Ptr) (i1 i2 : Int), evBody Try.prog Γ drawn k Try.f56 [AV.iface 81 (AV.ptr p0), AV.int IntKind.i64 i1, AV.int IntKind.i64 i2] σ = Option.bind (loopF Try.prog Γ drawn k Try.f56 [1, 1, 0, 0] [7, 2, 1, 0] ([AV.int IntKind.i64 i1, AV.int IntKind.i64 i2, AV.int IntKind.i64 i1, AV.iface 81 (AV.ptr p0)], σ)) (contF Try.prog Γ drawn k Try.f56 [1, 1, 0, 0]) := by intros; kernel_rfl

theorem f56_L1100 : ∀ (Γ : Gam) (k : Nat) (σ : Store) (i3 i4 i5 : Int) (p6 : Ptr),
  stepF Try.prog Γ drawn k Try.f56 [1, 1, 0, 0] [7, 2, 1, 0] ([AV.int IntKind.i64 i3, AV.int IntKind.i64 i4, AV.int IntKind.i64 i5, AV.iface 81 (AV.ptr p6)], σ) =
    if decide (i4 ≤ IntKind.wrap IntKind.i64 (IntKind.wrap IntKind.i64 (2 * i3) + 1)) = true then some (Sum.inr (AX.exit 0, [(7, AV.int IntKind.i64 i3), (1, AV.int IntKind.i64 i5)], σ))
    else
      if decide (IntKind.wrap IntKind.i64 (IntKind.wrap IntKind.i64 (2 * i3) + 1) < 0) = true then some (Sum.inr (AX.exit 0, [(7, AV.int IntKind.i64 i3), (1, AV.int IntKind.i64 i5)], σ))
      else
        if decide (IntKind.wrap IntKind.i64 (IntKind.wrap IntKind.i64 (IntKind.wrap IntKind.i64 (2 * i3) + 1) + 1) < i4) = true then
          Option.bind (Store.ldSl σ p6) fun x7 ↦
            Option.bind (Γ (Fun.fn 103) [AV.slice x7, AV.int IntKind.i64 (IntKind.wrap IntKind.i64 (IntKind.wrap IntKind.i64 (IntKind.wrap IntKind.i64 (2 * i3) + 1) + 1)), AV.int IntKind.i64 (IntKind.wrap IntKind.i64 (IntKind.wrap IntKind.i64 (2 * i3) + 1))] σ) fun x8 ↦
              Option.bind (AV.asBool (Prod.fst x8)) fun x9 ↦
                if x9 = true then
                  Option.bind (Store.ldSl (Prod.snd x8) p6) fun x10 ↦
                    Option.bind (Γ (Fun.fn 103) [AV.slice x10, AV.int IntKind.i64 (IntKind.wrap IntKind.i64 (IntKind.wrap IntKind.i64 (IntKind.wrap IntKind.i64 (2 * i3) + 1) + 1)), AV.int IntKind.i64 i3] (Prod.snd x8)) fun x11 ↦
                      Option.bind (AV.asBool (Prod.fst x11)) fun x12 ↦
                        if (!x12) = true then some (Sum.inr (AX.exit 0, [(7, AV.int IntKind.i64 i3), (1, AV.int IntKind.i64 i5)], Prod.snd x11))
                        else
                          Option.bind (Store.ldSl (Prod.snd x11) p6) fun x13 ↦
                            Option.bind (Γ (Fun.fn 104) [AV.slice x13, AV.int IntKind.i64 i3, AV.int IntKind.i64 (IntKind.wrap IntKind.i64 (IntKind.wrap IntKind.i64 (IntKind.wrap IntKind.i64 (2 * i3) + 1) + 1))] (Prod.snd x11)) fun x14 ↦
                              some (Sum.inl ([AV.int IntKind.i64 (IntKind.wrap IntKind.i64 (IntKind.wrap IntKind.i64 (IntKind.wrap IntKind.i64 (2 * i3) + 1) + 1)), AV.int IntKind.i64 i4, AV.int IntKind.i64 i5, AV.iface 81 (AV.ptr p6)], Prod.snd x14))
                else
                  Option.bind (Store.ldSl (Prod.snd x8) p6) fun x15 ↦
                    Option.bind (Γ (Fun.fn 103) [AV.slice x15, AV.int IntKind.i64 (IntKind.wrap IntKind.i64 (IntKind.wrap IntKind.i64 (2 * i3) + 1)), AV.int IntKind.i64 i3] (Prod.snd x8)) fun x16 ↦
                      Option.bind (AV.asBool (Prod.fst x16)) fun x17 ↦
                        if (!x17) = true then some (Sum.inr (AX.exit 0, [(7, AV.int IntKind.i64 i3), (1, AV.int IntKind.i64 i5)], Prod.snd x16))
                        else
                          Option.bind (Store.ldSl (Prod.snd x16) p6) fun x18 ↦
                            Option.bind (Γ (Fun.fn 104) [AV.slice x18, AV.int IntKind.i64 i3, AV.int IntKind.i64 (IntKind.wrap IntKind.i64 (IntKind.wrap IntKind.i64 (2 * i3) + 1))] (Prod.snd x16)) fun x19 ↦ some (Sum.inl ([AV.int IntKind.i64 (IntKind.wrap IntKind.i64 (IntKind.wrap IntKind.i64 (2 * i3) + 1)), AV.int IntKind.i64 i4, AV.int IntKind.i64 i5, AV.iface 81 (AV.ptr p6)], Prod.snd x19))
        else
          Option.bind (Store.ldSl σ p6) fun x20 ↦
            Option.bind (Γ (Fun.fn 103) [AV.slice x20, AV.int IntKind.i64 (IntKind.wrap IntKind.i64 (IntKind.wrap IntKind.i64 (2 * i3) + 1)), AV.int IntKind.i64 i3] σ) fun x21 ↦
              Option.bind (AV.asBool (Prod.fst x21)) fun x22 ↦
                if (!x22) = true then some (Sum.inr (AX.exit 0, [(7, AV.int IntKind.i64 i3), (1, AV.int IntKind.i64 i5)], Prod.snd x21))
                else
                  Option.bind (Store.ldSl (Prod.snd x21) p6) fun x23 ↦
                    Option.bind (Γ (Fun.fn 104) [AV.slice x23, AV.int IntKind.i64 i3, AV.int IntKind.i64 (IntKind.wrap IntKind.i64 (IntKind.wrap IntKind.i64 (2 * i3) + 1))] (Prod.snd x21)) fun x24 ↦ some (Sum.inl ([AV.int IntKind.i64 (IntKind.wrap IntKind.i64 (IntKind.wrap IntKind.i64 (2 * i3) + 1)), AV.int IntKind.i64 i4, AV.int IntKind.i64 i5, AV.iface 81 (AV.ptr p6)], Prod.snd x24)) := by intros; kernel_rfl

theorem f56_X1100_1 : ∀ (Γ : Gam) (k : Nat) (σ : Store) (i25 i26 : Int), contF Try.prog Γ drawn k Try.f56 [1, 1, 0, 0] (AX.exit 0, [(7, AV.int IntKind.i64 i25), (1, AV.int IntKind.i64 i26)], σ) = some (AV.bool (decide (i26 < i25)), σ) := by intros; kernel_rfl

theorem f57_eq : ∀ (Γ : Gam) (k : Nat) (σ : Store) (h0 : Hdl),
  evBody Try.prog Γ drawn k Try.f57 [AV.slice h0] σ = if Option.isNone (Hdl.a h0) = true then some (AV.slice Hdl.nil, σ) else Option.bind (Store.readSl (Store.push σ [] 1) h0 1) fun x1 ↦ Option.bind (Store.app (Store.push σ [] 1) { a := some (List.length (Store.objs σ), 0), len := 0, cap := some 0 } 1 8 x1 (Hdl.len h0)) fun x2 ↦ some (AV.slice (Prod.fst x2), Prod.snd x2) := by intros; kernel_rfl

theorem f63_eq : ∀ (Γ : Gam) (k : Nat) (σ : Store) (h0 : Hdl),
  evBody Try.prog Γ drawn k Try.f63 [AV.slice h0] σ = if Option.isNone (Hdl.a h0) = true then some (AV.slice Hdl.nil, σ) else Option.bind (Store.readSl (Store.push σ [] 1) h0 1) fun x1 ↦ Option.bind (Store.app (Store.push σ [] 1) { a := some (List.length (Store.objs σ), 0), len := 0, cap := some 0 } 1 8 x1 (Hdl.len h0)) fun x2 ↦ some (AV.slice (Prod.fst x2), Prod.snd x2) := by intros; kernel_rfl

theorem f64_eq : ∀ (Γ : Gam) (k : Nat) (σ : Store) (p0 : Ptr) (i1 : Int), evBody Try.prog Γ drawn k Try.f64 [AV.iface 81 (AV.ptr p0), AV.int IntKind.i64 i1] σ = Option.bind (loopF Try.prog Γ drawn k Try.f64 [0] [1, 0] ([AV.int IntKind.i64 i1, AV.iface 81 (AV.ptr p0)], σ)) (contF Try.prog Γ drawn k Try.f64 [0]) := by intros; kernel_rfl

theorem f64_L0 : ∀ (Γ : Gam) (k : Nat) (σ : Store) (i2 : Int) (p3 : Ptr),
  stepF Try.prog Γ drawn k Try.f64 [0] [1, 0] ([AV.int IntKind.i64 i2, AV.iface 81 (AV.ptr p3)], σ) =
    if decide (IntKind.wrap IntKind.i64 (Int.tdiv (IntKind.wrap IntKind.i64 (i2 - 1)) 2) = i2) = true then some (Sum.inr (AX.exit 0, [], σ))
    else
      Option.bind (Store.ldSl σ p3) fun x4 ↦
        Option.bind (Γ (Fun.fn 103) [AV.slice x4, AV.int IntKind.i64 i2, AV.int IntKind.i64 (IntKind.wrap IntKind.i64 (Int.tdiv (IntKind.wrap IntKind.i64 (i2 - 1)) 2))] σ) fun x5 ↦
          Option.bind (AV.asBool (Prod.fst x5)) fun x6 ↦
            if (!x6) = true then some (Sum.inr (AX.exit 0, [], Prod.snd x5))
            else
              Option.bind (Store.ldSl (Prod.snd x5) p3) fun x7 ↦
                Option.bind (Γ (Fun.fn 104) [AV.slice x7, AV.int IntKind.i64 (IntKind.wrap IntKind.i64 (Int.tdiv (IntKind.wrap IntKind.i64 (i2 - 1)) 2)), AV.int IntKind.i64 i2] (Prod.snd x5)) fun x8 ↦ some (Sum.inl ([AV.int IntKind.i64 (IntKind.wrap IntKind.i64 (Int.tdiv (IntKind.wrap IntKind.i64 (i2 - 1)) 2)), AV.iface 81 (AV.ptr p3)], Prod.snd x8)) := by intros; kernel_rfl

theorem f64_X0_1 : ∀ (Γ : Gam) (k : Nat) (σ : Store), contF Try.prog Γ drawn k Try.f64 [0] (AX.exit 0, [], σ) = some (AV.tuple [], σ) := by intros; kernel_rfl

theorem f83_eq : ∀ (Γ : Gam) (k : Nat) (σ : Store) (i0 : Int), evBody Try.prog Γ drawn k Try.f83 [AV.int IntKind.i64 i0] σ = some (AV.bool (decide (i0 ≠ i0)), σ) := by intros; kernel_rfl

theorem f102_eq : ∀ (Γ : Gam) (k : Nat) (σ : Store) (h0 : Hdl), evBody Try.prog Γ drawn k Try.f102 [AV.slice h0] σ = some (AV.int IntKind.i64 (↑(Hdl.len h0) : Int), σ) := by intros; kernel_rfl

theorem f103_eq : ∀ (Γ : Gam) (k : Nat) (σ : Store) (h0 : Hdl) (i1 i2 : Int),
  evBody Try.prog Γ drawn k Try.f103 [AV.slice h0, AV.int IntKind.i64 i1, AV.int IntKind.i64 i2] σ =
    if 0 ≤ i2 ∧ i2 < (↑(Hdl.len h0) : Int) then
      Option.bind (Hdl.idx h0 i2 5) fun x3 ↦
        Option.bind (Store.ldInt σ IntKind.i64 (Ptr.add (some x3) 4)) fun x4 ↦
          if 0 ≤ i2 ∧ i2 < (↑(Hdl.len h0) : Int) then
            Option.bind (Hdl.idx h0 i2 5) fun x5 ↦
              Option.bind (Store.ldInt σ IntKind.i64 (Ptr.add (some x5) 3)) fun x6 ↦
                if 0 ≤ i1 ∧ i1 < (↑(Hdl.len h0) : Int) then
                  Option.bind (Hdl.idx h0 i1 5) fun x7 ↦
                    Option.bind (Store.ldInt σ IntKind.i64 (Ptr.add (some x7) 4)) fun x8 ↦
                      if 0 ≤ i1 ∧ i1 < (↑(Hdl.len h0) : Int) then
                        Option.bind (Hdl.idx h0 i1 5) fun x9 ↦
                          Option.bind (Store.ldInt σ IntKind.i64 (Ptr.add (some x9) 3)) fun x10 ↦
                            Option.bind (callG Γ true (Fun.fn 106) [AV.int IntKind.i64 (IntKind.wrap IntKind.i64 (x4 - x6)), AV.int IntKind.i64 (IntKind.wrap IntKind.i64 (x8 - x10))] σ) fun x11 ↦
                              Option.bind (AV.asInt IntKind.i64 (Prod.fst x11)) fun x12 ↦
                                if 0 ≤ i1 ∧ i1 < (↑(Hdl.len h0) : Int) then
                                  Option.bind (Hdl.idx h0 i1 5) fun x13 ↦
                                    Option.bind (Store.ldInt (Prod.snd x11) IntKind.i64 (Ptr.add (some x13) 2)) fun x14 ↦
                                      if 0 ≤ i2 ∧ i2 < (↑(Hdl.len h0) : Int) then
                                        Option.bind (Hdl.idx h0 i2 5) fun x15 ↦
                                          Option.bind (Store.ldInt (Prod.snd x11) IntKind.i64 (Ptr.add (some x15) 2)) fun x16 ↦
                                            Option.bind (Γ (Fun.fn 106) [AV.int IntKind.i64 x14, AV.int IntKind.i64 x16] (Prod.snd x11)) fun x17 ↦
                                              Option.bind (AV.asInt IntKind.i64 (Prod.fst x17)) fun x18 ↦
                                                Option.bind (Γ (Fun.fn 105) [AV.slice { a := some (List.length (Store.objs (Prod.snd x17)), 0), len := 2, cap := some 2 }] (Store.push (Prod.snd x17) [AV.int IntKind.i64 x12, AV.int IntKind.i64 x18] 1)) fun x19 ↦ Option.bind (AV.asInt IntKind.i64 (Prod.fst x19)) fun x20 ↦ some (AV.bool (decide (x20 < 0)), Prod.snd x19)
                                      else none
                                else none
                      else none
                else none
          else none
    else none := by intros; kernel_rfl

theorem f104_eq : ∀ (Γ : Gam) (k : Nat) (σ : Store) (h0 : Hdl) (i1 i2 : Int),
  evBody Try.prog Γ drawn k Try.f104 [AV.slice h0, AV.int IntKind.i64 i1, AV.int IntKind.i64 i2] σ =
    if 0 ≤ i2 ∧ i2 < (↑(Hdl.len h0) : Int) then
      Option.bind (Store.ldInt σ IntKind.i64 (Ptr.add (Hdl.idx h0 i2 5) 0)) fun x3 ↦
        Option.bind (Store.ldInt σ IntKind.i64 (Ptr.add (Hdl.idx h0 i2 5) 1)) fun x4 ↦
          Option.bind (Store.ldInt σ IntKind.i64 (Ptr.add (Hdl.idx h0 i2 5) 2)) fun x5 ↦
            Option.bind (Store.ldInt σ IntKind.i64 (Ptr.add (Hdl.idx h0 i2 5) 3)) fun x6 ↦
              Option.bind (Store.ldInt σ IntKind.i64 (Ptr.add (Hdl.idx h0 i2 5) 4)) fun x7 ↦
                if 0 ≤ i1 ∧ i1 < (↑(Hdl.len h0) : Int) then
                  Option.bind (Store.ldInt σ IntKind.i64 (Ptr.add (Hdl.idx h0 i1 5) 0)) fun x8 ↦
                    Option.bind (Store.ldInt σ IntKind.i64 (Ptr.add (Hdl.idx h0 i1 5) 1)) fun x9 ↦
                      Option.bind (Store.ldInt σ IntKind.i64 (Ptr.add (Hdl.idx h0 i1 5) 2)) fun x10 ↦
                        Option.bind (Store.ldInt σ IntKind.i64 (Ptr.add (Hdl.idx h0 i1 5) 3)) fun x11 ↦
                          Option.bind (Store.ldInt σ IntKind.i64 (Ptr.add (Hdl.idx h0 i1 5) 4)) fun x12 ↦
                            if 0 ≤ i1 ∧ i1 < (↑(Hdl.len h0) : Int) then
                              Option.bind (Store.stL σ (Hdl.idx h0 i1 5) [AV.int IntKind.i64 x3, AV.int IntKind.i64 x4, AV.int IntKind.i64 x5, AV.int IntKind.i64 x6, AV.int IntKind.i64 x7] 0) fun x13 ↦
                                if 0 ≤ i2 ∧ i2 < (↑(Hdl.len h0) : Int) then Option.bind (Store.stL x13 (Hdl.idx h0 i2 5) [AV.int IntKind.i64 x8, AV.int IntKind.i64 x9, AV.int IntKind.i64 x10, AV.int IntKind.i64 x11, AV.int IntKind.i64 x12] 0) fun x14 ↦ some (AV.tuple [], x14) else none
                            else none
                else none
    else none := by intros; kernel_rfl

theorem f105_eq : ∀ (Γ : Gam) (k : Nat) (σ : Store) (h0 : Hdl), evBody Try.prog Γ drawn k Try.f105 [AV.slice h0] σ = Option.bind (loopF Try.prog Γ drawn k Try.f105 [1, 1, 0, 1, 0] [8, 7, 6, 3] ([AV.int IntKind.i64 0, AV.int IntKind.i64 (↑(Hdl.len h0) : Int), AV.slice h0, AV.int IntKind.i64 0], σ)) (contF Try.prog Γ drawn k Try.f105 [1, 1, 0, 1, 0]) := by intros; kernel_rfl

theorem f105_L11010 : ∀ (Γ : Gam) (k : Nat) (σ : Store) (i1 i2 : Int) (h3 : Hdl) (i4 : Int),
  stepF Try.prog Γ drawn k Try.f105 [1, 1, 0, 1, 0] [8, 7, 6, 3] ([AV.int IntKind.i64 i1, AV.int IntKind.i64 i2, AV.slice h3, AV.int IntKind.i64 i4], σ) =
    if decide (i1 < i2) = true then if 0 ≤ i1 ∧ i1 < (↑(Hdl.len h3) : Int) then Option.bind (Store.ldInt σ IntKind.i64 (Hdl.idx h3 i1 1)) fun x5 ↦ if decide (x5 ≠ i4) = true then some (Sum.inr (AX.ret, [(2, AV.int IntKind.i64 x5)], σ)) else some (Sum.inl ([AV.int IntKind.i64 (IntKind.wrap IntKind.i64 (i1 + 1)), AV.int IntKind.i64 i2, AV.slice h3, AV.int IntKind.i64 i4], σ)) else none
    else some (Sum.inr (AX.exit 0, [(3, AV.int IntKind.i64 i4)], σ)) := by intros; kernel_rfl

theorem f105_X11010_1 : ∀ (Γ : Gam) (k : Nat) (σ : Store) (i6 : Int), contF Try.prog Γ drawn k Try.f105 [1, 1, 0, 1, 0] (AX.ret, [(2, AV.int IntKind.i64 i6)], σ) = some (AV.int IntKind.i64 i6, σ) := by intros; kernel_rfl

theorem f105_X11010_2 : ∀ (Γ : Gam) (k : Nat) (σ : Store) (i7 : Int), contF Try.prog Γ drawn k Try.f105 [1, 1, 0, 1, 0] (AX.exit 0, [(3, AV.int IntKind.i64 i7)], σ) = some (AV.int IntKind.i64 i7, σ) := by intros; kernel_rfl

theorem f106_eq : ∀ (Γ : Gam) (k : Nat) (σ : Store) (i0 i1 : Int),
  evBody Try.prog Γ drawn k Try.f106 [AV.int IntKind.i64 i0, AV.int IntKind.i64 i1] σ =
    Option.bind (Γ (Fun.fn 83) [AV.int IntKind.i64 i0] σ) fun x2 ↦
      Option.bind (AV.asBool (Prod.fst x2)) fun x3 ↦
        Option.bind (Γ (Fun.fn 83) [AV.int IntKind.i64 i1] (Prod.snd x2)) fun x4 ↦
          Option.bind (AV.asBool (Prod.fst x4)) fun x5 ↦
            if x3 = true then if x5 = true then some (AV.int IntKind.i64 0, Prod.snd x4) else some (AV.int IntKind.i64 (-1), Prod.snd x4)
            else if x5 = true then some (AV.int IntKind.i64 1, Prod.snd x4) else if decide (i0 < i1) = true then some (AV.int IntKind.i64 (-1), Prod.snd x4) else if decide (i1 < i0) = true then some (AV.int IntKind.i64 1, Prod.snd x4) else some (AV.int IntKind.i64 0, Prod.snd x4) := by intros; kernel_rfl

theorem f107_eq : ∀ (Γ : Gam) (k : Nat) (σ : Store) (p0 : Ptr),
  evBody Try.prog Γ drawn k Try.f107 [AV.ptr p0] σ =
    Option.bind p0 fun x1 ↦
      Option.bind (Store.ldSl σ (some x1)) fun x2 ↦
        Option.bind p0 fun x3 ↦
          Option.bind (Store.ldSl σ (some x3)) fun x4 ↦
            if 0 ≤ IntKind.wrap IntKind.i64 ((↑(Hdl.len x2) : Int) - 1) ∧ IntKind.wrap IntKind.i64 ((↑(Hdl.len x2) : Int) - 1) < (↑(Hdl.len x4) : Int) then
              Option.bind (Store.ldInt σ IntKind.i64 (Ptr.add (Hdl.idx x4 (IntKind.wrap IntKind.i64 ((↑(Hdl.len x2) : Int) - 1)) 5) 0)) fun x5 ↦
                Option.bind (Store.ldInt σ IntKind.i64 (Ptr.add (Hdl.idx x4 (IntKind.wrap IntKind.i64 ((↑(Hdl.len x2) : Int) - 1)) 5) 1)) fun x6 ↦
                  Option.bind (Store.ldInt σ IntKind.i64 (Ptr.add (Hdl.idx x4 (IntKind.wrap IntKind.i64 ((↑(Hdl.len x2) : Int) - 1)) 5) 2)) fun x7 ↦
                    Option.bind (Store.ldInt σ IntKind.i64 (Ptr.add (Hdl.idx x4 (IntKind.wrap IntKind.i64 ((↑(Hdl.len x2) : Int) - 1)) 5) 3)) fun x8 ↦
                      Option.bind (Store.ldInt σ IntKind.i64 (Ptr.add (Hdl.idx x4 (IntKind.wrap IntKind.i64 ((↑(Hdl.len x2) : Int) - 1)) 5) 4)) fun x9 ↦
                        Option.bind (Store.stL (Store.push σ [AV.int IntKind.i64 0, AV.int IntKind.i64 0, AV.int IntKind.i64 0, AV.int IntKind.i64 0, AV.int IntKind.i64 0] 5) (some (List.length (Store.objs σ), 0)) [AV.int IntKind.i64 x5, AV.int IntKind.i64 x6, AV.int IntKind.i64 x7, AV.int IntKind.i64 x8, AV.int IntKind.i64 x9] 0) fun x10 ↦
                          Option.bind p0 fun x11 ↦
                            Option.bind (Store.ldSl x10 (some x11)) fun x12 ↦
                              Option.bind (Store.sub x10 x12 5 none (some (IntKind.wrap IntKind.i64 ((↑(Hdl.len x2) : Int) - 1))) none) fun x13 ↦
                                Option.bind p0 fun x14 ↦
                                  Option.bind (Store.stL x10 (some x14) [AV.slice x13] 0) fun x15 ↦
                                    Option.bind (Store.ldInt x15 IntKind.i64 (Ptr.add (some (List.length (Store.objs σ), 0)) 0)) fun x16 ↦
                                      Option.bind (Store.ldInt x15 IntKind.i64 (Ptr.add (some (List.length (Store.objs σ), 0)) 1)) fun x17 ↦
                                        Option.bind (Store.ldInt x15 IntKind.i64 (Ptr.add (some (List.length (Store.objs σ), 0)) 2)) fun x18 ↦
                                          Option.bind (Store.ldInt x15 IntKind.i64 (Ptr.add (some (List.length (Store.objs σ), 0)) 3)) fun x19 ↦
                                            Option.bind (Store.ldInt x15 IntKind.i64 (Ptr.add (some (List.length (Store.objs σ), 0)) 4)) fun x20 ↦ some (AV.iface 79 (AV.agg [AV.int IntKind.i64 x16, AV.int IntKind.i64 x17, AV.int IntKind.i64 x18, AV.int IntKind.i64 x19, AV.int IntKind.i64 x20]), x15)
            else none := by intros; kernel_rfl

theorem f108_eq : ∀ (Γ : Gam) (k : Nat) (σ : Store) (p0 : Ptr) (i1 i2 i3 i4 i5 : Int),
  evBody Try.prog Γ drawn k Try.f108 [AV.ptr p0, AV.iface 79 (AV.agg [AV.int IntKind.i64 i1, AV.int IntKind.i64 i2, AV.int IntKind.i64 i3, AV.int IntKind.i64 i4, AV.int IntKind.i64 i5])] σ =
    Option.bind p0 fun x6 ↦
      Option.bind (Store.ldSl σ (some x6)) fun x7 ↦
        Option.bind
          (if List.length (AV.cells (if false = true then AV.tuple [AV.agg [AV.int IntKind.i64 i1, AV.int IntKind.i64 i2, AV.int IntKind.i64 i3, AV.int IntKind.i64 i4, AV.int IntKind.i64 i5], AV.bool true] else AV.agg [AV.int IntKind.i64 i1, AV.int IntKind.i64 i2, AV.int IntKind.i64 i3, AV.int IntKind.i64 i4, AV.int IntKind.i64 i5])) = 5 ∧ 5 ≤ 5 then
            some ([] ++ AV.cells (if false = true then AV.tuple [AV.agg [AV.int IntKind.i64 i1, AV.int IntKind.i64 i2, AV.int IntKind.i64 i3, AV.int IntKind.i64 i4, AV.int IntKind.i64 i5], AV.bool true] else AV.agg [AV.int IntKind.i64 i1, AV.int IntKind.i64 i2, AV.int IntKind.i64 i3, AV.int IntKind.i64 i4, AV.int IntKind.i64 i5]))
          else none)
          fun x8 ↦ Option.bind (Store.readSl (Store.push σ x8 5) { a := some (List.length (Store.objs σ), 0), len := 1, cap := some 1 } 5) fun x9 ↦ Option.bind (Store.app (Store.push σ x8 5) x7 5 40 x9 1) fun x10 ↦ Option.bind p0 fun x11 ↦ Option.bind (Store.stL (Prod.snd x10) (some x11) [AV.slice (Prod.fst x10)] 0) fun x12 ↦ some (AV.tuple [], x12) := by intros; kernel_rfl

end Go.Ab


/- Induced sorting: from the order of the left places that of all. Plain Lean, no program. -/
namespace Go.Ab.Sai
open Go.Ab.Wd Go.Ab.Bs
set_option linter.unusedVariables false
set_option linter.unusedSimpArgs false

/-! ### buckets -/
/-- How many numbers are below c. -/
def hd (t : List Int) (c : Int) : Int := ((t.filter fun x => decide (x < c)).length : Int)
theorem hd_nonneg (t : List Int) (c : Int) : 0 ≤ hd t c := by unfold hd; omega
theorem hd_le (t : List Int) (c : Int) : hd t c ≤ t.length := by
  unfold hd
  have := List.length_filter_le (fun x => decide (x < c)) t
  omega
theorem hd_mono (t : List Int) {c d : Int} (h : c ≤ d) : hd t c ≤ hd t d := by
  induction t with
  | nil => simp [hd]
  | cons x t ih =>
    unfold hd at ih ⊢
    by_cases h1 : x < c
    · rw [List.filter_cons_of_pos (by simpa using h1), List.filter_cons_of_pos (by simp; omega)]
      simp only [List.length_cons]; omega
    · rw [List.filter_cons_of_neg (by simpa using h1)]
      by_cases h2 : x < d
      · rw [List.filter_cons_of_pos (by simpa using h2)]; simp only [List.length_cons]; omega
      · rw [List.filter_cons_of_neg (by simpa using h2)]; exact ih
theorem hd_zero {t : List Int} (h : ∀ x ∈ t, 0 ≤ x) : hd t 0 = 0 := by
  unfold hd
  rw [List.filter_eq_nil_iff.2 fun x hx => by have := h x hx; simp; omega]
  rfl
theorem hd_all {t : List Int} {k : Int} (h : ∀ x ∈ t, x < k) : hd t k = t.length := by
  unfold hd
  rw [List.filter_eq_self.2 fun x hx => by have := h x hx; simpa using this]
/-- The places of a number. -/
def of (t : List Int) (c : Int) : List Int := (places t.length).filter fun p => decide (rd t p = c)
theorem mem_of {t : List Int} {c p : Int} : p ∈ of t c ↔ (0 ≤ p ∧ p < t.length) ∧ rd t p = c := by
  unfold of
  rw [List.mem_filter, mem_places, decide_eq_true_iff]
theorem of_length (t : List Int) (c : Int) : ((of t c).length : Int) = hd t (c + 1) - hd t c := by
  have h1 : (of t c).length = (t.filter fun x => decide (x = c)).length := by
    have e : t = (places t.length).map (rd t) := by
      refine List.ext_getElem (by simp [places]) fun i h1 h2 => ?_
      simp only [places, List.getElem_map, List.getElem_range]
      exact (rd_getElem h1).symm
    unfold of
    conv => rhs; rw [e]
    rw [List.filter_map, List.length_map]
    rfl
  rw [h1]
  unfold hd
  induction t with
  | nil => simp
  | cons x t ih =>
    have ih' := ih (by
      have e : t = (places t.length).map (rd t) := by
        refine List.ext_getElem (by simp [places]) fun i h1 h2 => ?_
        simp only [places, List.getElem_map, List.getElem_range]
        exact (rd_getElem h1).symm
      unfold of
      conv => rhs; rw [e]
      rw [List.filter_map, List.length_map]
      rfl)
    rcases Int.lt_trichotomy x c with h | h | h
    · rw [List.filter_cons_of_neg (by simp; omega), List.filter_cons_of_pos (p := fun x => decide (x < c + 1)) (by simp; omega), List.filter_cons_of_pos (p := fun x => decide (x < c)) (by simpa using h)]
      simp only [List.length_cons]; omega
    · rw [List.filter_cons_of_pos (by simpa using h), List.filter_cons_of_pos (p := fun x => decide (x < c + 1)) (by simp; omega), List.filter_cons_of_neg (p := fun x => decide (x < c)) (by simp; omega)]
      simp only [List.length_cons]; omega
    · rw [List.filter_cons_of_neg (by simp; omega), List.filter_cons_of_neg (p := fun x => decide (x < c + 1)) (by simp; omega), List.filter_cons_of_neg (p := fun x => decide (x < c)) (by simp; omega)]
      exact ih'
theorem count_le {t l : List Int} {c : Int} (hn : l.Nodup) (h : ∀ p ∈ l, (0 ≤ p ∧ p < t.length) ∧ rd t p = c) : (l.length : Int) ≤ hd t (c + 1) - hd t c := by
  rw [← of_length]
  have := nodup_sub_len hn (m := of t c) fun p hp => mem_of.2 (h p hp)
  omega
theorem bucket_of (t : List Int) {j : Int} (j0 : 0 ≤ j) (h0 : ∀ x ∈ t, 0 ≤ x) (k : Nat) (h1 : j < hd t k) : ∃ c : Int, 0 ≤ c ∧ c < k ∧ hd t c ≤ j ∧ j < hd t (c + 1) := by
  induction k with
  | zero => have := hd_zero h0; rw [show ((0 : Nat) : Int) = 0 from rfl] at h1; omega
  | succ k ih =>
    by_cases h : j < hd t k
    · obtain ⟨c, c0, c1, c2, c3⟩ := ih h
      exact ⟨c, c0, by omega, c2, c3⟩
    · exact ⟨k, by omega, by omega, by omega, h1⟩
/-- What stands from a on, ahead of b. -/
def seg (l : List Int) (a b : Int) : List Int := (List.range (b - a).toNat).map fun i : Nat => rd l (a + i)
theorem seg_length (l : List Int) (a b : Int) : (seg l a b).length = (b - a).toNat := by simp [seg]
theorem mem_seg {l : List Int} {a b x : Int} : x ∈ seg l a b ↔ ∃ j : Int, a ≤ j ∧ j < b ∧ rd l j = x := by
  simp only [seg, List.mem_map, List.mem_range]
  constructor
  · rintro ⟨i, hi, rfl⟩; exact ⟨a + i, by omega, by omega, rfl⟩
  · rintro ⟨j, h0, h1, rfl⟩; exact ⟨(j - a).toNat, by omega, by rw [show a + ((j - a).toNat : Int) = j by omega]⟩
theorem seg_nodup {l : List Int} {a b : Int} (h : ∀ i j : Int, a ≤ i → i < j → j < b → rd l i ≠ rd l j) : (seg l a b).Nodup := by
  unfold seg List.Nodup
  rw [List.pairwise_map]
  have : (List.range (b - a).toNat).Pairwise (· < ·) := List.pairwise_lt_range
  refine this.imp_of_mem ?_
  intro i j hi hj hij
  rw [List.mem_range] at hi hj
  exact h _ _ (by omega) (by omega) (by omega)

/-! ### short places -/
/-- Is the place's suffix less than the next one's? -/
def S (short : List Bool) (p : Int) : Bool := rdOf false short p
structure Short (t : List Int) (short : List Bool) : Prop where
  len : short.length = t.length
  last : S short (t.length - 1) = false
  step : ∀ p : Int, 0 ≤ p → p + 1 < t.length → S short p = (decide (rd t p < rd t (p + 1)) || (decide (rd t p = rd t (p + 1)) && S short (p + 1)))
theorem Short.no {t : List Int} {short : List Bool} (h : Short t short) {p : Int} (p0 : 0 ≤ p) (p1 : p + 1 < t.length) (hs : S short p = false) : rd t (p + 1) < rd t p ∨ (rd t p = rd t (p + 1) ∧ S short (p + 1) = false) := by
  have := h.step p p0 p1
  rw [hs] at this
  simp at this
  by_cases c : rd t p = rd t (p + 1)
  · exact .inr ⟨c, this.2 c⟩
  · exact .inl (by omega)
/-- The first of its row of short ones. -/
def Lf (short : List Bool) (p : Int) : Prop := 0 < p ∧ S short p = true ∧ S short (p - 1) = false
def code (t : List Int) (short : List Bool) (p : Int) : Int := 2 * rd t p + if S short p = true then 1 else 0
theorem code_no {t : List Int} {short : List Bool} {p : Int} (h : S short p = false) : code t short p = 2 * rd t p := by unfold code; rw [h]; simp
theorem code_yes {t : List Int} {short : List Bool} {p : Int} (h : S short p = true) : code t short p = 2 * rd t p + 1 := by unfold code; rw [h]; simp
/-- Two orders of places, told by lists: A of the long and the left ones, B of all. -/
structure Keys (t : List Int) (short : List Bool) (A B : Int → List Int) : Prop where
  An : A t.length = []
  AL : ∀ p : Int, 0 ≤ p → p < t.length → S short p = false → A p = code t short p :: A (p + 1)
  AM : ∀ p : Int, 0 ≤ p → p < t.length → Lf short p → ∃ r, A p = code t short p :: r
  BL : ∀ p : Int, 0 ≤ p → p < t.length → S short p = false → B p = A p
  BS : ∀ p : Int, 0 ≤ p → p < t.length → S short p = true → B p = code t short p :: B (p + 1)
def le (a b : List Int) : Prop := ¬ llt b a
theorem le_refl (a : List Int) : le a a := llt_irrefl a
theorem le_trans {a b c : List Int} (h : le a b) (k : le b c) : le a c := by
  intro hca
  rcases llt_tri a b with h1 | h1 | h1
  · exact k (llt_trans hca h1)
  · rw [← h1] at k; exact k hca
  · exact h h1
theorem le_cons {x : Int} {a b : List Int} (h : le a b) : le (x :: a) (x :: b) := by unfold le at h ⊢; simp only [llt]; rintro (h1 | ⟨_, h1⟩); omega; exact h h1
theorem le_head {x y : Int} {a b : List Int} (h : x < y) : le (x :: a) (y :: b) := by unfold le; simp only [llt]; rintro (h1 | ⟨h1, _⟩) <;> omega
theorem le_of_llt {a b : List Int} (h : llt a b) : le a b := llt_asymm h
theorem le_total (a b : List Int) : le a b ∨ le b a := by
  rcases llt_tri a b with h | h | h
  · exact .inl (le_of_llt h)
  · rw [h]; exact .inl (le_refl b)
  · exact .inr (le_of_llt h)
end Go.Ab.Sai


/- Induced sorting: the three passes. Plain Lean, no program. -/
namespace Go.Ab.Sai
open Go.Ab.Wd Go.Ab.Bs
set_option linter.unusedVariables false
set_option linter.unusedSimpArgs false

/-! ### what the program does -/
abbrev St := List Int × List Int
/-- A place put at the end of its bucket, and the end moved down. -/
def down (t : List Int) (st : St) (p : Int) : Option St :=
  if 0 ≤ p ∧ p < t.length ∧ 0 ≤ rd t p ∧ rd t p < st.2.length ∧ 0 ≤ rd st.2 (rd t p) - 1 ∧ rd st.2 (rd t p) - 1 < st.1.length then
    some (st.1.set (rd st.2 (rd t p) - 1).toNat p, st.2.set (rd t p).toNat (rd st.2 (rd t p) - 1)) else none
/-- A place put at the head of its bucket, and the head moved up. -/
def upw (t : List Int) (st : St) (p : Int) : Option St :=
  if 0 ≤ p ∧ p < t.length ∧ 0 ≤ rd t p ∧ rd t p < st.2.length ∧ 0 ≤ rd st.2 (rd t p) ∧ rd st.2 (rd t p) < st.1.length then
    some (st.1.set (rd st.2 (rd t p)).toNat p, st.2.set (rd t p).toNat (rd st.2 (rd t p) + 1)) else none
def put (t : List Int) (short : List Bool) (st : St) (p : Int) : Option St :=
  if 0 ≤ p then (if p < short.length then (if S short p = true then some st else upw t st p) else none) else some st
def heads (t : List Int) (k : Nat) : List Int := (List.range k).map fun c : Nat => hd t c
def tails (t : List Int) (k : Nat) : List Int := (List.range k).map fun c : Nat => hd t (c + 1)
theorem heads_length (t : List Int) (k : Nat) : (heads t k).length = k := by simp [heads]
theorem tails_length (t : List Int) (k : Nat) : (tails t k).length = k := by simp [tails]
theorem rd_heads (t : List Int) (k : Nat) {c : Int} (c0 : 0 ≤ c) (c1 : c < k) : rd (heads t k) c = hd t c := by
  obtain ⟨c, rfl⟩ := Int.eq_ofNat_of_zero_le c0
  rw [rd_getElem (by rw [heads_length]; omega)]
  simp [heads]
theorem rd_tails (t : List Int) (k : Nat) {c : Int} (c0 : 0 ≤ c) (c1 : c < k) : rd (tails t k) c = hd t (c + 1) := by
  obtain ⟨c, rfl⟩ := Int.eq_ofNat_of_zero_le c0
  rw [rd_getElem (by rw [tails_length]; omega)]
  simp [tails]

/-! ### the world of a list -/
structure Base (t : List Int) (short : List Bool) (k : Nat) (A B : Int → List Int) : Prop where
  pos : 0 < t.length
  rng : ∀ x ∈ t, 0 ≤ x ∧ x < k
  sh : Short t short
  keys : Keys t short A B
variable {t : List Int} {short : List Bool} {k : Nat} {A B : Int → List Int}
theorem Base.at_ (b : Base t short k A B) {p : Int} (p0 : 0 ≤ p) (p1 : p < t.length) : 0 ≤ rd t p ∧ rd t p < k := b.rng _ (rd_mem p0 p1)
theorem Base.bucket (b : Base t short k A B) {j : Int} (j0 : 0 ≤ j) (j1 : j < t.length) : ∃ c : Int, 0 ≤ c ∧ c < k ∧ hd t c ≤ j ∧ j < hd t (c + 1) :=
  bucket_of t j0 (fun x hx => (b.rng x hx).1) k (by rw [hd_all fun x hx => (b.rng x hx).2]; exact j1)
/-- Buckets lie one behind the other. -/
theorem hd_next (t : List Int) {c d : Int} (h : c < d) : hd t (c + 1) ≤ hd t d := hd_mono t (by omega)

/-! ### pass 1: the left places, from the last one on -/
/-- How many of some places have a number. -/
def cnt (t : List Int) (l : List Int) (c : Int) : Int := ((l.filter fun p => decide (rd t p = c)).length : Int)
theorem cnt_nonneg (t l : List Int) (c : Int) : 0 ≤ cnt t l c := by unfold cnt; omega
end Go.Ab.Sai


/- Induced sorting: pass 2. Plain Lean, no program. -/
namespace Go.Ab.Sai
open Go.Ab.Wd Go.Ab.Bs
set_option linter.unusedVariables false
set_option linter.unusedSimpArgs false
variable {t : List Int} {short : List Bool} {k : Nat} {A B : Int → List Int}

structure Q (t : List Int) (short : List Bool) (k : Nat) (A : Int → List Int) (l : List Int) (st : St) : Prop where
  l1 : st.1.length = t.length
  l2 : st.2.length = k
  hlo : ∀ c : Int, 0 ≤ c → c < k → hd t c ≤ rd st.2 c ∧ rd st.2 c ≤ hd t (c + 1) - cnt t l c
  low : ∀ c : Int, 0 ≤ c → c < k → ∀ j : Int, hd t c ≤ j → j < rd st.2 c → (0 ≤ rd st.1 j ∧ rd st.1 j < t.length) ∧ S short (rd st.1 j) = false ∧ rd t (rd st.1 j) = c
  seed : ∀ c : Int, 0 ≤ c → c < k → ∀ j : Int, hd t (c + 1) - cnt t l c ≤ j → j < hd t (c + 1) → rd st.1 j ∈ l ∧ rd t (rd st.1 j) = c
  there : ∀ p ∈ l, ∃ j : Int, 0 ≤ j ∧ j < t.length ∧ rd st.1 j = p
  free : ∀ c : Int, 0 ≤ c → c < k → ∀ j : Int, rd st.2 c ≤ j → j < hd t (c + 1) - cnt t l c → rd st.1 j = -1
  inj : ∀ i j : Int, 0 ≤ i → i < j → j < t.length → 0 ≤ rd st.1 i → rd st.1 i ≠ rd st.1 j
  ord : ∀ i j : Int, 0 ≤ i → i < j → j < t.length → 0 ≤ rd st.1 i → 0 ≤ rd st.1 j → le (A (rd st.1 i)) (A (rd st.1 j))
/-- The left places: all of them, each once. -/
structure Lefts (t : List Int) (short : List Bool) (l : List Int) : Prop where
  nd : l.Nodup
  mem : ∀ p : Int, p ∈ l ↔ (0 ≤ p ∧ p < t.length) ∧ Lf short p
/-- Where a place that stands in the array stands. -/
theorem Q.loc (b : Base t short k A B) {l : List Int} (hl : Lefts t short l) {st : St} (q : Q t short k A l st) {j : Int} (j0 : 0 ≤ j) (j1 : j < t.length) (hv : 0 ≤ rd st.1 j) :
    ∃ c : Int, 0 ≤ c ∧ c < k ∧ hd t c ≤ j ∧ j < hd t (c + 1) ∧ rd t (rd st.1 j) = c ∧ rd st.1 j < t.length ∧ ((S short (rd st.1 j) = false ∧ j < rd st.2 c) ∨ (rd st.1 j ∈ l ∧ rd st.2 c ≤ j ∧ S short (rd st.1 j) = true)) := by
  obtain ⟨c, c0, c1, h0, h1⟩ := b.bucket j0 j1
  have hh := q.hlo c c0 c1
  refine ⟨c, c0, c1, h0, h1, ?_⟩
  by_cases e1 : j < rd st.2 c
  · have := q.low c c0 c1 j h0 e1
    exact ⟨this.2.2, this.1.2, .inl ⟨this.2.1, e1⟩⟩
  by_cases e2 : j < hd t (c + 1) - cnt t l c
  · have := q.free c c0 c1 j (by omega) e2
    omega
  have := q.seed c c0 c1 j (by omega) h1
  have hm := (hl.mem _).1 this.1
  exact ⟨this.2, hm.1.2, .inr ⟨this.1, by omega, hm.2.2.1⟩⟩
theorem key_head (b : Base t short k A B) {l : List Int} (hl : Lefts t short l) {p : Int} (p0 : 0 ≤ p) (p1 : p < t.length) (h : S short p = false ∨ p ∈ l) : ∃ r, A p = code t short p :: r := by
  rcases h with h | h
  · exact ⟨_, b.keys.AL p p0 p1 h⟩
  · exact b.keys.AM p p0 p1 ((hl.mem p).1 h).2
/-- A long place that isn't there yet is put at its bucket's head. -/
theorem Q.add (b : Base t short k A B) {l : List Int} (hl : Lefts t short l) {st : St} (q : Q t short k A l st) {p : Int} (p0 : 0 ≤ p) (p1 : p < t.length) (hs : S short p = false)
    (hnew : ∀ j : Int, 0 ≤ j → j < t.length → rd st.1 j ≠ p)
    (hord : ∀ j : Int, 0 ≤ j → j < t.length → 0 ≤ rd st.1 j → S short (rd st.1 j) = false → rd t (rd st.1 j) = rd t p → le (A (rd st.1 j + 1)) (A (p + 1))) :
    ∃ J : Int, rd st.2 (rd t p) = J ∧ 0 ≤ J ∧ J < t.length ∧ rd st.1 J = -1 ∧ upw t st p = some (st.1.set J.toNat p, st.2.set (rd t p).toNat (J + 1)) ∧ Q t short k A l (st.1.set J.toNat p, st.2.set (rd t p).toNat (J + 1)) := by
  obtain ⟨c0, c1⟩ := b.at_ p0 p1
  obtain ⟨c, hc⟩ : ∃ c, rd t p = c := ⟨_, rfl⟩
  rw [hc] at c0 c1 ⊢
  obtain ⟨J, hJ⟩ : ∃ J, rd st.2 c = J := ⟨_, rfl⟩
  have hh := q.hlo c c0 c1
  rw [hJ] at hh
  have hn0 := hd_nonneg t c
  have hn1 := hd_le t (c + 1)
  have hcn := cnt_nonneg t l c
  -- there is room
  have hroom : J < hd t (c + 1) - cnt t l c := by
    have hcount := count_le (t := t) (c := c) (l := (seg st.1 (hd t c) J ++ seg st.1 (hd t (c + 1) - cnt t l c) (hd t (c + 1))) ++ [p]) ?_ ?_
    · simp only [List.length_append, seg_length, List.length_cons, List.length_nil] at hcount
      omega
    · refine List.nodup_append.2 ⟨List.nodup_append.2 ⟨seg_nodup fun i j i0 hij j1 => ?_, seg_nodup fun i j i0 hij j1 => ?_, ?_⟩, by simp, ?_⟩
      · exact q.inj i j (by omega) hij (by omega) (q.low c c0 c1 i i0 (by omega)).1.1
      · have := (hl.mem _).1 (q.seed c c0 c1 i i0 (by omega)).1
        exact q.inj i j (by omega) hij (by omega) this.1.1
      · intro x hx y hy e
        obtain ⟨i, i0, i1, rfl⟩ := mem_seg.1 hx
        obtain ⟨j, j0, j1, rfl⟩ := mem_seg.1 hy
        exact q.inj i j (by omega) (by omega) (by omega) (q.low c c0 c1 i i0 (by omega)).1.1 e
      · intro x hx y hy e
        rw [List.mem_singleton] at hy
        rw [hy] at e
        rcases List.mem_append.1 hx with hx | hx
        · obtain ⟨i, i0, i1, rfl⟩ := mem_seg.1 hx
          exact hnew i (by omega) (by omega) e
        · obtain ⟨i, i0, i1, rfl⟩ := mem_seg.1 hx
          exact hnew i (by omega) (by omega) e
    · intro x hx
      rcases List.mem_append.1 hx with hx | hx
      · rcases List.mem_append.1 hx with hx | hx
        · obtain ⟨i, i0, i1, rfl⟩ := mem_seg.1 hx
          have := q.low c c0 c1 i i0 (by omega)
          exact ⟨this.1, this.2.2⟩
        · obtain ⟨i, i0, i1, rfl⟩ := mem_seg.1 hx
          have := q.seed c c0 c1 i i0 (by omega)
          exact ⟨((hl.mem _).1 this.1).1, this.2⟩
      · rw [List.mem_singleton] at hx
        rw [hx]
        exact ⟨⟨p0, p1⟩, hc⟩
  have J0 : 0 ≤ J := by omega
  have J1 : J < t.length := by omega
  have hfree := q.free c c0 c1 J (by omega) hroom
  have hrd : ∀ j : Int, 0 ≤ j → rd (st.1.set J.toNat p) j = if J = j then p else rd st.1 j := fun j j0 => rd_set J0 (by rw [q.l1]; exact J1) j0
  have hrh : ∀ d : Int, 0 ≤ d → rd (st.2.set c.toNat (J + 1)) d = if c = d then J + 1 else rd st.2 d := fun d d0 => rd_set c0 (by rw [q.l2]; exact c1) d0
  have hbk : ∀ d : Int, c ≠ d → ∀ j : Int, hd t d ≤ j → j < hd t (d + 1) → J ≠ j := by
    intro d hne j j0 j1 e
    rcases Int.lt_trichotomy c d with hlt | hlt | hlt
    · have := hd_next t hlt; omega
    · exact hne hlt
    · have := hd_next t hlt; omega
  refine ⟨J, hJ, J0, J1, hfree, ?_, ?_⟩
  · unfold upw
    rw [hc, hJ, if_pos ⟨p0, p1, c0, by rw [q.l2]; exact c1, J0, by rw [q.l1]; exact J1⟩]
  -- the order with all others
  have hall : ∀ j : Int, 0 ≤ j → j < t.length → 0 ≤ rd st.1 j → (j < J → le (A (rd st.1 j)) (A p)) ∧ (J < j → le (A p) (A (rd st.1 j))) := by
    intro j j0 j1 hv
    obtain ⟨d, d0, d1, b0, b1, ht, hlt, hcase⟩ := q.loc b hl j0 j1 hv
    have hk1 := key_head b hl hv hlt (hcase.elim (fun h => .inl h.1) (fun h => .inr h.1))
    have hk2 := b.keys.AL p p0 p1 hs
    obtain ⟨r, hr⟩ := hk1
    have hcp := code_no (t := t) hs
    have hcj : 2 * d ≤ code t short (rd st.1 j) ∧ code t short (rd st.1 j) ≤ 2 * d + 1 := by
      unfold code; rw [ht]; split <;> omega
    constructor
    · intro hj
      rcases Int.lt_trichotomy d c with hdc | hdc | hdc
      · rw [hr, hk2]
        exact le_head (by rw [hcp, hc]; omega)
      · subst hdc
        rcases hcase with ⟨h1, h2⟩ | ⟨h1, h2, h3⟩
        · rw [b.keys.AL _ hv hlt h1, hk2, code_no h1, hcp, ht, hc]
          exact le_cons (hord j j0 j1 hv h1 (by rw [ht, hc]))
        · omega
      · have := hd_next t hdc
        omega
    · intro hj
      rcases Int.lt_trichotomy d c with hdc | hdc | hdc
      · have := hd_next t hdc
        omega
      · subst hdc
        rcases hcase with ⟨h1, h2⟩ | ⟨h1, h2, h3⟩
        · omega
        · rw [hr, hk2]
          exact le_head (by rw [hcp, hc, code_yes h3, ht]; omega)
      · rw [hr, hk2]
        exact le_head (by rw [hcp, hc]; omega)
  refine ⟨by simpa using q.l1, by simpa using q.l2, ?_, ?_, ?_, ?_, ?_, ?_, ?_⟩
  · intro d d0 d1
    show hd t d ≤ rd (st.2.set c.toNat (J + 1)) d ∧ _
    rw [hrh d d0]
    by_cases e : c = d
    · subst e; rw [if_pos rfl]; omega
    · rw [if_neg e]; exact q.hlo d d0 d1
  · intro d d0 d1 j j0 j1
    show (0 ≤ rd (st.1.set J.toNat p) j ∧ rd (st.1.set J.toNat p) j < t.length) ∧ S short (rd (st.1.set J.toNat p) j) = false ∧ rd t (rd (st.1.set J.toNat p) j) = d
    have hd0 := hd_nonneg t d
    rw [hrd j (by omega)]
    have j1' : j < rd (st.2.set c.toNat (J + 1)) d := j1
    rw [hrh d d0] at j1'
    by_cases ej : J = j
    · have e : c = d := by
        apply Classical.byContradiction
        intro hne
        rw [if_neg hne] at j1'
        have := q.hlo d d0 d1
        have := cnt_nonneg t l d
        exact hbk d hne j j0 (by omega) ej
      rw [if_pos ej]
      exact ⟨⟨p0, p1⟩, hs, by rw [hc, e]⟩
    · rw [if_neg ej]
      by_cases e : c = d
      · subst e; rw [if_pos rfl] at j1'; exact q.low c d0 d1 j j0 (by omega)
      · rw [if_neg e] at j1'; exact q.low d d0 d1 j j0 j1'
  · intro d d0 d1 j j0 j1
    show rd (st.1.set J.toNat p) j ∈ l ∧ rd t (rd (st.1.set J.toNat p) j) = d
    have hh2 := q.hlo d d0 d1
    have hd0 := hd_nonneg t d
    rw [hrd j (by omega), if_neg ?_]
    · exact q.seed d d0 d1 j j0 j1
    · intro e
      by_cases ed : c = d
      · subst ed; omega
      · exact hbk d ed j (by omega) j1 e
  · intro x hx
    obtain ⟨j, j0, j1, e⟩ := q.there x hx
    refine ⟨j, j0, j1, ?_⟩
    show rd (st.1.set J.toNat p) j = x
    rw [hrd j j0, if_neg ?_]
    · exact e
    · intro e'
      have := ((hl.mem x).1 hx).1
      rw [← e', hfree] at e
      omega
  · intro d d0 d1 j j0 j1
    show rd (st.1.set J.toNat p) j = -1
    have j0' : rd (st.2.set c.toNat (J + 1)) d ≤ j := j0
    rw [hrh d d0] at j0'
    have hh2 := q.hlo d d0 d1
    have hd0 := hd_nonneg t d
    have hcd := cnt_nonneg t l d
    by_cases e : c = d
    · subst e
      rw [if_pos rfl] at j0'
      rw [hrd j (by omega), if_neg (by omega)]
      exact q.free c d0 d1 j (by omega) j1
    · rw [if_neg e] at j0'
      rw [hrd j (by omega), if_neg fun e' => hbk d e j (by omega) (by omega) e']
      exact q.free d d0 d1 j j0' j1
  · intro i j i0 hij j1 hv
    show rd (st.1.set J.toNat p) i ≠ rd (st.1.set J.toNat p) j
    have hv' : 0 ≤ rd (st.1.set J.toNat p) i := hv
    rw [hrd i i0] at hv' ⊢
    rw [hrd j (by omega)]
    by_cases e1 : J = i
    · rw [if_pos e1, if_neg (by omega)]
      exact fun e => hnew j (by omega) j1 e.symm
    · rw [if_neg e1] at hv' ⊢
      by_cases e2 : J = j
      · rw [if_pos e2]
        exact hnew i i0 (by omega)
      · rw [if_neg e2]
        exact q.inj i j i0 hij j1 hv'
  · intro i j i0 hij j1 hv hw
    show le (A (rd (st.1.set J.toNat p) i)) (A (rd (st.1.set J.toNat p) j))
    have hv' : 0 ≤ rd (st.1.set J.toNat p) i := hv
    have hw' : 0 ≤ rd (st.1.set J.toNat p) j := hw
    rw [hrd i i0] at hv' ⊢
    rw [hrd j (by omega)] at hw' ⊢
    by_cases e1 : J = i
    · rw [if_neg (show ¬ J = j by omega)] at hw' ⊢
      rw [if_pos e1]
      exact (hall j (by omega) j1 hw').2 (by omega)
    · rw [if_neg e1] at hv' ⊢
      by_cases e2 : J = j
      · rw [if_pos e2]
        exact (hall i i0 (by omega) hv').1 (by omega)
      · rw [if_neg e2] at hw' ⊢
        exact q.ord i j i0 hij j1 hv' hw'
/-- The long places that are there: the last one, and those ahead of what has been looked at. -/
def From (t : List Int) (short : List Bool) (i : Int) (st : St) : Prop :=
  ∀ p : Int, 0 ≤ p → p < t.length → S short p = false → ((∃ j : Int, 0 ≤ j ∧ j < t.length ∧ rd st.1 j = p) ↔ (p = t.length - 1 ∨ ∃ j : Int, 0 ≤ j ∧ j < i ∧ rd st.1 j = p + 1))
end Go.Ab.Sai


/- Induced sorting: pass 3, and the whole. Plain Lean, no program. -/
namespace Go.Ab.Sai
open Go.Ab.Wd Go.Ab.Bs
set_option linter.unusedVariables false
set_option linter.unusedSimpArgs false
variable {t : List Int} {short : List Bool} {k : Nat} {A B : Int → List Int}

/-- The long places, at their buckets' heads: up to H c. -/
structure Long (t : List Int) (short : List Bool) (k : Nat) (B : Int → List Int) (H : Int → Int) (sa : List Int) : Prop where
  l1 : sa.length = t.length
  hlo : ∀ c : Int, 0 ≤ c → c < k → hd t c ≤ H c ∧ H c ≤ hd t (c + 1)
  low : ∀ c : Int, 0 ≤ c → c < k → ∀ j : Int, hd t c ≤ j → j < H c → (0 ≤ rd sa j ∧ rd sa j < t.length) ∧ S short (rd sa j) = false ∧ rd t (rd sa j) = c
  all : ∀ p : Int, 0 ≤ p → p < t.length → S short p = false → ∃ j : Int, hd t (rd t p) ≤ j ∧ j < H (rd t p) ∧ rd sa j = p
  inj : ∀ c : Int, 0 ≤ c → c < k → ∀ i j : Int, hd t c ≤ i → i < j → j < H c → rd sa i ≠ rd sa j
  ord : ∀ c : Int, 0 ≤ c → c < k → ∀ i j : Int, hd t c ≤ i → i < j → j < H c → le (B (rd sa i)) (B (rd sa j))
/-- What stands where it will stay: the long ones, and the short ones that have been put. -/
def Fin (t : List Int) (k : Nat) (H : Int → Int) (st : St) (j : Int) : Prop := ∃ c : Int, 0 ≤ c ∧ c < k ∧ ((hd t c ≤ j ∧ j < H c) ∨ (rd st.2 c ≤ j ∧ j < hd t (c + 1)))
structure R (t : List Int) (short : List Bool) (k : Nat) (B : Int → List Int) (H : Int → Int) (st : St) : Prop where
  long : Long t short k B H st.1
  l2 : st.2.length = k
  hlo : ∀ c : Int, 0 ≤ c → c < k → H c ≤ rd st.2 c ∧ rd st.2 c ≤ hd t (c + 1)
  high : ∀ c : Int, 0 ≤ c → c < k → ∀ j : Int, rd st.2 c ≤ j → j < hd t (c + 1) → (0 ≤ rd st.1 j ∧ rd st.1 j < t.length) ∧ S short (rd st.1 j) = true ∧ rd t (rd st.1 j) = c
  inj : ∀ i j : Int, i < j → Fin t k H st i → Fin t k H st j → rd st.1 i ≠ rd st.1 j
  ord : ∀ i j : Int, i < j → Fin t k H st i → Fin t k H st j → le (B (rd st.1 i)) (B (rd st.1 j))
theorem R.loc (b : Base t short k A B) {H : Int → Int} {st : St} (r : R t short k B H st) {j : Int} (hf : Fin t k H st j) :
    ∃ c : Int, 0 ≤ c ∧ c < k ∧ hd t c ≤ j ∧ j < hd t (c + 1) ∧ rd t (rd st.1 j) = c ∧ (0 ≤ rd st.1 j ∧ rd st.1 j < t.length) ∧ ((S short (rd st.1 j) = false ∧ j < H c) ∨ (S short (rd st.1 j) = true ∧ rd st.2 c ≤ j)) := by
  obtain ⟨c, c0, c1, h | h⟩ := hf
  · have h1 := r.long.low c c0 c1 j h.1 h.2
    have h2 := r.long.hlo c c0 c1
    exact ⟨c, c0, c1, h.1, by omega, h1.2.2, h1.1, .inl ⟨h1.2.1, h.2⟩⟩
  · have h1 := r.high c c0 c1 j h.1 h.2
    have h2 := r.long.hlo c c0 c1
    have h3 := r.hlo c c0 c1
    exact ⟨c, c0, c1, by omega, h.2, h1.2.2, h1.1, .inr ⟨h1.2.1, h.1⟩⟩
theorem Fin.rng {H : Int → Int} {st : St} (r : R t short k B H st) {j : Int} (hf : Fin t k H st j) : 0 ≤ j ∧ j < t.length := by
  obtain ⟨c, c0, c1, h⟩ := hf
  have h1 := r.long.hlo c c0 c1
  have h2 := r.hlo c c0 c1
  have h3 := hd_nonneg t c
  have h4 := hd_le t (c + 1)
  omega
/-- A short place that isn't there yet is put at its bucket's end. -/
theorem R.add (b : Base t short k A B) {H : Int → Int} {st : St} (r : R t short k B H st) {p : Int} (p0 : 0 ≤ p) (p1 : p < t.length) (hs : S short p = true)
    (hnew : ∀ j : Int, Fin t k H st j → rd st.1 j ≠ p)
    (hord : ∀ j : Int, Fin t k H st j → S short (rd st.1 j) = true → rd t (rd st.1 j) = rd t p → le (B (p + 1)) (B (rd st.1 j + 1))) :
    ∃ J : Int, rd st.2 (rd t p) - 1 = J ∧ 0 ≤ J ∧ J < t.length ∧ H (rd t p) ≤ J ∧ down t st p = some (st.1.set J.toNat p, st.2.set (rd t p).toNat J) ∧ R t short k B H (st.1.set J.toNat p, st.2.set (rd t p).toNat J) ∧
      (∀ j, Fin t k H (st.1.set J.toNat p, st.2.set (rd t p).toNat J) j ↔ j = J ∨ Fin t k H st j) := by
  obtain ⟨c0, c1⟩ := b.at_ p0 p1
  obtain ⟨c, hc⟩ : ∃ c, rd t p = c := ⟨_, rfl⟩
  rw [hc] at c0 c1 ⊢
  obtain ⟨J, hJ⟩ : ∃ J, rd st.2 c - 1 = J := ⟨_, rfl⟩
  have hh := r.hlo c c0 c1
  have hg := r.long.hlo c c0 c1
  have hn0 := hd_nonneg t c
  have hn1 := hd_le t (c + 1)
  have fin_lo : ∀ j, hd t c ≤ j → j < H c → Fin t k H st j := fun j h1 h2 => ⟨c, c0, c1, .inl ⟨h1, h2⟩⟩
  have fin_hi : ∀ j, rd st.2 c ≤ j → j < hd t (c + 1) → Fin t k H st j := fun j h1 h2 => ⟨c, c0, c1, .inr ⟨h1, h2⟩⟩
  have hroom : H c ≤ J := by
    have hcount := count_le (t := t) (c := c) (l := (seg st.1 (hd t c) (H c) ++ seg st.1 (rd st.2 c) (hd t (c + 1))) ++ [p]) ?_ ?_
    · simp only [List.length_append, seg_length, List.length_cons, List.length_nil] at hcount
      omega
    · refine List.nodup_append.2 ⟨List.nodup_append.2 ⟨seg_nodup fun i j i0 hij j1 => ?_, seg_nodup fun i j i0 hij j1 => ?_, ?_⟩, by simp, ?_⟩
      · exact r.inj i j hij (fin_lo i i0 (by omega)) (fin_lo j (by omega) j1)
      · exact r.inj i j hij (fin_hi i i0 (by omega)) (fin_hi j (by omega) j1)
      · intro x hx y hy e
        obtain ⟨i, i0, i1, rfl⟩ := mem_seg.1 hx
        obtain ⟨j, j0, j1, rfl⟩ := mem_seg.1 hy
        exact r.inj i j (by omega) (fin_lo i i0 i1) (fin_hi j j0 j1) e
      · intro x hx y hy e
        rw [List.mem_singleton] at hy
        rw [hy] at e
        rcases List.mem_append.1 hx with hx | hx
        · obtain ⟨i, i0, i1, rfl⟩ := mem_seg.1 hx
          exact hnew i (fin_lo i i0 i1) e
        · obtain ⟨i, i0, i1, rfl⟩ := mem_seg.1 hx
          exact hnew i (fin_hi i i0 i1) e
    · intro x hx
      rcases List.mem_append.1 hx with hx | hx
      · rcases List.mem_append.1 hx with hx | hx
        · obtain ⟨i, i0, i1, rfl⟩ := mem_seg.1 hx
          have := r.long.low c c0 c1 i i0 i1
          exact ⟨this.1, this.2.2⟩
        · obtain ⟨i, i0, i1, rfl⟩ := mem_seg.1 hx
          have := r.high c c0 c1 i i0 i1
          exact ⟨this.1, this.2.2⟩
      · rw [List.mem_singleton] at hx
        rw [hx]
        exact ⟨⟨p0, p1⟩, hc⟩
  have J0 : 0 ≤ J := by omega
  have J1 : J < t.length := by omega
  have hrd : ∀ j : Int, 0 ≤ j → rd (st.1.set J.toNat p) j = if J = j then p else rd st.1 j := fun j j0 => rd_set J0 (by rw [r.long.l1]; exact J1) j0
  have hrh : ∀ d : Int, 0 ≤ d → rd (st.2.set c.toNat J) d = if c = d then J else rd st.2 d := fun d d0 => rd_set c0 (by rw [r.l2]; exact c1) d0
  have hbk : ∀ d : Int, c ≠ d → ∀ j : Int, hd t d ≤ j → j < hd t (d + 1) → J ≠ j := by
    intro d hne j j0 j1 e
    rcases Int.lt_trichotomy c d with hlt | hlt | hlt
    · have := hd_next t hlt; omega
    · exact hne hlt
    · have := hd_next t hlt; omega
  have hfin : ∀ j, Fin t k H (st.1.set J.toNat p, st.2.set c.toNat J) j ↔ j = J ∨ Fin t k H st j := by
    intro j
    constructor
    · rintro ⟨d, d0, d1, h | ⟨h0, h1⟩⟩
      · exact .inr ⟨d, d0, d1, .inl h⟩
      · have h0' : rd (st.2.set c.toNat J) d ≤ j := h0
        rw [hrh d d0] at h0'
        by_cases e : c = d
        · subst e
          rw [if_pos rfl] at h0'
          by_cases ej : j = J
          · exact .inl ej
          · exact .inr ⟨c, d0, d1, .inr ⟨by omega, h1⟩⟩
        · rw [if_neg e] at h0'
          exact .inr ⟨d, d0, d1, .inr ⟨h0', h1⟩⟩
    · rintro (e | ⟨d, d0, d1, h | ⟨h0, h1⟩⟩)
      · exact ⟨c, c0, c1, .inr ⟨by show rd (st.2.set c.toNat J) c ≤ j; rw [hrh c c0, if_pos rfl]; omega, by omega⟩⟩
      · exact ⟨d, d0, d1, .inl h⟩
      · refine ⟨d, d0, d1, .inr ⟨?_, h1⟩⟩
        show rd (st.2.set c.toNat J) d ≤ j
        rw [hrh d d0]
        by_cases e : c = d
        · subst e; rw [if_pos rfl]; omega
        · rw [if_neg e]; exact h0
  have hJf : ¬ Fin t k H st J := by
    rintro ⟨d, d0, d1, h⟩
    have h1 := r.long.hlo d d0 d1
    have h2 := r.hlo d d0 d1
    by_cases e : c = d
    · subst e; omega
    · rcases h with h | h
      · exact hbk d e J h.1 (by omega) rfl
      · exact hbk d e J (by omega) h.2 rfl
  have hfj : ∀ j, Fin t k H st j → rd (st.1.set J.toNat p) j = rd st.1 j := by
    intro j hj
    rw [hrd j (hj.rng r).1, if_neg ?_]
    intro e; exact hJf (e ▸ hj)
  have hall : ∀ j : Int, Fin t k H st j → (j < J → le (B (rd st.1 j)) (B p)) ∧ (J < j → le (B p) (B (rd st.1 j))) := by
    intro j hj
    obtain ⟨d, d0, d1, b0, b1, ht, hrg, hcase⟩ := r.loc b hj
    have hk2 := b.keys.BS p p0 p1 hs
    have hcp := code_yes (t := t) hs
    have hkj : ∃ y, B (rd st.1 j) = code t short (rd st.1 j) :: y := by
      rcases hcase with ⟨h, _⟩ | ⟨h, _⟩
      · rw [b.keys.BL _ hrg.1 hrg.2 h]; exact ⟨_, b.keys.AL _ hrg.1 hrg.2 h⟩
      · exact ⟨_, b.keys.BS _ hrg.1 hrg.2 h⟩
    obtain ⟨y, hy⟩ := hkj
    have hcj : 2 * d ≤ code t short (rd st.1 j) ∧ code t short (rd st.1 j) ≤ 2 * d + 1 := by
      unfold code; rw [ht]; split <;> omega
    constructor
    · intro hlt
      rcases Int.lt_trichotomy d c with hdc | hdc | hdc
      · rw [hy, hk2]
        exact le_head (by rw [hcp, hc]; omega)
      · subst hdc
        rcases hcase with ⟨h1, h2⟩ | ⟨h1, h2⟩
        · rw [hy, hk2]
          exact le_head (by rw [hcp, hc, code_no h1, ht]; omega)
        · omega
      · have := hd_next t hdc
        omega
    · intro hlt
      rcases Int.lt_trichotomy d c with hdc | hdc | hdc
      · have := hd_next t hdc
        omega
      · subst hdc
        rcases hcase with ⟨h1, h2⟩ | ⟨h1, h2⟩
        · omega
        · rw [b.keys.BS _ hrg.1 hrg.2 h1, hk2, code_yes h1, hcp, ht, hc]
          exact le_cons (hord j hj h1 (by rw [ht, hc]))
      · rw [hy, hk2]
        exact le_head (by rw [hcp, hc]; omega)
  have hlow : ∀ d : Int, 0 ≤ d → d < k → ∀ j : Int, hd t d ≤ j → j < H d → rd (st.1.set J.toNat p) j = rd st.1 j := fun d d0 d1 j h0 h1 => hfj j ⟨d, d0, d1, .inl ⟨h0, h1⟩⟩
  refine ⟨J, hJ, J0, J1, hroom, ?_, ⟨⟨by simpa using r.long.l1, r.long.hlo, ?_, ?_, ?_, ?_⟩, by simpa using r.l2, ?_, ?_, ?_, ?_⟩, hfin⟩
  · unfold down
    rw [hc, hJ, if_pos ⟨p0, p1, c0, by rw [r.l2]; exact c1, J0, by rw [r.long.l1]; exact J1⟩]
  · intro d d0 d1 j j0 j1
    show (0 ≤ rd (st.1.set J.toNat p) j ∧ rd (st.1.set J.toNat p) j < t.length) ∧ S short (rd (st.1.set J.toNat p) j) = false ∧ rd t (rd (st.1.set J.toNat p) j) = d
    rw [hlow d d0 d1 j j0 j1]
    exact r.long.low d d0 d1 j j0 j1
  · intro x x0 x1 hx
    obtain ⟨j, j0, j1, e⟩ := r.long.all x x0 x1 hx
    have hb := b.at_ x0 x1
    exact ⟨j, j0, j1, by show rd (st.1.set J.toNat p) j = x; rw [hlow _ hb.1 hb.2 j j0 j1]; exact e⟩
  · intro d d0 d1 i j i0 hij j1
    show rd (st.1.set J.toNat p) i ≠ rd (st.1.set J.toNat p) j
    rw [hlow d d0 d1 i i0 (by omega), hlow d d0 d1 j (by omega) j1]
    exact r.long.inj d d0 d1 i j i0 hij j1
  · intro d d0 d1 i j i0 hij j1
    show le (B (rd (st.1.set J.toNat p) i)) (B (rd (st.1.set J.toNat p) j))
    rw [hlow d d0 d1 i i0 (by omega), hlow d d0 d1 j (by omega) j1]
    exact r.long.ord d d0 d1 i j i0 hij j1
  · intro d d0 d1
    show H d ≤ rd (st.2.set c.toNat J) d ∧ rd (st.2.set c.toNat J) d ≤ _
    rw [hrh d d0]
    by_cases e : c = d
    · subst e; rw [if_pos rfl]; omega
    · rw [if_neg e]; exact r.hlo d d0 d1
  · intro d d0 d1 j j0 j1
    show (0 ≤ rd (st.1.set J.toNat p) j ∧ rd (st.1.set J.toNat p) j < t.length) ∧ S short (rd (st.1.set J.toNat p) j) = true ∧ rd t (rd (st.1.set J.toNat p) j) = d
    rcases (hfin j).1 ⟨d, d0, d1, .inr ⟨j0, j1⟩⟩ with e | hf
    · have e' : c = d := by
        apply Classical.byContradiction
        intro hne
        have h2 := r.hlo d d0 d1
        have h3 := r.long.hlo d d0 d1
        have j0' : rd (st.2.set c.toNat J) d ≤ j := j0
        rw [hrh d d0, if_neg hne] at j0'
        exact hbk d hne j (by omega) j1 e.symm
      rw [e, hrd J J0, if_pos rfl]
      exact ⟨⟨p0, p1⟩, hs, by rw [hc, e']⟩
    · rw [hfj j hf]
      have j0' : rd (st.2.set c.toNat J) d ≤ j := j0
      rw [hrh d d0] at j0'
      by_cases e : c = d
      · subst e
        rw [if_pos rfl] at j0'
        have : j ≠ J := fun e => hJf (e ▸ hf)
        exact r.high c d0 d1 j (by omega) j1
      · rw [if_neg e] at j0'
        exact r.high d d0 d1 j j0' j1
  · intro i j hij hi hj
    show rd (st.1.set J.toNat p) i ≠ rd (st.1.set J.toNat p) j
    rcases (hfin i).1 hi with ei | fi
    · rcases (hfin j).1 hj with ej | fj
      · omega
      · rw [hfj j fj, ei, hrd J J0, if_pos rfl]
        exact fun e => hnew j fj e.symm
    · rcases (hfin j).1 hj with ej | fj
      · rw [hfj i fi, ej, hrd J J0, if_pos rfl]
        exact hnew i fi
      · rw [hfj i fi, hfj j fj]
        exact r.inj i j hij fi fj
  · intro i j hij hi hj
    show le (B (rd (st.1.set J.toNat p) i)) (B (rd (st.1.set J.toNat p) j))
    rcases (hfin i).1 hi with ei | fi
    · rcases (hfin j).1 hj with ej | fj
      · omega
      · rw [hfj j fj, ei, hrd J J0, if_pos rfl]
        exact (hall j fj).2 (by omega)
    · rcases (hfin j).1 hj with ej | fj
      · rw [hfj i fi, ej, hrd J J0, if_pos rfl]
        exact (hall i fi).1 (by omega)
      · rw [hfj i fi, hfj j fj]
        exact r.ord i j hij fi fj
end Go.Ab.Sai


/- Induced sorting: pieces, names, and the shorter text. Plain Lean, no program. -/
namespace Go.Ab.Sai
open Go.Ab.Wd Go.Ab.Bs
set_option linter.unusedVariables false
set_option linter.unusedSimpArgs false
section
variable (t : List Int) (short : List Bool)

/-! ### the two orders -/
open Classical in
def keyT : Nat → Int → List Int
  | 0, _ => []
  | d + 1, p => code t short p :: keyT d (p + 1)
def K2 (p : Int) : List Int := keyT t short (t.length - p).toNat p
end
variable {t : List Int} {short : List Bool} {k : Nat}
/-! ### pieces and suffixes -/
/-- The next left place. -/
structure Next (t : List Int) (short : List Bool) (p p' : Int) : Prop where
  gt : p < p'
  lt : p' < t.length
  left : Lf short p'
  none_ : ∀ x : Int, p < x → x < p' → ¬ Lf short x
/-! ### the left places in the text's order -/
structure Asc (t : List Int) (short : List Bool) (l : List Int) : Prop extends Lefts t short l where
  asc : l.Pairwise (· < ·)
theorem Asc.lt {l : List Int} (h : Asc t short l) {i j : Int} (i0 : 0 ≤ i) (hij : i < j) (j1 : j < l.length) : rd l i < rd l j := by
  obtain ⟨i, rfl⟩ := Int.eq_ofNat_of_zero_le i0
  obtain ⟨j, rfl⟩ := Int.eq_ofNat_of_zero_le (show 0 ≤ j by omega)
  rw [rd_getElem (by omega), rd_getElem (by omega)]
  exact List.pairwise_iff_getElem.1 h.asc i j (by omega) (by omega) (by omega)
theorem Asc.next {l : List Int} (h : Asc t short l) {i p' : Int} (i0 : 0 ≤ i) (i1 : i < l.length) (n : Next t short (rd l i) p') : i + 1 < l.length ∧ rd l (i + 1) = p' := by
  have hi := (h.mem _).1 (rd_mem (l := l) i0 i1)
  have hm : p' ∈ l := (h.mem p').2 ⟨⟨by have := n.gt; omega, n.lt⟩, n.left⟩
  obtain ⟨j, j0, j1, e⟩ := mem_rd hm
  have hj : i < j := by
    apply Classical.byContradiction
    intro hn
    by_cases e' : j = i
    · rw [e'] at e; have := n.gt; omega
    · have := h.lt j0 (show j < i by omega) i1
      have := n.gt
      omega
  by_cases e' : j = i + 1
  · exact ⟨by omega, by rw [← e', e]⟩
  · exfalso
    have h1 := h.lt i0 (show i < i + 1 by omega) (show i + 1 < l.length by omega)
    have h2 := h.lt (i := i + 1) (by omega) (show i + 1 < j by omega) j1
    exact n.none_ (rd l (i + 1)) h1 (by omega) ((h.mem _).1 (rd_mem (by omega) (by omega))).2
/-! ### the names, along the array -/
/-- names, the last name, the last left place -/
def name (lf : Int → Bool) (same : Int → Int → Bool) : List Int → List Int → Int → Int → List Int × Int
  | [], nm, top, _ => (nm, top)
  | p :: ps, nm, top, last =>
    if lf p = true then
      let top' := if last < 0 ∨ same last p = false then top + 1 else top
      name lf same ps (nm.set p.toNat top') top' p
    else name lf same ps nm top last
end Go.Ab.Sai


/- The sorter. -/
namespace Go.Ab
open Go Go.Proofs Go.Ab.Wd Go.Ab.Bs
set_option linter.unusedVariables false
set_option linter.unusedSimpArgs false
theorem Store.Ints.rd {σ : Store} {h : Hdl} {l : List Int} (s : σ.Ints h l) {i : Int} (h0 : 0 ≤ i) (h1 : i < l.length) : σ.ldInt .i64 (h.idx i 1) = some (Wd.rd l i) := Store.Ints.ld s h0 h1
theorem Store.Bools.rd {σ : Store} {h : Hdl} {l : List Bool} (s : σ.Bools h l) {i : Int} (h0 : 0 ≤ i) (h1 : i < l.length) : σ.ldBool (h.idx i 1) = some (Wd.rdOf false l i) := Store.Bools.ld s h0 h1
structure Sorter (σ : Store) (p : Ptr) (ht hs ha : Hdl) (kk : Nat) (t : List Int) (sh : List Bool) (sa : List Int) : Prop where
  nn : ∃ x, p = some x
  t_ : σ.ldSl (Ptr.add p 0) = some ht
  k_ : σ.ldInt .i64 (Ptr.add p 1) = some (kk : Int)
  s_ : σ.ldSl (Ptr.add p 2) = some hs
  a_ : σ.ldSl (Ptr.add p 3) = some ha
  t : σ.Ints ht t
  s : σ.Bools hs sh
  a : σ.Ints ha sa
end Go.Ab


/- A place is put at the head of its bucket. -/
namespace Go.Ab
open Go Go.Proofs Go.Ab.Wd Go.Ab.Bs
set_option linter.unusedVariables false
set_option linter.unusedSimpArgs false
/-- Only two rows are others. -/
structure Off2 (a b : Nat) (σ σ' : Store) : Prop where
  prot : σ'.prot = σ.prot
  len : σ'.objs.length = σ.objs.length
  off : ∀ c, c ≠ a → c ≠ b → σ'.objs[c]? = σ.objs[c]?
theorem Off2.refl (a b : Nat) (σ : Store) : Off2 a b σ σ := ⟨rfl, rfl, fun _ _ _ => rfl⟩
theorem Off2.trans {a b : Nat} {σ σ1 σ2 : Store} (h : Off2 a b σ σ1) (k : Off2 a b σ1 σ2) : Off2 a b σ σ2 := ⟨k.prot.trans h.prot, k.len.trans h.len, fun c h1 h2 => (k.off c h1 h2).trans (h.off c h1 h2)⟩
theorem Off.two {a b : Nat} {σ σ1 σ2 : Store} (h : Off a σ σ1) (k : Off b σ1 σ2) : Off2 a b σ σ2 := ⟨k.prot.trans h.prot, k.len.trans h.len, fun c h1 h2 => (k.off c h2).trans (h.off c h1)⟩
theorem Store.Wr.off {σ σ' : Store} {h : Hdl} (w : σ.Wr h) {b : Nat} (k : Off b σ σ') (hr : h.row ≠ some b) : σ'.Wr h := by
  obtain ⟨c, o, cs, h1, h2, h3⟩ := w
  exact ⟨c, o, cs, h1, (k.off c (fun e => hr (by simp [Hdl.row, h1, e]))).trans h2, by rw [k.prot]; exact h3⟩
/-- The sorter at work: its rows, the two boxes that the closure holds, the buckets' row. -/
structure Ind (σ : Store) (c1 c2 p : Ptr) (ht hs ha hh : Hdl) (ba bh kk : Nat) (t : List Int) (sh : List Bool) (st : Sai.St) : Prop where
  so : Sorter σ p ht hs ha kk t sh st.1
  e1 : σ.ldPtr c1 = some p
  e2 : σ.ldSl c2 = some hh
  h : σ.Ints hh st.2
  wa : σ.Wr ha
  wh : σ.Wr hh
  ra : ha.row = some ba
  rh : hh.row = some bh
  ab : ba ≠ bh
  far : ∀ b, b = ba ∨ b = bh → p.row ≠ some b ∧ c1.row ≠ some b ∧ c2.row ≠ some b ∧ ht.row ≠ some b ∧ hs.row ≠ some b
theorem Sorter.off {σ σ' : Store} {p : Ptr} {ht hs ha : Hdl} {kk : Nat} {t : List Int} {sh : List Bool} {sa : List Int} (S : Sorter σ p ht hs ha kk t sh sa) {b : Nat} (k : Off b σ σ') (r1 : p.row ≠ some b) (r2 : ht.row ≠ some b) (r3 : hs.row ≠ some b)
    {sa' : List Int} (ha' : σ'.Ints ha sa') : Sorter σ' p ht hs ha kk t sh sa' :=
  ⟨S.nn, (ldSl_cell (cell_off k (by simpa using r1))).trans S.t_, (ldInt_cell (cell_off k (by simpa using r1))).trans S.k_, (ldSl_cell (cell_off k (by simpa using r1))).trans S.s_, (ldSl_cell (cell_off k (by simpa using r1))).trans S.a_, S.t.off k r2, S.s.off k r3, ha'⟩
end Go.Ab


/- slices.Backward. -/
namespace Go.Ab
open Go Go.Proofs Go.Ab.Wd Go.Ab.Bs
set_option linter.unusedVariables false
set_option linter.unusedSimpArgs false
end Go.Ab


/- The buckets. -/
namespace Go.Ab
open Go Go.Proofs Go.Ab.Wd Go.Ab.Bs Go.Ab.Sai
set_option linter.unusedVariables false
set_option linter.unusedSimpArgs false
theorem ext_rd {l m : List Int} (hl : l.length = m.length) (h : ∀ c : Int, 0 ≤ c → c < l.length → rd l c = rd m c) : l = m := by
  refine List.ext_getElem hl fun i h1 h2 => ?_
  have := h i (by omega) (by omega)
  rwa [rd_getElem h1, rd_getElem h2] at this
theorem hd_take (t : List Int) {i : Int} (h0 : 0 ≤ i) (h1 : i < t.length) (c : Int) : hd (t.take (i + 1).toNat) c = hd (t.take i.toNat) c + if rd t i < c then 1 else 0 := by
  obtain ⟨i, rfl⟩ := Int.eq_ofNat_of_zero_le h0
  have hi : i < t.length := by omega
  rw [rd_getElem hi, show ((i : Int) + 1).toNat = i + 1 by omega, show ((i : Int)).toNat = i by omega, show t.take (i + 1) = t.take i ++ [t[i]] by rw [List.take_add_one]; simp [hi]]
  unfold hd
  rw [List.filter_append]
  by_cases c' : t[i] < c
  · rw [if_pos c', List.filter_cons_of_pos (by simpa using c')]; simp
  · rw [if_neg c', List.filter_cons_of_neg (by simpa using c')]; simp
/-- How many of the first i numbers are c, for all c. -/
def Cnt (t : List Int) (kk : Nat) (i : Int) (L : List Int) : Prop := L.length = kk ∧ ∀ c : Int, 0 ≤ c → c < kk → rd L c = hd (t.take i.toNat) (c + 1) - hd (t.take i.toNat) c
theorem Cnt.zero (t : List Int) (kk : Nat) : Cnt t kk 0 (List.replicate kk 0) := by
  refine ⟨by simp, fun c h0 h1 => ?_⟩
  obtain ⟨c, rfl⟩ := Int.eq_ofNat_of_zero_le h0
  rw [rd_getElem (by simp; omega)]
  simp [hd]
theorem Cnt.step {t : List Int} {kk : Nat} {i : Int} {L : List Int} (h : Cnt t kk i L) (h0 : 0 ≤ i) (h1 : i < t.length) (hr : 0 ≤ rd t i ∧ rd t i < kk) : Cnt t kk (i + 1) (L.set (rd t i).toNat (rd L (rd t i) + 1)) := by
  refine ⟨by simp [h.1], fun c c0 c1 => ?_⟩
  rw [rd_set hr.1 (by rw [h.1]; omega) c0, hd_take t h0 h1, hd_take t h0 h1, h.2 _ hr.1 hr.2, h.2 c c0 c1]
  by_cases e : rd t i = c
  · subst e; rw [if_pos rfl, if_pos (by omega), if_neg (by omega)]; omega
  · rw [if_neg e]
    by_cases e2 : rd t i < c
    · rw [if_pos (by omega), if_pos e2]; omega
    · rw [if_neg (by omega), if_neg e2]; omega
/-- The first i are sums, the others counts. -/
def Sums (t : List Int) (kk : Nat) (e : Bool) (i : Int) (M : List Int) : Prop := M.length = kk ∧ (∀ c : Int, 0 ≤ c → c < i → rd M c = if e = true then hd t (c + 1) else hd t c) ∧ ∀ c : Int, i ≤ c → 0 ≤ c → c < kk → rd M c = hd t (c + 1) - hd t c
def bk (e : Bool) (t : List Int) (kk : Nat) : List Int := if e = true then tails t kk else heads t kk
theorem bk_length (e : Bool) (t : List Int) (kk : Nat) : (bk e t kk).length = kk := by unfold bk; split <;> simp [tails, heads]
theorem Sums.end {t : List Int} {kk : Nat} {e : Bool} {M : List Int} (h : Sums t kk e kk M) : M = bk e t kk := by
  refine ext_rd (by rw [h.1, bk_length]) fun c c0 c1 => ?_
  rw [h.1] at c1
  rw [h.2.1 c c0 c1]
  cases e
  · simp only [bk]; rw [if_neg (by simp), if_neg (by simp), rd_heads t kk c0 c1]
  · simp only [bk, if_true]; rw [rd_tails t kk c0 c1]
theorem Sums.step {t : List Int} {kk : Nat} {e : Bool} {i : Int} {M : List Int} (h : Sums t kk e i M) (h0 : 0 ≤ i) (h1 : i < kk) : Sums t kk e (i + 1) (M.set i.toNat (if e = true then hd t (i + 1) else hd t i)) := by
  refine ⟨by simp [h.1], fun c c0 c1 => ?_, fun c c0 c1 c2 => ?_⟩
  · rw [rd_set h0 (by rw [h.1]; omega) c0]
    by_cases e2 : i = c
    · subst e2; rw [if_pos rfl]
    · rw [if_neg e2]; exact h.2.1 c c0 (by omega)
  · rw [rd_set h0 (by rw [h.1]; omega) c1, if_neg (by omega)]; exact h.2.2 c (by omega) c1 c2
theorem Sorter.lt {σ : Store} {p : Ptr} {ht hs ha : Hdl} {kk : Nat} {t : List Int} {sh : List Bool} {sa : List Int} (S : Sorter σ p ht hs ha kk t sh sa) : ∀ b, p.row = some b → b < σ.objs.length := by
  intro b hb
  have := S.t_
  cases p with
  | none => cases hb
  | some x =>
    obtain ⟨c, o⟩ := x
    simp [Ptr.row] at hb; subst hb
    simp only [Ptr.add, Option.map_some, Store.ldSl, Store.cell] at this
    by_cases h : c < σ.objs.length
    · exact h
    · rw [List.getElem?_eq_none (by omega)] at this; cases this
end Go.Ab


/- The passes of induce. -/
namespace Go.Ab
open Go Go.Proofs Go.Ab.Wd Go.Ab.Bs Go.Ab.Sai
set_option linter.unusedVariables false
set_option linter.unusedSimpArgs false
end Go.Ab


/- The passes of induce: to the buckets' ends. -/
namespace Go.Ab
open Go Go.Proofs Go.Ab.Wd Go.Ab.Bs Go.Ab.Sai
set_option linter.unusedVariables false
set_option linter.unusedSimpArgs false
def Rng (t : List Int) (l : List Int) : Prop := ∀ x ∈ l, -1 ≤ x ∧ x < t.length
theorem Rng.set {t l : List Int} (h : Rng t l) {p : Int} (p0 : 0 ≤ p) (p1 : p < t.length) (n : Nat) : Rng t (l.set n p) := by
  intro x hx
  rcases List.mem_or_eq_of_mem_set hx with hx | rfl
  · exact h x hx
  · omega
end Go.Ab


/- The first pass of induce: rounds of a loop over slices.Backward. -/
namespace Go.Ab
open Go Go.Proofs Go.Ab.Wd Go.Ab.Bs Go.Ab.Sai
set_option linter.unusedVariables false
set_option linter.unusedSimpArgs false
end Go.Ab


/- induce: the row is emptied; the first pass whole. -/
namespace Go.Ab
open Go Go.Proofs Go.Ab.Wd Go.Ab.Bs Go.Ab.Sai
set_option linter.unusedVariables false
set_option linter.unusedSimpArgs false
end Go.Ab


/- induce, whole. -/
namespace Go.Ab
open Go Go.Proofs Go.Ab.Wd Go.Ab.Bs Go.Ab.Sai
set_option linter.unusedVariables false
set_option linter.unusedSimpArgs false
/-- The sorter, and where its rows lie. -/
structure Env (σ : Store) (c1 p : Ptr) (ht hs ha : Hdl) (ba kk : Nat) (t : List Int) (sh : List Bool) (sa : List Int) : Prop where
  so : Sorter σ p ht hs ha kk t sh sa
  e1 : σ.ldPtr c1 = some p
  wa : σ.Wr ha
  ra : ha.row = some ba
  pr : σ.prot ≤ σ.objs.length
  lt : ∀ b, p.row = some b ∨ c1.row = some b ∨ ht.row = some b ∨ hs.row = some b ∨ b = ba → b < σ.objs.length
  far : p.row ≠ some ba ∧ c1.row ≠ some ba ∧ ht.row ≠ some ba ∧ hs.row ≠ some ba
theorem Sorter.kp {σ σ' : Store} {p : Ptr} {ht hs ha : Hdl} {kk : Nat} {t : List Int} {sh : List Bool} {sa : List Int} (S : Sorter σ p ht hs ha kk t sh sa) (k : Kp σ.objs.length σ σ') : Sorter σ' p ht hs ha kk t sh sa := by
  have hl := S.lt
  have hc : ∀ n, σ'.cell (Ptr.add p n) = σ.cell (Ptr.add p n) := fun n => cell_kp k (by simpa using hl)
  exact ⟨S.nn, (ldSl_cell (hc 0)).trans S.t_, (ldInt_cell (hc 1)).trans S.k_, (ldSl_cell (hc 2)).trans S.s_, (ldSl_cell (hc 3)).trans S.a_, Store.Sl.kp S.t k, Store.Sl.kp S.s k, Store.Sl.kp S.a k⟩
theorem Store.Wr.kp {σ σ' : Store} {h : Hdl} (w : σ.Wr h) (k : Kp σ.objs.length σ σ') : σ'.Wr h := by
  obtain ⟨b, o, cs, h1, h2, h3⟩ := w
  exact ⟨b, o, cs, h1, (k.keep b (List.getElem?_eq_some_iff.1 h2).1).trans h2, by rw [k.prot]; exact h3⟩
theorem Env.kp {σ σ' : Store} {c1 p : Ptr} {ht hs ha : Hdl} {ba kk : Nat} {t : List Int} {sh : List Bool} {sa : List Int} (E : Env σ c1 p ht hs ha ba kk t sh sa) (k : Kp σ.objs.length σ σ') : Env σ' c1 p ht hs ha ba kk t sh sa :=
  ⟨E.so.kp k, (ldPtr_cell (cell_kp k fun b hb => E.lt b (.inr (.inl hb)))).trans E.e1, E.wa.kp k, E.ra, by rw [k.prot]; exact Nat.le_trans E.pr k.len, fun b hb => Nat.lt_of_lt_of_le (E.lt b hb) k.len, E.far⟩
end Go.Ab


/- induce: its end. -/
namespace Go.Ab
open Go Go.Proofs Go.Ab.Wd Go.Ab.Bs Go.Ab.Sai
set_option linter.unusedVariables false
set_option linter.unusedSimpArgs false
/-- The sorter at work, out of where its rows lie. -/
theorem Env.ind {σ : Store} {c1 p : Ptr} {ht hs ha : Hdl} {ba kk : Nat} {t : List Int} {sh : List Bool} {sa : List Int} (E : Env σ c1 p ht hs ha ba kk t sh sa) {c2 : Ptr} {hh : Hdl} {bh : Nat} {hd' : List Int}
    (e2 : σ.ldSl c2 = some hh) (h : σ.Ints hh hd') (wh : σ.Wr hh) (rh : hh.row = some bh) (ab : ba ≠ bh) (n1 : p.row ≠ some bh) (n2 : c1.row ≠ some bh) (n3 : ht.row ≠ some bh) (n4 : hs.row ≠ some bh) (r2 : c2.row ≠ some ba) (r3 : c2.row ≠ some bh) :
    Ind σ c1 c2 p ht hs ha hh ba bh kk t sh (sa, hd') := by
  refine ⟨E.so, E.e1, e2, h, E.wa, wh, E.ra, rh, ab, fun b hb => ?_⟩
  obtain ⟨f1, f2, f3, f4⟩ := E.far
  rcases hb with rfl | rfl
  · exact ⟨f1, f2, r2, f3, f4⟩
  · exact ⟨n1, n2, r3, n3, n4⟩
end Go.Ab


/- induce: what follows the first pass. -/
namespace Go.Ab
open Go Go.Proofs Go.Ab.Wd Go.Ab.Bs Go.Ab.Sai
set_option linter.unusedVariables false
set_option linter.unusedSimpArgs false
end Go.Ab


/- induce, whole. -/
namespace Go.Ab
open Go Go.Proofs Go.Ab.Wd Go.Ab.Bs Go.Ab.Sai
set_option linter.unusedVariables false
set_option linter.unusedSimpArgs false
end Go.Ab


/- The array of a list's suffixes, reckoned: each put among the others. -/
namespace Go.Ab.Bs
open Go.Ab.Wd
set_option linter.unusedVariables false
set_option linter.unusedSimpArgs false
instance decLlt : ∀ a b : List Int, Decidable (llt a b)
  | [], [] => .isFalse (by simp [llt])
  | [], _ :: _ => .isTrue (by simp [llt])
  | _ :: _, [] => .isFalse (by simp [llt])
  | x :: xs, y :: ys =>
    if h : x < y then .isTrue (.inl h) else if h' : x = y then
      match decLlt xs ys with
      | .isTrue k => .isTrue (.inr ⟨h', k⟩)
      | .isFalse k => .isFalse fun e => e.elim h (fun e => k e.2)
    else .isFalse fun e => e.elim h (fun e => h' e.1)
instance decSl (t : List Int) (p q : Int) : Decidable (sl t p q) := decLlt _ _
/-- So many of a list, sorted, are less than p. -/
structure Srt (t l : List Int) (n : Int) : Prop where
  rng : ∀ p ∈ l, 0 ≤ p ∧ p < n
  ord : l.Pairwise (sl t)
  all : ∀ p : Int, 0 ≤ p → p < n → p ∈ l
theorem Srt.nd {t l : List Int} {n : Int} (h : Srt t l n) : l.Nodup := by
  unfold List.Nodup
  refine h.ord.imp ?_
  intro a b hs e
  rw [e] at hs
  exact sl_irrefl t b hs
theorem Srt.len {t l : List Int} {n : Int} (h : Srt t l n) (hn : 0 ≤ n) : (l.length : Int) = n := by
  have h1 := nodup_sub_len h.nd (m := places n.toNat) (fun p hp => mem_places.2 (by have := h.rng p hp; omega))
  have h2 := nodup_sub_len (nodup_places n.toNat) (m := l) (fun p hp => by have := mem_places.1 hp; exact h.all p this.1 (by omega))
  rw [places_length] at h1 h2
  omega
end Go.Ab.Bs


/- What the sorter does, plainly: names of pieces, short places, the left ones; sorting whole. -/
namespace Go.Ab.Sai
open Go.Ab.Wd Go.Ab.Bs
set_option linter.unusedVariables false
set_option linter.unusedSimpArgs false
def lfB (short : List Bool) (p : Int) : Bool := decide (0 < p) && (rdOf false short p && !rdOf false short (p - 1))
def sm (t : List Int) (short : List Bool) (a b : Int) : Nat → Int → Bool
  | 0, _ => false
  | m + 1, i =>
    if a + i < t.length ∧ b + i < t.length ∧ rd t (a + i) = rd t (b + i) ∧ S short (a + i) = S short (b + i) then
      if 0 < i ∧ (lfB short (a + i) = true ∨ lfB short (b + i) = true) then lfB short (a + i) && lfB short (b + i) else sm t short a b m (i + 1)
    else false
/-! ### which places are short -/
end Go.Ab.Sai


/- same. -/
namespace Go.Ab
open Go Go.Proofs Go.Ab.Wd Go.Ab.Bs Go.Ab.Sai
set_option linter.unusedVariables false
set_option linter.unusedSimpArgs false
end Go.Ab


/- sort: its loops. -/
namespace Go.Ab
open Go Go.Proofs Go.Ab.Wd Go.Ab.Bs Go.Ab.Sai
set_option linter.unusedVariables false
set_option linter.unusedSimpArgs false
abbrev hdS (N n : Nat) : Hdl := ⟨some (N, 0), n, some n⟩
/-- The sorter's own rows, from N on. -/
structure SS (σ0 σ : Store) (h : Hdl) (kk : Nat) (t : List Int) (sh : List Bool) (sa : List Int) : Prop where
  kp : Kp σ0.objs.length σ0 σ
  ht : σ0.Ints h t
  rs : σ.Row σ0.objs.length 1 (boolsL sh)
  rg : σ.Row (σ0.objs.length + 2) 4 [.slice h, .int .i64 kk, .slice (hdS σ0.objs.length t.length), .slice (hdS (σ0.objs.length + 1) t.length)]
  a : σ.Ints (hdS (σ0.objs.length + 1) t.length) sa
  wa : σ.Wr (hdS (σ0.objs.length + 1) t.length)
  ls : sh.length = t.length
  la : sa.length = t.length
  pr : σ0.prot ≤ σ0.objs.length
  hh : ∀ b, h.row = some b → b < σ0.objs.length
section
variable {σ0 σ σ' : Store} {h : Hdl} {kk : Nat} {t : List Int} {sh : List Bool} {sa : List Int}
theorem SS.len (S : SS σ0 σ h kk t sh sa) : σ0.objs.length + 3 ≤ σ.objs.length := by have := S.rg.lt; omega
theorem SS.prot (S : SS σ0 σ h kk t sh sa) : σ.prot ≤ σ0.objs.length := by rw [S.kp.prot]; exact S.pr
theorem SS.sorter (S : SS σ0 σ h kk t sh sa) : Sorter σ (some (σ0.objs.length + 2, 0)) h (hdS σ0.objs.length t.length) (hdS (σ0.objs.length + 1) t.length) kk t sh sa := by
  have c := S.rg.cell
  refine ⟨⟨_, rfl⟩, ?_, ?_, ?_, ?_, Store.Sl.kp S.ht S.kp, S.rs.sl (by simp [S.ls]), S.a⟩
  · simp [Store.ldSl, Ptr.add, c]
  · simp [Store.ldInt, Ptr.add, c]
  · simp [Store.ldSl, Ptr.add, c]
  · simp [Store.ldSl, Ptr.add, c]
theorem SS.keep (S : SS σ0 σ h kk t sh sa) {n : Nat} (hn : σ0.objs.length + 3 ≤ n) (k : Kp n σ σ') : SS σ0 σ' h kk t sh sa := by
  refine ⟨S.kp.then k (by omega), S.ht, S.rs.kp k (by omega), S.rg.kp k (by omega), S.a.keep fun b o e => k.keep b ?_, ?_, S.ls, S.la, S.pr, S.hh⟩
  · simp [hdS] at e; omega
  · obtain ⟨b, o, cs, h1, h2, h3⟩ := S.wa
    have : b < n := by simp [hdS] at h1; omega
    exact ⟨b, o, cs, h1, (k.keep b this).trans h2, by rw [k.prot]; exact h3⟩
end
end Go.Ab


/- sort: the later loops. -/
namespace Go.Ab
open Go Go.Proofs Go.Ab.Wd Go.Ab.Bs Go.Ab.Sai
set_option linter.unusedVariables false
set_option linter.unusedSimpArgs false
theorem take_rd {l : List Int} {i : Nat} (h : i < l.length) : l.take (i + 1) = l.take i ++ [rd l i] := by rw [List.take_add_one, rd_getElem h]; simp [h]
section
variable {σ0 σ σ' : Store} {h : Hdl} {kk : Nat} {t : List Int} {sh : List Bool} {sa : List Int}
end
end Go.Ab


/- sort, whole; Array. -/
namespace Go.Ab
open Go Go.Proofs Go.Ab.Wd Go.Ab.Bs Go.Ab.Sai
set_option linter.unusedVariables false
set_option linter.unusedSimpArgs false
theorem Grow.row {σ : Store} {n : Nat} {h : Hdl} {es : Nat} {l : List AV} (g : Grow σ n h es l) : ∀ b, h.row = some b → n ≤ b ∧ b < σ.objs.length := fun b e => by
  cases ha : h.a with
  | none => simp [Hdl.row, ha] at e
  | some bo => obtain ⟨c, o⟩ := bo; simp [Hdl.row, ha] at e; subst e; exact g.rowLt c o ha
end Go.Ab


/- Lists compared; what of a list has a property; which lists are right. -/
namespace Go.Ab
open Go Go.Proofs Go.Ab.Wd Go.Ab.Bs Go.Ab.Sai
set_option linter.unusedVariables false
set_option linter.unusedSimpArgs false
theorem wsucc {i n : Nat} (hi : i < n) (hn : n < 2 ^ 62) : IntKind.wrap .i64 ((i : Int) + 1) = (i + 1 : Nat) := wrap64 (by omega) (by omega)
/-! ### slices.ContainsFunc -/
theorem indexFunc_run {σ : Store} {h : Hdl} {l : List Int} {g : FuncId} {a c : List AV} {p : Int → Bool} (hl : σ.Ints h l) (hn : l.length < 2 ^ 62) (hp : ∀ x ∈ l, Runs Try.prog g (a ++ [.int .i64 x] ++ c) σ (.bool (p x)) σ) :
    ∃ i : Int, Runs Try.prog 46 [.slice h, .func g a c] σ (.int .i64 i) σ ∧ decide (0 ≤ i) = l.any p := by
  have ll := hl.ilen
  obtain ⟨r, e, q⟩ := EvI.upX (f := fun k s => stepF Try.prog (gm Try.prog k) drawn k Try.f46 [1, 0, 1, 0] [8, 7, 1, 0] s) l.length
    (fun i s => s = ([.int .i64 i, .int .i64 l.length, .func g a c, .slice h], σ) ∧ ∀ x ∈ l.take i, p x = false)
    (fun r => (∃ i : Nat, r = (AX.ret, [(4, .int .i64 i)], σ) ∧ l.any p = true) ∨ (r = (AX.exit 0, [], σ) ∧ l.any p = false))
    (by
      rintro i s hi ⟨rfl, hq⟩
      have i0 : (0 : Int) ≤ i := by omega
      have i1 : (i : Int) < l.length := by omega
      have w := wsucc hi hn
      obtain ⟨k0, r0⟩ := hp _ (rd_mem i0 i1)
      cases e : p (rd l i) with
      | false =>
        rw [e] at r0
        refine .inl ⟨_, ⟨k0, fun k hk => ?_⟩, rfl, fun x hx => ?_⟩
        · have r0 := r0 k hk
          simp only at r0
          simp only [f46_L1010]; simp only [Option.bind_some, decide_eq_true_eq, decide_eq_false_iff_not, Bool.not_eq_true', Bool.not_true, Bool.not_false, Bool.false_eq_true, Bool.true_eq_false, Bool.not_eq_eq_eq_not, beq_self_eq_true, beqFT, beqTF, decide_true, decide_false, not_false_eq_true, not_true_eq_false, ne_eq, true_and, and_true, false_and, and_false, and_self, if_true, if_false, ite_true, ite_false, Bool.and_true, Bool.and_false, Bool.true_and, Bool.false_and, Bool.or_true, Bool.true_or, Bool.or_false, Bool.false_or, or_true, true_or, or_false, false_or, or_self, AV.asInt, AV.asBool, AV.asSl, AV.asPtr, AV.asFn, AV.asStr, AV.asMap, AV.asIfc, AV.item, List.length_cons, List.length_nil, List.getElem?_cons_zero, List.getElem?_cons_succ, Nat.zero_add, ll, i0, i1, hl.rd i0 i1, r0, w]
        · rw [take_rd hi] at hx
          rcases List.mem_append.1 hx with hx | hx
          · exact hq x hx
          · rw [List.mem_singleton] at hx; rw [hx]; exact e
      | true =>
        rw [e] at r0
        refine .inr ⟨_, ⟨k0, fun k hk => ?_⟩, .inl ⟨i, rfl, List.any_eq_true.2 ⟨_, rd_mem i0 i1, e⟩⟩⟩
        have r0 := r0 k hk
        simp only at r0
        simp only [f46_L1010]; simp only [Option.bind_some, decide_eq_true_eq, decide_eq_false_iff_not, Bool.not_eq_true', Bool.not_true, Bool.not_false, Bool.false_eq_true, Bool.true_eq_false, Bool.not_eq_eq_eq_not, beq_self_eq_true, beqFT, beqTF, decide_true, decide_false, not_false_eq_true, not_true_eq_false, ne_eq, true_and, and_true, false_and, and_false, and_self, if_true, if_false, ite_true, ite_false, Bool.and_true, Bool.and_false, Bool.true_and, Bool.false_and, Bool.or_true, Bool.true_or, Bool.or_false, Bool.false_or, or_true, true_or, or_false, false_or, or_self, AV.asInt, AV.asBool, AV.asSl, AV.asPtr, AV.asFn, AV.asStr, AV.asMap, AV.asIfc, AV.item, List.length_cons, List.length_nil, List.getElem?_cons_zero, List.getElem?_cons_succ, Nat.zero_add, ll, i0, i1, hl.rd i0 i1, r0, w])
    (by
      rintro s ⟨rfl, hq⟩
      refine ⟨_, Ev.of fun k => by simp only [f46_L1010]; simp only [Option.bind_some, decide_eq_true_eq, decide_eq_false_iff_not, Bool.not_eq_true', Bool.not_true, Bool.not_false, Bool.false_eq_true, Bool.true_eq_false, Bool.not_eq_eq_eq_not, beq_self_eq_true, beqFT, beqTF, decide_true, decide_false, not_false_eq_true, not_true_eq_false, ne_eq, true_and, and_true, false_and, and_false, and_self, if_true, if_false, ite_true, ite_false, Bool.and_true, Bool.and_false, Bool.true_and, Bool.false_and, Bool.or_true, Bool.true_or, Bool.or_false, Bool.false_or, or_true, true_or, or_false, false_or, or_self, AV.asInt, AV.asBool, AV.asSl, AV.asPtr, AV.asFn, AV.asStr, AV.asMap, AV.asIfc, AV.item, List.length_cons, List.length_nil, List.getElem?_cons_zero, List.getElem?_cons_succ, Nat.zero_add, Int.lt_irrefl], .inr ⟨rfl, ?_⟩⟩
      rw [List.take_length] at hq
      rw [Bool.eq_false_iff]; intro h
      obtain ⟨x, hx, hp⟩ := List.any_eq_true.1 h
      rw [hq x hx] at hp; cases hp)
    (Nat.zero_le _) (s := ([.int .i64 0, .int .i64 l.length, .func g a c, .slice h], σ)) ⟨rfl, by simp⟩
  rcases q with ⟨i, rfl, q⟩ | ⟨rfl, q⟩
  · refine ⟨i, Runs.intro (fn := Try.f46) (by kernel_rfl) (by kernel_rfl) ((Ev.bind (loopF_ev e) (Ev.of fun k => f46_X1010_1 (gm Try.prog k) k σ _)).congr fun k => by rw [f46_eq, ll]), ?_⟩
    rw [q]; simp
  · refine ⟨-1, Runs.intro (fn := Try.f46) (by kernel_rfl) (by kernel_rfl) ((Ev.bind (loopF_ev e) (Ev.of fun k => f46_X1010_2 (gm Try.prog k) k σ)).congr fun k => by rw [f46_eq, ll]), ?_⟩
    rw [q]; rfl
theorem containsFunc_run {σ : Store} {h : Hdl} {l : List Int} {g : FuncId} {a c : List AV} {p : Int → Bool} (hl : σ.Ints h l) (hn : l.length < 2 ^ 62) (hp : ∀ x ∈ l, Runs Try.prog g (a ++ [.int .i64 x] ++ c) σ (.bool (p x)) σ) :
    Runs Try.prog 25 [.slice h, .func g a c] σ (.bool (l.any p)) σ := by
  obtain ⟨i, ⟨k0, r⟩, e⟩ := indexFunc_run hl hn hp
  refine Runs.intro (fn := Try.f25) (by kernel_rfl) (by kernel_rfl) ⟨k0, fun k hk => ?_⟩
  have r := r k hk
  simp only at r
  simp only [f25_eq]
  simp only [Option.bind_some, decide_eq_true_eq, decide_eq_false_iff_not, Bool.not_eq_true', Bool.not_true, Bool.not_false, Bool.false_eq_true, Bool.true_eq_false, Bool.not_eq_eq_eq_not, beq_self_eq_true, beqFT, beqTF, decide_true, decide_false, not_false_eq_true, not_true_eq_false, ne_eq, true_and, and_true, false_and, and_false, and_self, if_true, if_false, ite_true, ite_false, Bool.and_true, Bool.and_false, Bool.true_and, Bool.false_and, Bool.or_true, Bool.true_or, Bool.or_false, Bool.false_or, or_true, true_or, or_false, false_or, or_self, AV.asInt, AV.asBool, AV.asSl, AV.asPtr, AV.asFn, AV.asStr, AV.asMap, AV.asIfc, AV.item, List.length_cons, List.length_nil, List.getElem?_cons_zero, List.getElem?_cons_succ, Nat.zero_add, r, e]
/-! ### slices.Compare -/
end Go.Ab


/- Array; Right; Less; Least. -/
namespace Go.Ab
open Go Go.Proofs Go.Ab.Wd Go.Ab.Bs Go.Ab.Sai
set_option linter.unusedVariables false
set_option linter.unusedSimpArgs false
/-- May a list be sorted? -/
def okT (t : List Int) (al : Int) : Bool := decide (0 ≤ al) && decide (al ≤ 4194304) && decide (t.length ≤ 4194304) && !(t.any fun c => decide (c < 0) || decide (al ≤ c))
theorem okT_iff {t : List Int} {al : Int} : okT t al = true ↔ 0 ≤ al ∧ al ≤ 4194304 ∧ t.length ≤ 4194304 ∧ ∀ x ∈ t, 0 ≤ x ∧ x < al := by
  simp only [okT, Bool.and_eq_true, decide_eq_true_eq, Bool.not_eq_true', List.any_eq_false, Bool.or_eq_true, and_assoc]
  refine and_congr_right fun _ => and_congr_right fun _ => and_congr_right fun _ => ?_
  exact ⟨fun h x hx => by have := h x hx; omega, fun h x hx => by have := h x hx; omega⟩
/-! ### Right -/
theorem right_run {σ : Store} {h : Hdl} {t : List Int} {al : Int} (hT : σ.Ints h t) (hn : t.length < 2 ^ 62) : Runs Try.prog 10 [.slice h, .int .i64 al] σ (.bool (okT t al)) σ := by
  have ll := hT.ilen
  refine Runs.intro (fn := Try.f10) (by kernel_rfl) (by kernel_rfl) ?_
  by_cases c1 : al < 0
  · rw [show okT t al = false by simp [okT]; omega]
    exact Ev.of fun k => by rw [f10_eq]; simp only [Option.bind_some, decide_eq_true_eq, decide_eq_false_iff_not, Bool.not_eq_true', Bool.not_true, Bool.not_false, Bool.false_eq_true, Bool.true_eq_false, Bool.not_eq_eq_eq_not, beq_self_eq_true, beqFT, beqTF, decide_true, decide_false, not_false_eq_true, not_true_eq_false, ne_eq, true_and, and_true, false_and, and_false, and_self, if_true, if_false, ite_true, ite_false, Bool.and_true, Bool.and_false, Bool.true_and, Bool.false_and, Bool.or_true, Bool.true_or, Bool.or_false, Bool.false_or, or_true, true_or, or_false, false_or, or_self, AV.asInt, AV.asBool, AV.asSl, AV.asPtr, AV.asFn, AV.asStr, AV.asMap, AV.asIfc, AV.item, List.length_cons, List.length_nil, List.getElem?_cons_zero, List.getElem?_cons_succ, Nat.zero_add, c1]
  by_cases c2 : 4194304 < al
  · rw [show okT t al = false by simp [okT]; omega]
    exact Ev.of fun k => by rw [f10_eq]; simp only [Option.bind_some, decide_eq_true_eq, decide_eq_false_iff_not, Bool.not_eq_true', Bool.not_true, Bool.not_false, Bool.false_eq_true, Bool.true_eq_false, Bool.not_eq_eq_eq_not, beq_self_eq_true, beqFT, beqTF, decide_true, decide_false, not_false_eq_true, not_true_eq_false, ne_eq, true_and, and_true, false_and, and_false, and_self, if_true, if_false, ite_true, ite_false, Bool.and_true, Bool.and_false, Bool.true_and, Bool.false_and, Bool.or_true, Bool.true_or, Bool.or_false, Bool.false_or, or_true, true_or, or_false, false_or, or_self, AV.asInt, AV.asBool, AV.asSl, AV.asPtr, AV.asFn, AV.asStr, AV.asMap, AV.asIfc, AV.item, List.length_cons, List.length_nil, List.getElem?_cons_zero, List.getElem?_cons_succ, Nat.zero_add, c1, c2]
  by_cases c3 : 4194304 < t.length
  · have c3' : (4194304 : Int) < t.length := by omega
    rw [show okT t al = false by simp [okT]; omega]
    exact Ev.of fun k => by rw [f10_eq]; simp only [Option.bind_some, decide_eq_true_eq, decide_eq_false_iff_not, Bool.not_eq_true', Bool.not_true, Bool.not_false, Bool.false_eq_true, Bool.true_eq_false, Bool.not_eq_eq_eq_not, beq_self_eq_true, beqFT, beqTF, decide_true, decide_false, not_false_eq_true, not_true_eq_false, ne_eq, true_and, and_true, false_and, and_false, and_self, if_true, if_false, ite_true, ite_false, Bool.and_true, Bool.and_false, Bool.true_and, Bool.false_and, Bool.or_true, Bool.true_or, Bool.or_false, Bool.false_or, or_true, true_or, or_false, false_or, or_self, AV.asInt, AV.asBool, AV.asSl, AV.asPtr, AV.asFn, AV.asStr, AV.asMap, AV.asIfc, AV.item, List.length_cons, List.length_nil, List.getElem?_cons_zero, List.getElem?_cons_succ, Nat.zero_add, c1, c2, ll, c3']
  have c3' : ¬ (4194304 : Int) < t.length := by omega
  obtain ⟨r, e, q⟩ := EvI.upX (f := fun k s => stepF Try.prog (gm Try.prog k) drawn k Try.f10 [1, 1, 0, 1, 0] [20, 19, 18, 1] s) t.length
    (fun i s => s = ([.int .i64 i, .int .i64 t.length, .slice h, .int .i64 al], σ) ∧ ∀ x ∈ t.take i, 0 ≤ x ∧ x < al)
    (fun r => (r = (AX.ret, [(4, .bool false)], σ) ∧ okT t al = false) ∨ (r = (AX.exit 0, [], σ) ∧ okT t al = true))
    (by
      rintro i s hi ⟨rfl, hp⟩
      have i0 : (0 : Int) ≤ i := by omega
      have i1 : (i : Int) < t.length := by omega
      have w := wsucc hi hn
      have no : ¬ (0 ≤ rd t i ∧ rd t i < al) → okT t al = false := fun h => by
        rw [Bool.eq_false_iff]; intro e
        exact h ((okT_iff.1 e).2.2.2 _ (rd_mem i0 i1))
      by_cases c5 : rd t i < 0
      · exact .inr ⟨_, Ev.of fun k => by simp only [f10_L11010]; simp only [Option.bind_some, decide_eq_true_eq, decide_eq_false_iff_not, Bool.not_eq_true', Bool.not_true, Bool.not_false, Bool.false_eq_true, Bool.true_eq_false, Bool.not_eq_eq_eq_not, beq_self_eq_true, beqFT, beqTF, decide_true, decide_false, not_false_eq_true, not_true_eq_false, ne_eq, true_and, and_true, false_and, and_false, and_self, if_true, if_false, ite_true, ite_false, Bool.and_true, Bool.and_false, Bool.true_and, Bool.false_and, Bool.or_true, Bool.true_or, Bool.or_false, Bool.false_or, or_true, true_or, or_false, false_or, or_self, AV.asInt, AV.asBool, AV.asSl, AV.asPtr, AV.asFn, AV.asStr, AV.asMap, AV.asIfc, AV.item, List.length_cons, List.length_nil, List.getElem?_cons_zero, List.getElem?_cons_succ, Nat.zero_add, ll, i0, i1, hT.rd i0 i1, c5], .inl ⟨rfl, no (by omega)⟩⟩
      by_cases c6 : al ≤ rd t i
      · exact .inr ⟨_, Ev.of fun k => by simp only [f10_L11010]; simp only [Option.bind_some, decide_eq_true_eq, decide_eq_false_iff_not, Bool.not_eq_true', Bool.not_true, Bool.not_false, Bool.false_eq_true, Bool.true_eq_false, Bool.not_eq_eq_eq_not, beq_self_eq_true, beqFT, beqTF, decide_true, decide_false, not_false_eq_true, not_true_eq_false, ne_eq, true_and, and_true, false_and, and_false, and_self, if_true, if_false, ite_true, ite_false, Bool.and_true, Bool.and_false, Bool.true_and, Bool.false_and, Bool.or_true, Bool.true_or, Bool.or_false, Bool.false_or, or_true, true_or, or_false, false_or, or_self, AV.asInt, AV.asBool, AV.asSl, AV.asPtr, AV.asFn, AV.asStr, AV.asMap, AV.asIfc, AV.item, List.length_cons, List.length_nil, List.getElem?_cons_zero, List.getElem?_cons_succ, Nat.zero_add, ll, i0, i1, hT.rd i0 i1, c5, c6], .inl ⟨rfl, no (by omega)⟩⟩
      refine .inl ⟨_, Ev.of fun k => by simp only [f10_L11010]; simp only [Option.bind_some, decide_eq_true_eq, decide_eq_false_iff_not, Bool.not_eq_true', Bool.not_true, Bool.not_false, Bool.false_eq_true, Bool.true_eq_false, Bool.not_eq_eq_eq_not, beq_self_eq_true, beqFT, beqTF, decide_true, decide_false, not_false_eq_true, not_true_eq_false, ne_eq, true_and, and_true, false_and, and_false, and_self, if_true, if_false, ite_true, ite_false, Bool.and_true, Bool.and_false, Bool.true_and, Bool.false_and, Bool.or_true, Bool.true_or, Bool.or_false, Bool.false_or, or_true, true_or, or_false, false_or, or_self, AV.asInt, AV.asBool, AV.asSl, AV.asPtr, AV.asFn, AV.asStr, AV.asMap, AV.asIfc, AV.item, List.length_cons, List.length_nil, List.getElem?_cons_zero, List.getElem?_cons_succ, Nat.zero_add, ll, i0, i1, hT.rd i0 i1, c5, c6, w], rfl, fun x hx => ?_⟩
      rw [take_rd hi] at hx
      rcases List.mem_append.1 hx with hx | hx
      · exact hp x hx
      · rw [List.mem_singleton] at hx; omega)
    (by
      rintro s ⟨rfl, hp⟩
      rw [List.take_length] at hp
      exact ⟨_, Ev.of fun k => by simp only [f10_L11010]; simp only [Option.bind_some, decide_eq_true_eq, decide_eq_false_iff_not, Bool.not_eq_true', Bool.not_true, Bool.not_false, Bool.false_eq_true, Bool.true_eq_false, Bool.not_eq_eq_eq_not, beq_self_eq_true, beqFT, beqTF, decide_true, decide_false, not_false_eq_true, not_true_eq_false, ne_eq, true_and, and_true, false_and, and_false, and_self, if_true, if_false, ite_true, ite_false, Bool.and_true, Bool.and_false, Bool.true_and, Bool.false_and, Bool.or_true, Bool.true_or, Bool.or_false, Bool.false_or, or_true, true_or, or_false, false_or, or_self, AV.asInt, AV.asBool, AV.asSl, AV.asPtr, AV.asFn, AV.asStr, AV.asMap, AV.asIfc, AV.item, List.length_cons, List.length_nil, List.getElem?_cons_zero, List.getElem?_cons_succ, Nat.zero_add, Int.lt_irrefl], .inr ⟨rfl, okT_iff.2 ⟨by omega, by omega, by omega, hp⟩⟩⟩)
    (Nat.zero_le _) (s := ([.int .i64 0, .int .i64 t.length, .slice h, .int .i64 al], σ)) ⟨rfl, by simp⟩
  rcases q with ⟨rfl, q⟩ | ⟨rfl, q⟩
  · rw [q]
    refine (Ev.bind (loopF_ev e) (Ev.of fun k => f10_X11010_1 (gm Try.prog k) k σ _)).congr fun k => ?_
    rw [f10_eq]; simp only [Option.bind_some, decide_eq_true_eq, decide_eq_false_iff_not, Bool.not_eq_true', Bool.not_true, Bool.not_false, Bool.false_eq_true, Bool.true_eq_false, Bool.not_eq_eq_eq_not, beq_self_eq_true, beqFT, beqTF, decide_true, decide_false, not_false_eq_true, not_true_eq_false, ne_eq, true_and, and_true, false_and, and_false, and_self, if_true, if_false, ite_true, ite_false, Bool.and_true, Bool.and_false, Bool.true_and, Bool.false_and, Bool.or_true, Bool.true_or, Bool.or_false, Bool.false_or, or_true, true_or, or_false, false_or, or_self, AV.asInt, AV.asBool, AV.asSl, AV.asPtr, AV.asFn, AV.asStr, AV.asMap, AV.asIfc, AV.item, List.length_cons, List.length_nil, List.getElem?_cons_zero, List.getElem?_cons_succ, Nat.zero_add, c1, c2, ll, c3']
  · rw [q]
    refine (Ev.bind (loopF_ev e) (Ev.of fun k => f10_X11010_2 (gm Try.prog k) k σ)).congr fun k => ?_
    rw [f10_eq]; simp only [Option.bind_some, decide_eq_true_eq, decide_eq_false_iff_not, Bool.not_eq_true', Bool.not_true, Bool.not_false, Bool.false_eq_true, Bool.true_eq_false, Bool.not_eq_eq_eq_not, beq_self_eq_true, beqFT, beqTF, decide_true, decide_false, not_false_eq_true, not_true_eq_false, ne_eq, true_and, and_true, false_and, and_false, and_self, if_true, if_false, ite_true, ite_false, Bool.and_true, Bool.and_false, Bool.true_and, Bool.false_and, Bool.or_true, Bool.true_or, Bool.or_false, Bool.false_or, or_true, true_or, or_false, false_or, or_self, AV.asInt, AV.asBool, AV.asSl, AV.asPtr, AV.asFn, AV.asStr, AV.asMap, AV.asIfc, AV.item, List.length_cons, List.length_nil, List.getElem?_cons_zero, List.getElem?_cons_succ, Nat.zero_add, c1, c2, ll, c3']
/-! ### Less -/
/-! ### Least -/
end Go.Ab


/- The reference's array. -/
namespace Go.Ab
open Go Go.Proofs Go.Ab.Wd Go.Ab.Bs Go.Ab.Sai
set_option linter.unusedVariables false
set_option linter.unusedSimpArgs false
section
variable {σ0 : Store} {ht : Hdl} {t : List Int}
end
end Go.Ab


/- Turn; the reference's. -/
namespace Go.Ab
open Go Go.Proofs Go.Ab.Wd Go.Ab.Bs Go.Ab.Sai
set_option linter.unusedVariables false
set_option linter.unusedSimpArgs false
/-- The first i of l are marked. -/
structure Marks (f : Int → Int) (d : Int) (l : List Int) (i : Nat) (o : List Int) : Prop where
  len : o.length = l.length
  rng : ∀ p ∈ l.take i, 0 ≤ p ∧ p < l.length
  nd : (l.take i).Nodup
  val : ∀ p : Int, 0 ≤ p → p < l.length → rd o p = if p ∈ l.take i then f p else d
theorem Marks.start (f : Int → Int) (d : Int) (l : List Int) : Marks f d l 0 (List.replicate l.length d) :=
  ⟨by simp, by simp, by simp, fun p p0 p1 => by
    obtain ⟨p, rfl⟩ := Int.eq_ofNat_of_zero_le p0
    rw [rd_getElem (by simp; omega)]; simp⟩
theorem Marks.step {f : Int → Int} {d : Int} {l : List Int} {i : Nat} {o : List Int} (m : Marks f d l i o) (hi : i < l.length) (h0 : 0 ≤ rd l i) (h1 : rd l i < l.length) (hn : rd l i ∉ l.take i) : Marks f d l (i + 1) (o.set (rd l i).toNat (f (rd l i))) := by
  refine ⟨by simp [m.len], fun p hp => ?_, ?_, fun p p0 p1 => ?_⟩
  · rw [take_rd hi] at hp
    rcases List.mem_append.1 hp with hp | hp
    · exact m.rng p hp
    · rw [List.mem_singleton] at hp; rw [hp]; exact ⟨h0, h1⟩
  · rw [take_rd hi]
    exact List.nodup_append.2 ⟨m.nd, by simp, fun a ha b hb e => by rw [List.mem_singleton] at hb; subst hb; exact hn (e ▸ ha)⟩
  · rw [rd_set h0 (by rw [m.len]; exact h1) p0, take_rd hi, m.val p p0 p1]
    by_cases e : rd l i = p
    · rw [if_pos e, if_pos (by simp [e]), e]
    · rw [if_neg e]
      by_cases c : p ∈ l.take i
      · rw [if_pos c, if_pos (by simp [c])]
      · rw [if_neg c, if_neg (by simp [c]; exact fun h => e h.symm)]
end Go.Ab


/- The reference's turning; the laws of layer 9, the first half. -/
namespace Go.Ab
open Go Go.Proofs Go.Ab.Wd Go.Ab.Bs Go.Ab.Sai
set_option linter.unusedVariables false
set_option linter.unusedSimpArgs false
end Go.Ab


/- The order of suffixes: of lists put by others, of tails. Plain Lean, no program. -/
namespace Go.Ab.Bs
open Go.Ab.Wd
set_option linter.unusedVariables false
set_option linter.unusedSimpArgs false
end Go.Ab.Bs


/- Lists turned by their suffixes' order, and back. Plain Lean, no program. -/
namespace Go.Ab.Bs
open Go.Ab.Wd
set_option linter.unusedVariables false
set_option linter.unusedSimpArgs false
/-- How many of a list have a property. -/
def cnt (p : Int → Bool) (l : List Int) : Nat := (l.filter p).length
/-- Where the row ahead of each one stands. -/
def lf (b : List Int) (i : Int) : Int := (cnt (fun x => decide (x < rd b i)) b + cnt (fun x => decide (x = rd b i)) (b.take i.toNat) : Nat)
/-- The list of which b is the turned row, from behind. -/
def walk (b : List Int) : Nat → Int → List Int
  | 0, _ => []
  | m + 1, i => rd b i :: walk b m (lf b i)
end Go.Ab.Bs


/- slices.Equal, Contains, Min; the turned row, by the program and by the reference. -/
namespace Go.Ab
open Go Go.Proofs Go.Ab.Wd Go.Ab.Bs Go.Ab.Sai
set_option linter.unusedVariables false
set_option linter.unusedSimpArgs false
/-! ### the turned row -/
end Go.Ab


/- How many bits of a number are ones: the sum by folding. Plain Lean, no program. -/
namespace Go.Ab.Pop
set_option linter.unusedVariables false
set_option linter.unusedSimpArgs false
/-- The sum of digits. -/
def Dg (P : Nat) : Nat → Nat → Nat
  | 0, _ => 0
  | n + 1, x => x % P + Dg P n (x / P)
/-- Every other digit. -/
def Em (P : Nat) : Nat → Nat → Nat
  | 0, _ => 0
  | n + 1, x => x % P + P * P * Em P n (x / (P * P))
def Small (P m : Nat) : Nat → Nat → Prop
  | 0, _ => True
  | n + 1, x => x % P ≤ m ∧ Small P m n (x / P)
theorem split2 {P a b : Nat} (ha : a < P * P) : (a + P * P * b) % (P * P) = a ∧ (a + P * P * b) / (P * P) = b := by
  have h0 : 0 < P * P := by omega
  exact ⟨by rw [Nat.add_mul_mod_self_left, Nat.mod_eq_of_lt ha], by rw [Nat.add_mul_div_left _ _ h0, Nat.div_eq_of_lt ha, Nat.zero_add]⟩
theorem two_lt {P a b : Nat} (hP : 2 ≤ P) (ha : a < P) (hb : b < P) : a + b < P * P := by
  have : 2 * P ≤ P * P := Nat.mul_le_mul_right P hP
  omega
theorem div3 (x P : Nat) : x / P / (P * P) = x / (P * P) / P := by rw [Nat.div_div_eq_div_mul, Nat.div_div_eq_div_mul, Nat.mul_comm]
theorem fold_step {P : Nat} (hP : 2 ≤ P) : ∀ (n x : Nat), Dg (P * P) n (Em P n x + Em P n (x / P)) = Dg P (2 * n) x
  | 0, _ => rfl
  | n + 1, x => by
    have e : Em P (n + 1) x + Em P (n + 1) (x / P) = (x % P + x / P % P) + P * P * (Em P n (x / (P * P)) + Em P n (x / (P * P) / P)) := by
      simp only [Em]; rw [div3, Nat.mul_add]; omega
    have hlt := two_lt hP (Nat.mod_lt x (by omega)) (Nat.mod_lt (x / P) (show P > 0 by omega))
    obtain ⟨h1, h2⟩ := split2 (b := Em P n (x / (P * P)) + Em P n (x / (P * P) / P)) hlt
    rw [show 2 * (n + 1) = 2 * n + 1 + 1 by omega]
    simp only [Dg]
    rw [e, h1, h2, fold_step hP n, Nat.div_div_eq_div_mul]; omega
theorem small_fold {P m : Nat} (hP : 2 ≤ P) : ∀ (n x : Nat), Small P m (2 * n) x → Small (P * P) (2 * m) n (Em P n x + Em P n (x / P))
  | 0, _, _ => trivial
  | n + 1, x, h => by
    have e : Em P (n + 1) x + Em P (n + 1) (x / P) = (x % P + x / P % P) + P * P * (Em P n (x / (P * P)) + Em P n (x / (P * P) / P)) := by
      simp only [Em]; rw [div3, Nat.mul_add]; omega
    have hlt := two_lt hP (Nat.mod_lt x (by omega)) (Nat.mod_lt (x / P) (show P > 0 by omega))
    obtain ⟨h1, h2⟩ := split2 (b := Em P n (x / (P * P)) + Em P n (x / (P * P) / P)) hlt
    rw [show 2 * (n + 1) = 2 * n + 1 + 1 by omega] at h
    simp only [Small] at h ⊢
    rw [e, h1, h2]
    refine ⟨by omega, small_fold hP n _ ?_⟩
    have := h.2.2
    rwa [Nat.div_div_eq_div_mul] at this
theorem em_sum {P m : Nat} (hP : 2 ≤ P) (hm : 2 * m < P) : ∀ (n x : Nat), Small P m (2 * n + 1) x → Em P n (x / P + x) = Em P n x + Em P n (x / P)
  | 0, _, _ => rfl
  | n + 1, x, h => by
    rw [show 2 * (n + 1) + 1 = 2 * n + 1 + 1 + 1 by omega] at h
    simp only [Small] at h
    obtain ⟨h0, h1, h2⟩ := h
    rw [Nat.div_div_eq_div_mul] at h2
    have h2' : x / (P * P) % P ≤ m := h2.1
    have ih := em_sum hP hm n (x / (P * P)) h2
    have hP0 : 0 < P := by omega
    have ex : x = x % P + P * (x / P % P) + P * P * (x / (P * P)) := by
      have a1 := Nat.mod_add_div x P
      have a2 := Nat.mod_add_div (x / P) P
      rw [Nat.div_div_eq_div_mul] at a2
      calc x = x % P + P * (x / P) := a1.symm
        _ = x % P + P * (x / P % P + P * (x / (P * P))) := by rw [a2]
        _ = _ := by rw [Nat.mul_add, Nat.mul_assoc, Nat.add_assoc]
    have ey : x / P = x / P % P + P * (x / (P * P) % P) + P * P * (x / (P * P) / P) := by
      have a1 := Nat.mod_add_div (x / P) P
      have a2 := Nat.mod_add_div (x / (P * P)) P
      rw [Nat.div_div_eq_div_mul] at a1
      calc x / P = x / P % P + P * (x / (P * P)) := a1.symm
        _ = x / P % P + P * (x / (P * P) % P + P * (x / (P * P) / P)) := by rw [a2]
        _ = _ := by rw [Nat.mul_add, Nat.mul_assoc, Nat.add_assoc]
    have es : x / P + x = ((x % P + x / P % P) + P * (x / P % P + x / (P * P) % P)) + P * P * (x / (P * P) / P + x / (P * P)) := by
      conv => lhs; rw [ey]; rhs; rw [ex]
      rw [Nat.mul_add, Nat.mul_add]; omega
    have hs1 : x % P + x / P % P < P := by omega
    have hs2 : x / P % P + x / (P * P) % P < P := by omega
    have hlt : (x % P + x / P % P) + P * (x / P % P + x / (P * P) % P) < P * P := by
      have : P * (x / P % P + x / (P * P) % P + 1) ≤ P * P := Nat.mul_le_mul_left P (by omega)
      rw [Nat.mul_add] at this; omega
    obtain ⟨s1, s2⟩ := split2 (b := x / (P * P) / P + x / (P * P)) hlt
    have sm : (x / P + x) % P = x % P + x / P % P := by
      have : (x / P + x) % P = (x / P + x) % (P * P) % P := by rw [Nat.mod_mul_left_mod]
      rw [this, es, s1, Nat.add_mul_mod_self_left, Nat.mod_eq_of_lt hs1]
    simp only [Em]
    rw [sm, show (x / P + x) / (P * P) = x / (P * P) / P + x / (P * P) by rw [es, s2], ih, div3, Nat.mul_add]
    omega
def mask (w : Nat) : Nat → Nat
  | 0 => 0
  | n + 1 => (2 ^ w - 1) + 2 ^ w * 2 ^ w * mask w n
theorem and_mask (w : Nat) (hw : 0 < w) : ∀ (n x : Nat), x &&& mask w n = Em (2 ^ w) n x
  | 0, x => by simp [mask, Em]
  | n + 1, x => by
    have hp : 2 ^ w * 2 ^ w = 2 ^ (2 * w) := by rw [← Nat.pow_add]; congr 1; omega
    have h0 : 0 < 2 ^ w := Nat.two_pow_pos w
    have h1 : 2 ^ w - 1 < 2 ^ w * 2 ^ w := by
      have : 1 * 2 ^ w ≤ 2 ^ w * 2 ^ w := Nat.mul_le_mul_right _ h0
      omega
    obtain ⟨m1, m2⟩ := split2 (b := mask w n) h1
    simp only [mask, Em]
    rw [← Nat.mod_add_div (x &&& (2 ^ w - 1 + 2 ^ w * 2 ^ w * mask w n)) (2 ^ w * 2 ^ w)]
    rw [hp] at m1 m2 ⊢
    rw [Nat.and_mod_two_pow, Nat.and_div_two_pow, m1, m2, and_mask w hw n, Nat.and_two_pow_sub_one_eq_mod, ← hp, Nat.mod_mul_left_mod, hp]
theorem small_of (P m : Nat) (hP : 0 < P) (hm : P ≤ m + 1) : ∀ n x, Small P m n x
  | 0, _ => trivial
  | n + 1, x => ⟨by have := Nat.mod_lt x hP; omega, small_of P m hP hm n _⟩
/-- How many of n bits are ones. -/
def pop : Nat → Nat → Nat
  | 0, _ => 0
  | n + 1, x => x % 2 + pop n (x / 2)
theorem pop_dg : ∀ n x, pop n x = Dg 2 n x
  | 0, _ => rfl
  | n + 1, x => by simp only [pop, Dg, pop_dg n]
theorem small_zero {P m : Nat} : ∀ n, Small P m n 0
  | 0 => trivial
  | n + 1 => ⟨by simp, by rw [Nat.zero_div]; exact small_zero n⟩
theorem small_more {P m : Nat} (hP : 1 < P) : ∀ (n k x : Nat), x < P ^ n → Small P m n x → Small P m (n + k) x
  | 0, k, x, hx, _ => by
    have : x = 0 := by simpa using hx
    subst this; exact small_zero _
  | n + 1, k, x, hx, h => by
    rw [show n + 1 + k = (n + k) + 1 by omega]
    refine ⟨h.1, small_more hP n k _ ?_ h.2⟩
    rw [Nat.div_lt_iff_lt_mul (by omega), ← Nat.pow_succ]; exact hx
theorem em_lt {P : Nat} (hP : 0 < P) : ∀ n x, Em P n x < (P * P) ^ n
  | 0, _ => by simp [Em]
  | n + 1, x => by
    have ih := em_lt hP n (x / (P * P))
    have h1 := Nat.mod_lt x hP
    have h2 : P ≤ P * P := by have : 1 * P ≤ P * P := Nat.mul_le_mul_right _ hP; omega
    simp only [Em, Nat.pow_succ]
    have : P * P * (Em P n (x / (P * P)) + 1) ≤ P * P * (P * P) ^ n := Nat.mul_le_mul_left _ ih
    rw [Nat.mul_add, Nat.mul_comm (P * P) ((P * P) ^ n)] at this
    omega
/-- The sum by folding. -/
def fold64 (x : Nat) : Nat :=
  let a := (x / 2 &&& 0x5555555555555555) + (x &&& 0x5555555555555555)
  let b := (a / 4 &&& 0x3333333333333333) + (a &&& 0x3333333333333333)
  (b / 16 + b) &&& 0x0f0f0f0f0f0f0f0f
theorem fold64_spec (x : Nat) (hx : x < 2 ^ 64) : Small 256 8 8 (fold64 x) ∧ Dg 256 8 (fold64 x) = pop 64 x ∧ fold64 x < 2 ^ 64 := by
  have m1 : mask 1 32 = 0x5555555555555555 := by decide
  have m2 : mask 2 16 = 0x3333333333333333 := by decide
  have m3 : mask 4 8 = 0x0f0f0f0f0f0f0f0f := by decide
  simp only [fold64]
  rw [← m1, ← m2, ← m3, and_mask 1 (by omega), and_mask 1 (by omega), and_mask 2 (by omega), and_mask 2 (by omega), and_mask 4 (by omega)]
  simp only [show 2 ^ 1 = 2 by rfl, show 2 ^ 2 = 4 by rfl, show 2 ^ 4 = 16 by rfl]
  rw [Nat.add_comm (Em 2 32 (x / 2))]
  have f1 := fold_step (P := 2) (by omega) 32 x
  have s1 := small_fold (P := 2) (m := 1) (by omega) 32 x (small_of 2 1 (by omega) (by omega) _ _)
  generalize ha : Em 2 32 x + Em 2 32 (x / 2) = a at f1 s1 ⊢
  rw [Nat.add_comm (Em 4 16 (a / 4))]
  have f2 := fold_step (P := 4) (by omega) 16 a
  have s2 := small_fold (P := 4) (m := 2) (by omega) 16 a s1
  generalize hb : Em 4 16 a + Em 4 16 (a / 4) = b at f2 s2 ⊢
  have lb : b < 16 ^ 17 := by
    have h1 := em_lt (P := 4) (by omega) 16 a
    have h2 := em_lt (P := 4) (by omega) 16 (a / 4)
    have : (4 * 4) ^ 16 + (4 * 4) ^ 16 ≤ 16 ^ 17 := by decide
    omega
  have lb16 : b < 16 ^ 16 := by
    -- its digits are small, and there are sixteen
    have hd : b / 16 ^ 16 = 0 := by
      have h1 := em_lt (P := 4) (by omega) 16 a
      have h2 := em_lt (P := 4) (by omega) 16 (a / 4)
      have key : ∀ (n u v : Nat), (Em 4 n u + Em 4 n v) / (4 * 4) ^ n = 0 := by
        intro n
        induction n with
        | zero => intro u v; simp [Em]
        | succ n ih =>
          intro u v
          have e : Em 4 (n + 1) u + Em 4 (n + 1) v = (u % 4 + v % 4) + 4 * 4 * (Em 4 n (u / (4 * 4)) + Em 4 n (v / (4 * 4))) := by simp only [Em]; omega
          have hlt : u % 4 + v % 4 < 4 * 4 := by omega
          rw [e, Nat.pow_succ, Nat.mul_comm ((4 * 4) ^ n), ← Nat.div_div_eq_div_mul, (split2 hlt).2]
          exact ih _ _
      have := key 16 a (a / 4)
      rw [hb] at this
      exact this
    have := Nat.div_add_mod b (16 ^ 16)
    have := Nat.mod_lt b (show 16 ^ 16 > 0 by decide)
    omega
  have s3 := em_sum (P := 16) (m := 4) (by omega) (by omega) 8 b (small_more (by omega) 16 1 b lb16 s2)
  rw [s3]
  refine ⟨small_fold (P := 16) (m := 4) (by omega) 8 b s2, ?_, ?_⟩
  · rw [fold_step (P := 16) (by omega) 8 b, f2, f1, pop_dg]
  · have h1 := em_lt (P := 16) (by omega) 8 (b / 16 + b)
    rw [s3] at h1
    have : (16 * 16) ^ 8 = 2 ^ 64 := by decide
    omega
theorem pop_le : ∀ n x, pop n x ≤ n
  | 0, _ => Nat.le_refl _
  | n + 1, x => by simp only [pop]; have := pop_le n (x / 2); omega
theorem div_of {a b m : Nat} (ha : a < m) : (a + m * b) / m = b := by rw [Nat.add_mul_div_left _ _ (by omega), Nat.div_eq_of_lt ha, Nat.zero_add]
/-- Eight digits, each at most eight. -/
def eight (x0 x1 x2 x3 x4 x5 x6 x7 : Nat) : Nat := x0 + 256 * (x1 + 256 * (x2 + 256 * (x3 + 256 * (x4 + 256 * (x5 + 256 * (x6 + 256 * x7))))))
theorem eight_div1 (x0 x1 x2 x3 x4 x5 x6 x7 : Nat) (h : x0 < 256) : eight x0 x1 x2 x3 x4 x5 x6 x7 / 256 = eight x1 x2 x3 x4 x5 x6 x7 0 := by
  unfold eight; rw [div_of h, Nat.mul_zero, Nat.add_zero]
theorem eight_add (x0 x1 x2 x3 x4 x5 x6 x7 y0 y1 y2 y3 y4 y5 y6 y7 : Nat) : eight x0 x1 x2 x3 x4 x5 x6 x7 + eight y0 y1 y2 y3 y4 y5 y6 y7 = eight (x0 + y0) (x1 + y1) (x2 + y2) (x3 + y3) (x4 + y4) (x5 + y5) (x6 + y6) (x7 + y7) := by
  unfold eight; omega
theorem eight_lt (x0 x1 x2 x3 x4 x5 x6 x7 : Nat) (h0 : x0 < 256) (h1 : x1 < 256) (h2 : x2 < 256) (h3 : x3 < 256) (h4 : x4 < 256) (h5 : x5 < 256) (h6 : x6 < 256) (h7 : x7 < 256) : eight x0 x1 x2 x3 x4 x5 x6 x7 < 18446744073709551616 := by
  unfold eight; omega
theorem eight_of {z : Nat} (hz : z < 2 ^ 64) : z = eight (z % 256) (z / 256 % 256) (z / 256 / 256 % 256) (z / 256 / 256 / 256 % 256) (z / 256 / 256 / 256 / 256 % 256) (z / 256 / 256 / 256 / 256 / 256 % 256) (z / 256 / 256 / 256 / 256 / 256 / 256 % 256) (z / 256 / 256 / 256 / 256 / 256 / 256 / 256 % 256) := by
  have step : ∀ x : Nat, x = x % 256 + 256 * (x / 256) := fun x => (Nat.mod_add_div x 256).symm
  have last : z / 256 / 256 / 256 / 256 / 256 / 256 / 256 % 256 = z / 256 / 256 / 256 / 256 / 256 / 256 / 256 := by
    rw [Nat.mod_eq_of_lt]
    simp only [Nat.div_div_eq_div_mul]
    exact Nat.div_lt_of_lt_mul (by simpa using hz)
  unfold eight
  rw [last, ← step, ← step, ← step, ← step, ← step, ← step, ← step]
theorem last_eight (x0 x1 x2 x3 x4 x5 x6 x7 : Nat) (h0 : x0 ≤ 8) (h1 : x1 ≤ 8) (h2 : x2 ≤ 8) (h3 : x3 ≤ 8) (h4 : x4 ≤ 8) (h5 : x5 ≤ 8) (h6 : x6 ≤ 8) (h7 : x7 ≤ 8) {z c d : Nat} (hz : z = eight x0 x1 x2 x3 x4 x5 x6 x7) (hc : c = z + z / 256) (hd : d = c + c / 256 / 256) :
    (d + d / 256 / 256 / 256 / 256) % 128 = x0 + x1 + x2 + x3 + x4 + x5 + x6 + x7 ∧ d + d / 256 / 256 / 256 / 256 < 18446744073709551616 ∧ d < 18446744073709551616 ∧ c < 18446744073709551616 := by
  rw [hz, eight_div1 _ _ _ _ _ _ _ _ (by omega), eight_add] at hc
  rw [hc, eight_div1 _ _ _ _ _ _ _ _ (by omega), eight_div1 _ _ _ _ _ _ _ _ (by omega), eight_add] at hd
  obtain ⟨f, e⟩ : ∃ f, d + d / 256 / 256 / 256 / 256 = f := ⟨_, rfl⟩
  rw [e]
  rw [hd, eight_div1 _ _ _ _ _ _ _ _ (by omega), eight_div1 _ _ _ _ _ _ _ _ (by omega), eight_div1 _ _ _ _ _ _ _ _ (by omega), eight_div1 _ _ _ _ _ _ _ _ (by omega), eight_add] at e
  clear hz
  refine ⟨?_, ?_, ?_, ?_⟩
  · rw [← e]
    unfold eight
    rw [show ∀ a b : Nat, a + 256 * b = a + 128 * (2 * b) from fun a b => by omega, Nat.add_mul_mod_self_left, Nat.mod_eq_of_lt (by omega)]
    omega
  · rw [← e]; exact eight_lt _ _ _ _ _ _ _ _ (by omega) (by omega) (by omega) (by omega) (by omega) (by omega) (by omega) (by omega)
  · rw [hd]; exact eight_lt _ _ _ _ _ _ _ _ (by omega) (by omega) (by omega) (by omega) (by omega) (by omega) (by omega) (by omega)
  · rw [hc]; exact eight_lt _ _ _ _ _ _ _ _ (by omega) (by omega) (by omega) (by omega) (by omega) (by omega) (by omega) (by omega)
theorem last_sum {z : Nat} (h : Small 256 8 8 z) (hz : z < 2 ^ 64) {c d : Nat} (hc : c = z + z / 256) (hd : d = c + c / 65536) :
    (d + d / 4294967296) % 128 = Dg 256 8 z ∧ d + d / 4294967296 < 18446744073709551616 ∧ d < 18446744073709551616 ∧ c < 18446744073709551616 := by
  obtain ⟨h0, h1, h2, h3, h4, h5, h6, h7, _⟩ := h
  have hd' : d = c + c / 256 / 256 := by rw [hd, Nat.div_div_eq_div_mul]
  have := last_eight _ _ _ _ _ _ _ _ h0 h1 h2 h3 h4 h5 h6 h7 (eight_of hz) hc hd'
  rw [show d / 4294967296 = d / 256 / 256 / 256 / 256 by simp only [Nat.div_div_eq_div_mul]]
  refine ⟨?_, this.2⟩
  rw [this.1]
  simp only [Dg]
  omega
end Go.Ab.Pop


/- A row of numbers by its bits, level by level. Plain Lean, no program. -/
namespace Go.Ab.Bs
open Go.Ab.Wd
set_option linter.unusedVariables false
set_option linter.unusedSimpArgs false
/-- The bit k of a number. -/
def bitb (k : Nat) (x : Int) : Bool := decide (x.toNat / 2 ^ k % 2 = 1)
def low (k : Nat) (l : List Int) : List Int := l.filter fun x => !bitb k x
def high (k : Nat) (l : List Int) : List Int := l.filter (bitb k)
def down (k : Nat) (l : List Int) : List Int := low k l ++ high k l
/-- The bits of the levels, from the highest one on. -/
def levels : Nat → List Int → List (List Bool)
  | 0, _ => []
  | k + 1, l => l.map (bitb k) :: levels k (down k l)
theorem low_length (k : Nat) (l : List Int) : (low k l).length + (high k l).length = l.length := by
  induction l with
  | nil => rfl
  | cons x l ih =>
    unfold low high at ih ⊢
    cases h : bitb k x <;> simp [h] <;> omega
theorem down_length (k : Nat) (l : List Int) : (down k l).length = l.length := by unfold down; rw [List.length_append, low_length]
theorem down_mem {k : Nat} {l : List Int} {x : Int} : x ∈ down k l ↔ x ∈ l := by
  unfold down low high
  rw [List.mem_append, List.mem_filter, List.mem_filter]
  cases h : bitb k x <;> simp
/-- The row ahead of a level: row w l w = l, row w l k: what is behind the levels w-1 .. k. -/
def rowAt : Nat → List Int → Nat → List Int
  | 0, l, _ => l
  | w + 1, l, k => if k = w + 1 then l else rowAt w (down w l) k
theorem rowAt_top (w : Nat) (l : List Int) : rowAt w l w = l := by cases w <;> simp [rowAt]
theorem rowAt_step : ∀ (w : Nat) (l : List Int) (k : Nat), k < w → rowAt w l k = down k (rowAt w l (k + 1))
  | 0, _, _, h => by omega
  | w + 1, l, k, h => by
    by_cases c : k = w
    · subst c
      rw [rowAt, if_neg (by omega), rowAt_top, rowAt, if_pos rfl]
    · rw [rowAt, if_neg (by omega), rowAt, if_neg (by omega)]
      exact rowAt_step w _ k (by omega)
theorem rowAt_length (w : Nat) (l : List Int) (k : Nat) : (rowAt w l k).length = l.length := by
  induction w generalizing l with
  | zero => rfl
  | succ w ih =>
    rw [rowAt]
    split
    · rfl
    · rw [ih, down_length]
theorem rowAt_mem (w : Nat) (l : List Int) (k : Nat) (x : Int) : x ∈ rowAt w l k ↔ x ∈ l := by
  induction w generalizing l with
  | zero => rfl
  | succ w ih =>
    rw [rowAt]
    split
    · rfl
    · rw [ih, down_mem]
/-! ### parts of a row -/
/-- A part stands in a row from a place on. -/
def Part (r : List Int) (a : Nat) (s : List Int) : Prop := ∃ x y, r = x ++ s ++ y ∧ x.length = a
theorem Part.whole (r : List Int) : Part r 0 r := ⟨[], [], by simp, rfl⟩
theorem Part.le {r s : List Int} {a : Nat} (h : Part r a s) : a + s.length ≤ r.length := by obtain ⟨x, y, rfl, rfl⟩ := h; simp
theorem Part.get {r s : List Int} {a i : Nat} (h : Part r a s) (hi : i < s.length) : r[a + i]? = s[i]? := by
  obtain ⟨x, y, rfl, rfl⟩ := h
  rw [List.append_assoc, List.getElem?_append_right (by omega), Nat.add_sub_cancel_left, List.getElem?_append_left hi]
theorem Part.of_take {r : List Int} {a b : Nat} (hab : a ≤ b) (hb : b ≤ r.length) : Part r a ((r.take b).drop a) :=
  ⟨r.take a, r.drop b, by
    have e1 : r.take b = r.take a ++ (r.take b).drop a := by
      conv => lhs; rw [← List.take_append_drop a (r.take b)]
      rw [List.take_take, Nat.min_eq_left hab]
    rw [← e1, List.take_append_drop], by simp; omega⟩
/-- How many ones, noughts stand ahead of a place. -/
def onesTo (b : List Bool) (i : Nat) : Nat := ((b.take i).filter id).length
def zerosTo (b : List Bool) (i : Nat) : Nat := min i b.length - onesTo b i
theorem onesTo_map (k : Nat) (r : List Int) (i : Nat) : onesTo (r.map (bitb k)) i = (high k (r.take i)).length := by
  unfold onesTo high
  rw [← List.map_take, List.filter_map, List.length_map]; rfl
theorem zerosTo_map (k : Nat) (r : List Int) (i : Nat) : zerosTo (r.map (bitb k)) i = (low k (r.take i)).length := by
  unfold zerosTo
  rw [onesTo_map, List.length_map]
  have := low_length k (r.take i)
  rw [List.length_take] at this
  omega
/-- Where a place of a level leads. -/
def goto (b : List Bool) (i : Nat) (one : Bool) : Nat := if one = true then zerosTo b b.length + onesTo b i else zerosTo b i
theorem Part.down {r s : List Int} {a : Nat} (h : Part r a s) (k : Nat) (one : Bool) :
    Part (down k r) (goto (r.map (bitb k)) a one) (s.filter fun x => bitb k x == one) ∧
      goto (r.map (bitb k)) (a + s.length) one = goto (r.map (bitb k)) a one + (s.filter fun x => bitb k x == one).length := by
  obtain ⟨x, y, rfl, rfl⟩ := h
  have e1 : (x ++ s ++ y).take x.length = x := by rw [List.append_assoc, List.take_left']; rfl
  have e2 : (x ++ s ++ y).take (x.length + s.length) = x ++ s := by rw [List.take_left']; simp
  cases one with
  | false =>
    simp only [goto, Bool.false_eq_true, if_false, zerosTo_map, e1, e2]
    have hl : (s.filter fun x => bitb k x == false) = low k s := by unfold low; congr 1; funext z; cases bitb k z <;> rfl
    rw [hl]
    refine ⟨⟨low k x, low k y ++ high k (x ++ s ++ y), by simp [Bs.down, low], rfl⟩, by simp [low]⟩
  | true =>
    simp only [goto, if_true, zerosTo_map, onesTo_map, e1, e2, List.length_map, List.take_length]
    have hl : (s.filter fun x => bitb k x == true) = high k s := by unfold high; congr 1; funext z; cases bitb k z <;> rfl
    rw [hl]
    refine ⟨⟨low k (x ++ s ++ y) ++ high k x, high k y, by simp [Bs.down, high], by simp⟩, by simp [high]; omega⟩
/-- The upper bits agree. -/
def alike (k : Nat) (c x : Int) : Bool := decide (x.toNat / 2 ^ k = c.toNat / 2 ^ k)
theorem alike_step (k : Nat) (c x : Int) : alike k c x = (alike (k + 1) c x && (bitb k x == bitb k c)) := by
  unfold alike bitb
  have e1 : x.toNat / 2 ^ (k + 1) = x.toNat / 2 ^ k / 2 := by rw [Nat.pow_succ, Nat.div_div_eq_div_mul]
  have e2 : c.toNat / 2 ^ (k + 1) = c.toNat / 2 ^ k / 2 := by rw [Nat.pow_succ, Nat.div_div_eq_div_mul]
  rw [e1, e2]
  generalize x.toNat / 2 ^ k = u
  generalize c.toNat / 2 ^ k = v
  have : (decide (u % 2 = 1) == decide (v % 2 = 1)) = decide (u % 2 = v % 2) := by
    rcases Nat.mod_two_eq_zero_or_one u with h1 | h1 <;> rcases Nat.mod_two_eq_zero_or_one v with h2 | h2 <;> simp [h1, h2]
  rw [this, ← Bool.decide_and]
  congr 1
  exact propext (by omega)
/-- Going down along the bits of c: what is left of a part is what agrees with c. -/
theorem Part.path {w : Nat} {l s : List Int} {a k : Nat} {c : Int} (hk : k < w) (h : Part (rowAt w l (k + 1)) a (s.filter (alike (k + 1) c))) :
    Part (rowAt w l k) (goto ((rowAt w l (k + 1)).map (bitb k)) a (bitb k c)) (s.filter (alike k c)) ∧
      goto ((rowAt w l (k + 1)).map (bitb k)) (a + (s.filter (alike (k + 1) c)).length) (bitb k c) = goto ((rowAt w l (k + 1)).map (bitb k)) a (bitb k c) + (s.filter (alike k c)).length := by
  have h1 := h.down k (bitb k c)
  rw [List.filter_filter] at h1
  have e : (fun a => (bitb k a == bitb k c) && alike (k + 1) c a) = alike k c := by funext x; rw [alike_step k c x, Bool.and_comm]
  rw [e] at h1
  rw [rowAt_step w l k hk]
  exact h1
end Go.Ab.Bs


/- The count of ones of a word; numbers of words. -/
namespace Go.Ab
open Go Go.Proofs Go.Ab.Wd Go.Ab.Bs Go.Ab.Sai
set_option linter.unusedVariables false
set_option linter.unusedSimpArgs false
theorem wrapu64 {x : Int} (h0 : 0 ≤ x) (h1 : x < 18446744073709551616) : IntKind.wrap .u64 x = x := by
  unfold IntKind.wrap
  have e2 : (2 : Int) ^ IntKind.u64.bits = 18446744073709551616 := by decide
  simp [e2, IntKind.signed]; omega
theorem and_u64 {a b : Nat} (ha : a < 18446744073709551616) (hb : b < 18446744073709551616) : bitOp .and .u64 (a : Int) (b : Int) = ((a &&& b : Nat) : Int) := by
  have e : IntKind.u64.bits = 64 := by decide
  have h : a &&& b < 18446744073709551616 := Nat.lt_of_le_of_lt Nat.and_le_left ha
  unfold bitOp; simp only [e, BitVec.ofInt_natCast, BitVec.toNat_and, BitVec.toNat_ofNat]
  rw [Nat.mod_eq_of_lt (by simpa using ha), Nat.mod_eq_of_lt (by simpa using hb), wrapu64 (by omega) (by omega)]
theorem or_u64 {a b : Nat} (ha : a < 18446744073709551616) (hb : b < 18446744073709551616) : bitOp .or .u64 (a : Int) (b : Int) = ((a ||| b : Nat) : Int) := by
  have e : IntKind.u64.bits = 64 := by decide
  have h : a ||| b < 2 ^ 64 := Nat.or_lt_two_pow (by simpa using ha) (by simpa using hb)
  unfold bitOp; simp only [e, BitVec.ofInt_natCast, BitVec.toNat_or, BitVec.toNat_ofNat]
  rw [Nat.mod_eq_of_lt (by simpa using ha), Nat.mod_eq_of_lt (by simpa using hb), wrapu64 (by omega) (by omega)]
theorem shr_u64 {a s : Nat} (hs : s ≤ 64) : shrI .u64 (a : Int) (s : Int) = ((a / 2 ^ s : Nat) : Int) := by
  have e : IntKind.u64.bits = 64 := by decide
  unfold shrI
  rw [e, Int.toNat_natCast, Nat.min_eq_left hs, Int.fdiv_eq_ediv_of_nonneg _ (Int.le_of_lt (Int.pow_pos (by omega)))]
  simp
theorem wrap_bits (s : Nat) : BitVec.ofInt 64 (IntKind.wrap .i64 (s : Int)) = BitVec.ofNat 64 s := by
  apply BitVec.eq_of_toNat_eq
  rw [BitVec.toNat_ofInt, BitVec.toNat_ofNat]
  unfold IntKind.wrap
  have e1 : (2 : Int) ^ IntKind.i64.bits = 18446744073709551616 := by decide
  have e3 : (2 : Int) ^ (IntKind.i64.bits - 1) = 9223372036854775808 := by decide
  simp only [e1, e3, IntKind.signed]
  simp
  split <;> omega
theorem and_127 {s : Nat} : bitOp .and .i64 (IntKind.wrap .i64 (s : Int)) 127 = ((s % 128 : Nat) : Int) := by
  have e : IntKind.i64.bits = 64 := by decide
  show IntKind.wrap .i64 (BitVec.ofInt 64 (IntKind.wrap .i64 (s : Int)) &&& BitVec.ofInt 64 127).toNat = _
  rw [wrap_bits]
  have h : (BitVec.ofNat 64 s &&& BitVec.ofInt 64 127).toNat = s % 128 := by
    rw [BitVec.toNat_and, BitVec.toNat_ofNat, show (BitVec.ofInt 64 127).toNat = 2 ^ 7 - 1 by decide, Nat.and_two_pow_sub_one_eq_mod]
    omega
  rw [h, wrap64 (by omega) (by omega)]
theorem count_run (σ : Store) {x : Nat} (hx : x < 2 ^ 64) : Runs Try.prog 53 [.int .u64 x] σ (.int .i64 (Pop.pop 64 x : Nat)) σ := by
  refine Runs.intro (fn := Try.f53) (by kernel_rfl) (by kernel_rfl) (Ev.of fun k => ?_)
  rw [f53_eq]
  obtain ⟨F1, F2, F3⟩ := Pop.fold64_spec x hx
  obtain ⟨a, ha⟩ : ∃ a, a = (x / 2 &&& 0x5555555555555555) + (x &&& 0x5555555555555555) := ⟨_, rfl⟩
  obtain ⟨b, hb⟩ : ∃ b, b = (a / 4 &&& 0x3333333333333333) + (a &&& 0x3333333333333333) := ⟨_, rfl⟩
  obtain ⟨z, hz⟩ : ∃ z, z = (b / 16 + b) &&& 0x0f0f0f0f0f0f0f0f := ⟨_, rfl⟩
  have ez : Pop.fold64 x = z := by rw [hz, hb, ha]; rfl
  rw [ez] at F1 F2 F3
  obtain ⟨c, hc⟩ : ∃ c, c = z + z / 256 := ⟨_, rfl⟩
  obtain ⟨d, hd⟩ : ∃ d, d = c + c / 65536 := ⟨_, rfl⟩
  obtain ⟨L1, L2, L3, L4⟩ := Pop.last_sum F1 F3 hc hd
  have a1 : x / 2 &&& 0x5555555555555555 ≤ 0x5555555555555555 := Nat.and_le_right
  have a2 : x &&& 0x5555555555555555 ≤ 0x5555555555555555 := Nat.and_le_right
  have b1 : a / 4 &&& 0x3333333333333333 ≤ 0x3333333333333333 := Nat.and_le_right
  have b2 : a &&& 0x3333333333333333 ≤ 0x3333333333333333 := Nat.and_le_right
  have s1 : shrI .u64 (x : Int) 1 = ((x / 2 : Nat) : Int) := shr_u64 (s := 1) (by omega)
  have s2 : shrI .u64 (a : Int) 2 = ((a / 4 : Nat) : Int) := shr_u64 (s := 2) (by omega)
  have s4 : shrI .u64 (b : Int) 4 = ((b / 16 : Nat) : Int) := shr_u64 (s := 4) (by omega)
  have s8 : shrI .u64 (z : Int) 8 = ((z / 256 : Nat) : Int) := shr_u64 (s := 8) (by omega)
  have s16 : shrI .u64 (c : Int) 16 = ((c / 65536 : Nat) : Int) := shr_u64 (s := 16) (by omega)
  have s32 : shrI .u64 (d : Int) 32 = ((d / 4294967296 : Nat) : Int) := shr_u64 (s := 32) (by omega)
  have e1 : IntKind.wrap .u64 (bitOp .and .u64 (shrI .u64 (x : Int) 1) 6148914691236517205 + bitOp .and .u64 (x : Int) 6148914691236517205) = (a : Int) := by
    have q1 : bitOp .and .u64 ((x / 2 : Nat) : Int) 6148914691236517205 = ((x / 2 &&& 0x5555555555555555 : Nat) : Int) := and_u64 (b := 6148914691236517205) (by omega) (by omega)
    have q2 : bitOp .and .u64 (x : Int) 6148914691236517205 = ((x &&& 0x5555555555555555 : Nat) : Int) := and_u64 (b := 6148914691236517205) (by omega) (by omega)
    rw [s1, q1, q2, wrapu64 (by omega) (by omega), ha]; omega
  have e2 : IntKind.wrap .u64 (bitOp .and .u64 (shrI .u64 (a : Int) 2) 3689348814741910323 + bitOp .and .u64 (a : Int) 3689348814741910323) = (b : Int) := by
    have q1 : bitOp .and .u64 ((a / 4 : Nat) : Int) 3689348814741910323 = ((a / 4 &&& 0x3333333333333333 : Nat) : Int) := and_u64 (b := 3689348814741910323) (by omega) (by omega)
    have q2 : bitOp .and .u64 (a : Int) 3689348814741910323 = ((a &&& 0x3333333333333333 : Nat) : Int) := and_u64 (b := 3689348814741910323) (by omega) (by omega)
    rw [s2, q1, q2, wrapu64 (by omega) (by omega), hb]; omega
  have e3 : bitOp .and .u64 (IntKind.wrap .u64 (shrI .u64 (b : Int) 4 + (b : Int))) 1085102592571150095 = (z : Int) := by
    rw [s4, wrapu64 (by omega) (by omega), ← Int.natCast_add, hz]
    exact and_u64 (b := 1085102592571150095) (by omega) (by omega)
  have e4 : IntKind.wrap .u64 ((z : Int) + shrI .u64 (z : Int) 8) = (c : Int) := by rw [s8, wrapu64 (by omega) (by omega)]; omega
  have e5 : IntKind.wrap .u64 ((c : Int) + shrI .u64 (c : Int) 16) = (d : Int) := by rw [s16, wrapu64 (by omega) (by omega)]; omega
  have e6 : IntKind.wrap .u64 ((d : Int) + shrI .u64 (d : Int) 32) = ((d + d / 4294967296 : Nat) : Int) := by rw [s32, wrapu64 (by omega) (by omega)]; omega
  simp only [e1, e2, e3, e4, e5, e6, and_127]
  rw [L1, F2]
end Go.Ab


/- Bits in words. -/
namespace Go.Ab.Bs
open Go.Ab.Wd
set_option linter.unusedVariables false
set_option linter.unusedSimpArgs false
/-- A bit at a place; past the end: none. -/
def bitAt (B : List Bool) (i : Nat) : Bool := B[i]?.getD false
theorem onesTo_succ (B : List Bool) (i : Nat) : onesTo B (i + 1) = onesTo B i + if bitAt B i = true then 1 else 0 := by
  unfold onesTo bitAt
  rw [List.take_add_one]
  cases h : B[i]? with
  | none => simp
  | some b => cases b <;> simp
theorem onesTo_zero (B : List Bool) : onesTo B 0 = 0 := by simp [onesTo]
theorem onesTo_le (B : List Bool) (i : Nat) : onesTo B i ≤ i := by
  unfold onesTo; have := List.length_filter_le id (B.take i); rw [List.length_take] at this; omega
theorem onesTo_len (B : List Bool) (i : Nat) : onesTo B i ≤ B.length := by
  unfold onesTo; have := List.length_filter_le id (B.take i); rw [List.length_take] at this; omega
theorem onesTo_ge (B : List Bool) {i : Nat} (h : B.length ≤ i) : onesTo B i = onesTo B B.length := by
  unfold onesTo; rw [List.take_of_length_le h, List.take_of_length_le (Nat.le_refl _)]
theorem pop_succ : ∀ (s x : Nat), Pop.pop (s + 1) x = Pop.pop s x + if x.testBit s = true then 1 else 0
  | 0, x => by
    simp only [Pop.pop, Nat.add_zero, Nat.zero_add, Nat.testBit_zero]
    rcases Nat.mod_two_eq_zero_or_one x with h | h <;> simp [h]
  | s + 1, x => by
    rw [Pop.pop, pop_succ s (x / 2), Pop.pop, Nat.testBit_succ]; omega
/-- Words hold bits. -/
structure WB (B : List Bool) (ws : List Int) : Prop where
  len : ws.length = (B.length + 63) / 64
  bit : ∀ j : Nat, j < ws.length → ∃ x : Nat, rd ws j = x ∧ x < 2 ^ 64 ∧ ∀ b, b < 64 → x.testBit b = bitAt B (64 * j + b)
theorem ones_pop {B : List Bool} {x j : Nat} (h : ∀ b, b < 64 → x.testBit b = bitAt B (64 * j + b)) : ∀ s, s ≤ 64 → onesTo B (64 * j + s) = onesTo B (64 * j) + Pop.pop s x
  | 0, _ => by simp [Pop.pop]
  | s + 1, hs => by
    rw [← Nat.add_assoc, onesTo_succ, ones_pop h s (by omega), pop_succ, h s (by omega)]; omega
theorem pop_low {x s : Nat} : ∀ t, Pop.pop t (x &&& (2 ^ s - 1)) = Pop.pop (min t s) x
  | 0 => by simp [Pop.pop]
  | t + 1 => by
    rw [pop_succ, pop_low t, Nat.testBit_and, Nat.testBit_two_pow_sub_one]
    by_cases c : t < s
    · rw [show min (t + 1) s = min t s + 1 by omega, pop_succ, show min t s = t by omega]; simp [c]
    · rw [show min (t + 1) s = min t s by omega]; simp [c]
/-- Sums ahead of blocks. -/
structure AH (B : List Bool) (ws ah : List Int) : Prop where
  len : ah.length = (ws.length + 7) / 8
  val : ∀ j : Nat, j < ah.length → rd ah j = (onesTo B (512 * j) : Nat)
end Go.Ab.Bs


/- A list of bits with its counts: rank, at. -/
namespace Go.Ab
open Go Go.Proofs Go.Ab.Wd Go.Ab.Bs Go.Ab.Sai
set_option linter.unusedVariables false
set_option linter.unusedSimpArgs false
section
variable {σ : Store} {b es o : Nat} {l : List AV}
theorem row_int {k : IntKind} {x : Int} (r : σ.Row b es l) (h : l[o]? = some (.int k x)) : σ.ldInt k (Ptr.add (some (b, 0)) o) = some x := by
  simp only [Store.ldInt, Ptr.add, Option.map_some, r.cell, Nat.zero_add, h, if_true]
theorem row_sl {x : Hdl} (r : σ.Row b es l) (h : l[o]? = some (.slice x)) : σ.ldSl (Ptr.add (some (b, 0)) o) = some x := by
  simp only [Store.ldSl, Ptr.add, Option.map_some, r.cell, Nat.zero_add, h]
end
/-- A list of bits in memory. -/
structure Vec (σ : Store) (p : Ptr) (B : List Bool) : Prop where
  ex : ∃ b hw ha ws ah, p = some (b, 0) ∧ σ.Row b 4 [.int .i64 B.length, .slice hw, .slice ha, .int .i64 (onesTo B B.length : Nat)] ∧ Store.Nums .u64 σ hw ws ∧ σ.Ints ha ah ∧ WB B ws ∧ AH B ws ah
  small : B.length < 2 ^ 30
theorem Vec.kp {σ σ' : Store} {p : Ptr} {B : List Bool} (v : Vec σ p B) (k : Kp σ.objs.length σ σ') : Vec σ' p B := by
  obtain ⟨b, hw, ha, ws, ah, rfl, R, W, A, wb, ab⟩ := v.ex
  exact ⟨⟨b, hw, ha, ws, ah, rfl, R.kp k R.lt, Store.Sl.kp W k, Store.Sl.kp A k, wb, ab⟩, v.small⟩
/-- The rows of a list of bits are among some. -/
structure VecF (σ : Store) (p : Ptr) (B : List Bool) (F : Nat → Prop) : Prop where
  ex : ∃ b hw ha ws ah, p = some (b, 0) ∧ σ.Row b 4 [.int .i64 B.length, .slice hw, .slice ha, .int .i64 (onesTo B B.length : Nat)] ∧ Store.Nums .u64 σ hw ws ∧ σ.Ints ha ah ∧ WB B ws ∧ AH B ws ah ∧ F b ∧ (∀ x, hw.row = some x → F x) ∧ ∀ x, ha.row = some x → F x
  small : B.length < 2 ^ 30
theorem VecF.vec {σ : Store} {p : Ptr} {B : List Bool} {F : Nat → Prop} (v : VecF σ p B F) : Vec σ p B := by
  obtain ⟨b, hw, ha, ws, ah, rfl, R, W, A, wb, ab, _, _, _⟩ := v.ex
  exact ⟨⟨b, hw, ha, ws, ah, rfl, R, W, A, wb, ab⟩, v.small⟩
theorem VecF.keep {σ σ' : Store} {p : Ptr} {B : List Bool} {F : Nat → Prop} (v : VecF σ p B F) (k : ∀ x, F x → σ'.objs[x]? = σ.objs[x]?) : VecF σ' p B F := by
  obtain ⟨b, hw, ha, ws, ah, rfl, R, W, A, wb, ab, f1, f2, f3⟩ := v.ex
  exact ⟨⟨b, hw, ha, ws, ah, rfl, (k b f1).trans R, W.keep fun c o e => k c (f2 c (by simp [Hdl.row, e])), A.keep fun c o e => k c (f3 c (by simp [Hdl.row, e])), wb, ab, f1, f2, f3⟩, v.small⟩
section
variable {σ : Store} {p : Ptr} {B : List Bool}
theorem vec_len (v : Vec σ p B) : Runs Try.prog 37 [.ptr p] σ (.int .i64 B.length) σ := by
  obtain ⟨b, hw, ha, ws, ah, rfl, R, W, A, wb, ab⟩ := v.ex
  have e0 := row_int R (o := 0) rfl
  refine Runs.intro (fn := Try.f37) (by kernel_rfl) (by kernel_rfl) (Ev.of fun k => ?_)
  rw [f37_eq]
  simp only [Option.bind_some, decide_eq_true_eq, decide_eq_false_iff_not, Bool.not_eq_true', Bool.not_true, Bool.not_false, Bool.false_eq_true, Bool.true_eq_false, Bool.not_eq_eq_eq_not, beq_self_eq_true, beqFT, beqTF, decide_true, decide_false, not_false_eq_true, not_true_eq_false, ne_eq, true_and, and_true, false_and, and_false, and_self, if_true, if_false, ite_true, ite_false, Bool.and_true, Bool.and_false, Bool.true_and, Bool.false_and, Bool.or_true, Bool.true_or, Bool.or_false, Bool.false_or, or_true, true_or, or_false, false_or, or_self, AV.asInt, AV.asBool, AV.asSl, AV.asPtr, AV.asFn, AV.asStr, AV.asMap, AV.asIfc, AV.item, List.length_cons, List.length_nil, List.getElem?_cons_zero, List.getElem?_cons_succ, Nat.zero_add, Option.isNone_some, e0]
theorem vec_ones (v : Vec σ p B) : Runs Try.prog 38 [.ptr p] σ (.int .i64 (onesTo B B.length : Nat)) σ := by
  obtain ⟨b, hw, ha, ws, ah, rfl, R, W, A, wb, ab⟩ := v.ex
  have e0 := row_int R (o := 3) rfl
  refine Runs.intro (fn := Try.f38) (by kernel_rfl) (by kernel_rfl) (Ev.of fun k => ?_)
  rw [f38_eq]
  simp only [Option.bind_some, decide_eq_true_eq, decide_eq_false_iff_not, Bool.not_eq_true', Bool.not_true, Bool.not_false, Bool.false_eq_true, Bool.true_eq_false, Bool.not_eq_eq_eq_not, beq_self_eq_true, beqFT, beqTF, decide_true, decide_false, not_false_eq_true, not_true_eq_false, ne_eq, true_and, and_true, false_and, and_false, and_self, if_true, if_false, ite_true, ite_false, Bool.and_true, Bool.and_false, Bool.true_and, Bool.false_and, Bool.or_true, Bool.true_or, Bool.or_false, Bool.false_or, or_true, true_or, or_false, false_or, or_self, AV.asInt, AV.asBool, AV.asSl, AV.asPtr, AV.asFn, AV.asStr, AV.asMap, AV.asIfc, AV.item, List.length_cons, List.length_nil, List.getElem?_cons_zero, List.getElem?_cons_succ, Nat.zero_add, Option.isNone_some, e0]
theorem idiv64 {i : Int} (h0 : 0 ≤ i) (h1 : i < 2 ^ 62) : IntKind.wrap .i64 (Int.tdiv i 64) = (i.toNat / 64 : Nat) ∧ Int.tmod i 64 = (i.toNat % 64 : Nat) := by
  rw [Int.tdiv_eq_ediv_of_nonneg h0, Int.tmod_eq_emod_of_nonneg h0, wrap64 (by omega) (by omega)]
  omega
theorem vec_rank (v : Vec σ p B) (i : Int) : Runs Try.prog 40 [.ptr p, .int .i64 i] σ (.int .i64 (onesTo B i.toNat : Nat)) σ := by
  obtain ⟨b, hw, ha, ws, ah, rfl, R, W, A, wb, ab⟩ := v.ex
  have sm := v.small
  have e0 := row_int R (o := 0) rfl
  have e1 := row_sl R (o := 1) rfl
  have e2 := row_sl R (o := 2) rfl
  have e3 := row_int R (o := 3) rfl
  by_cases c0 : i ≤ 0
  · refine Runs.intro (fn := Try.f40) (by kernel_rfl) (by kernel_rfl) (Ev.of fun k => ?_)
    rw [f40_eq]
    simp only [Option.bind_some, decide_eq_true_eq, decide_eq_false_iff_not, Bool.not_eq_true', Bool.not_true, Bool.not_false, Bool.false_eq_true, Bool.true_eq_false, Bool.not_eq_eq_eq_not, beq_self_eq_true, beqFT, beqTF, decide_true, decide_false, not_false_eq_true, not_true_eq_false, ne_eq, true_and, and_true, false_and, and_false, and_self, if_true, if_false, ite_true, ite_false, Bool.and_true, Bool.and_false, Bool.true_and, Bool.false_and, Bool.or_true, Bool.true_or, Bool.or_false, Bool.false_or, or_true, true_or, or_false, false_or, or_self, AV.asInt, AV.asBool, AV.asSl, AV.asPtr, AV.asFn, AV.asStr, AV.asMap, AV.asIfc, AV.item, List.length_cons, List.length_nil, List.getElem?_cons_zero, List.getElem?_cons_succ, Nat.zero_add, Option.isNone_some, c0]
    rw [show i.toNat = 0 by omega, onesTo_zero]; rfl
  by_cases c1 : (B.length : Int) ≤ i
  · refine Runs.intro (fn := Try.f40) (by kernel_rfl) (by kernel_rfl) (Ev.of fun k => ?_)
    rw [f40_eq]
    simp only [Option.bind_some, decide_eq_true_eq, decide_eq_false_iff_not, Bool.not_eq_true', Bool.not_true, Bool.not_false, Bool.false_eq_true, Bool.true_eq_false, Bool.not_eq_eq_eq_not, beq_self_eq_true, beqFT, beqTF, decide_true, decide_false, not_false_eq_true, not_true_eq_false, ne_eq, true_and, and_true, false_and, and_false, and_self, if_true, if_false, ite_true, ite_false, Bool.and_true, Bool.and_false, Bool.true_and, Bool.false_and, Bool.or_true, Bool.true_or, Bool.or_false, Bool.false_or, or_true, true_or, or_false, false_or, or_self, AV.asInt, AV.asBool, AV.asSl, AV.asPtr, AV.asFn, AV.asStr, AV.asMap, AV.asIfc, AV.item, List.length_cons, List.length_nil, List.getElem?_cons_zero, List.getElem?_cons_succ, Nat.zero_add, Option.isNone_some, c0, e0, c1, e3]
    rw [onesTo_ge B (i := i.toNat) (by omega)]
  obtain ⟨d1, d2⟩ := idiv64 (i := i) (by omega) (by omega)
  obtain ⟨w, hw_⟩ : ∃ w, w = i.toNat / 64 := ⟨_, rfl⟩
  rw [← hw_] at d1
  have lw := nums_len W
  have la := A.ilen
  have wl := wb.len
  have al := ab.len
  have d3 : IntKind.wrap .i64 (Int.tdiv (w : Nat) 8) = (w / 8 : Nat) := by
    rw [Int.tdiv_eq_ediv_of_nonneg (by omega), wrap64 (by omega) (by omega)]; omega
  have d4 : IntKind.wrap .i64 ((w / 8 : Nat) * 8) = (w / 8 * 8 : Nat) := by
    rw [wrap64 (by omega) (by omega)]; omega
  have ra := A.rd (i := (w / 8 : Nat)) (by omega) (by omega)
  rw [ab.val _ (by omega)] at ra
  obtain ⟨r, e, rfl⟩ := EvI.up (f := fun k s => stepF Try.prog (gm Try.prog k) drawn k Try.f40 [1, 1, 1, 1, 1, 0, 1, 0] [7, 6, 5, 1, 0] s) (w - w / 8 * 8)
    (fun t s => s = ([.int .i64 (w / 8 * 8 + t : Nat), .int .i64 (onesTo B (64 * (w / 8 * 8 + t)) : Nat), .int .i64 (w : Nat), .int .i64 i, .ptr (some (b, 0))], σ))
    (fun r => r = (AX.exit 0, [(6, .int .i64 (onesTo B (64 * w) : Nat)), (5, .int .i64 (w : Nat)), (1, .int .i64 i), (0, .ptr (some (b, 0)))], σ))
    (by
      rintro t s ht rfl
      obtain ⟨j, hj⟩ : ∃ j, j = w / 8 * 8 + t := ⟨_, rfl⟩
      rw [← hj, show w / 8 * 8 + (t + 1) = j + 1 by omega]
      have j0 : (0 : Int) ≤ j := by omega
      have j1 : (j : Int) < w := by omega
      have j2 : (j : Int) < hw.len := by omega
      obtain ⟨x, x1, x2, x3⟩ := wb.bit j (by omega)
      have rx := nums_rd W (i := (j : Int)) (by omega) (by omega)
      obtain ⟨n3, r3⟩ := count_run σ x2
      have op := ones_pop x3 64 (Nat.le_refl _)
      have ol := onesTo_le B (64 * j)
      have pl := Pop.pop_le 64 x
      have w1 : IntKind.wrap .i64 ((onesTo B (64 * j) : Nat) + (Pop.pop 64 x : Nat)) = (onesTo B (64 * (j + 1)) : Nat) := by
        rw [wrap64 (by omega) (by omega), show 64 * (j + 1) = 64 * j + 64 by omega, op]; omega
      have w2 : IntKind.wrap .i64 ((j : Int) + 1) = ((j + 1 : Nat) : Int) := by rw [wrap64 (by omega) (by omega)]; omega
      refine ⟨([.int .i64 (j + 1 : Nat), .int .i64 (onesTo B (64 * (j + 1)) : Nat), .int .i64 (w : Nat), .int .i64 i, .ptr (some (b, 0))], σ), ⟨n3, fun k hk => ?_⟩, rfl⟩
      have r3 := r3 k hk
      simp only at r3
      simp only [f40_L11111010]
      simp only [Option.bind_some, decide_eq_true_eq, decide_eq_false_iff_not, Bool.not_eq_true', Bool.not_true, Bool.not_false, Bool.false_eq_true, Bool.true_eq_false, Bool.not_eq_eq_eq_not, beq_self_eq_true, beqFT, beqTF, decide_true, decide_false, not_false_eq_true, not_true_eq_false, ne_eq, true_and, and_true, false_and, and_false, and_self, if_true, if_false, ite_true, ite_false, Bool.and_true, Bool.and_false, Bool.true_and, Bool.false_and, Bool.or_true, Bool.true_or, Bool.or_false, Bool.false_or, or_true, true_or, or_false, false_or, or_self, AV.asInt, AV.asBool, AV.asSl, AV.asPtr, AV.asFn, AV.asStr, AV.asMap, AV.asIfc, AV.item, List.length_cons, List.length_nil, List.getElem?_cons_zero, List.getElem?_cons_succ, Nat.zero_add, j0, j1, j2, e1, rx, x1, r3, w1, w2])
    (by
      rintro s rfl
      rw [show w / 8 * 8 + (w - w / 8 * 8) = w by omega]
      exact ⟨_, Ev.of fun k => by simp only [f40_L11111010]; simp only [Option.bind_some, decide_eq_true_eq, decide_eq_false_iff_not, Bool.not_eq_true', Bool.not_true, Bool.not_false, Bool.false_eq_true, Bool.true_eq_false, Bool.not_eq_eq_eq_not, beq_self_eq_true, beqFT, beqTF, decide_true, decide_false, not_false_eq_true, not_true_eq_false, ne_eq, true_and, and_true, false_and, and_false, and_self, if_true, if_false, ite_true, ite_false, Bool.and_true, Bool.and_false, Bool.true_and, Bool.false_and, Bool.or_true, Bool.true_or, Bool.or_false, Bool.false_or, or_true, true_or, or_false, false_or, or_self, AV.asInt, AV.asBool, AV.asSl, AV.asPtr, AV.asFn, AV.asStr, AV.asMap, AV.asIfc, AV.item, List.length_cons, List.length_nil, List.getElem?_cons_zero, List.getElem?_cons_succ, Nat.zero_add, Int.lt_irrefl], rfl⟩)
    (s := ([.int .i64 (w / 8 * 8 : Nat), .int .i64 (onesTo B (512 * (w / 8)) : Nat), .int .i64 (w : Nat), .int .i64 i, .ptr (some (b, 0))], σ)) (by rw [show 64 * (w / 8 * 8 + 0) = 512 * (w / 8) by omega]; rfl)
  obtain ⟨n1, e⟩ := loopF_ev e
  obtain ⟨x, x1, x2, x3⟩ := wb.bit w (by omega)
  have rx := nums_rd W (i := (w : Int)) (by omega) (by omega)
  have hs : i.toNat % 64 < 64 := Nat.mod_lt _ (by omega)
  have p2 : 2 ^ (i.toNat % 64) ≤ 2 ^ 63 := Nat.pow_le_pow_right (by omega) (by omega)
  have p1 : 1 ≤ 2 ^ (i.toNat % 64) := Nat.one_le_two_pow
  have q1 : IntKind.wrap .u64 (shlI .u64 1 (i.toNat % 64 : Nat) - 1) = ((2 ^ (i.toNat % 64) - 1 : Nat) : Int) := by
    have eb : IntKind.u64.bits = 64 := by decide
    unfold shlI
    rw [eb, Int.toNat_natCast, Nat.min_eq_left (by omega), Int.one_mul]
    have : ((2 : Int) ^ (i.toNat % 64)) = ((2 ^ (i.toNat % 64) : Nat) : Int) := by simp
    rw [this, wrapu64 (x := ((2 ^ (i.toNat % 64) : Nat) : Int)) (by omega) (by omega), wrapu64 (by omega) (by omega)]; omega
  have q2 : bitOp .and .u64 (x : Int) ((2 ^ (i.toNat % 64) - 1 : Nat) : Int) = ((x &&& (2 ^ (i.toNat % 64) - 1) : Nat) : Int) := and_u64 (by omega) (by omega)
  obtain ⟨n2, r2⟩ := count_run σ (x := x &&& (2 ^ (i.toNat % 64) - 1)) (Nat.lt_of_le_of_lt Nat.and_le_left x2)
  have pl := pop_low (x := x) (s := i.toNat % 64) 64
  rw [Nat.min_eq_right (by omega)] at pl
  have op := ones_pop x3 (i.toNat % 64) (by omega)
  have ol := onesTo_le B i.toNat
  rw [show 64 * w + i.toNat % 64 = i.toNat by omega] at op
  have w1 : IntKind.wrap .i64 ((onesTo B (64 * w) : Nat) + (Pop.pop 64 (x &&& (2 ^ (i.toNat % 64) - 1)) : Nat)) = (onesTo B i.toNat : Nat) := by
    rw [pl, wrap64 (by omega) (by omega), op]; omega
  have c2 : (0 : Int) ≤ (w / 8 : Nat) := by omega
  have c3 : ((w / 8 : Nat) : Int) < ha.len := by omega
  have c4 : (0 : Int) ≤ (w : Nat) := by omega
  have c5 : ((w : Nat) : Int) < hw.len := by omega
  have c6 : (0 : Int) ≤ (i.toNat % 64 : Nat) := by omega
  refine Runs.intro (fn := Try.f40) (by kernel_rfl) (by kernel_rfl) ⟨n1 + n2, fun k hk => ?_⟩
  have e := e k (by omega)
  have r2 := r2 k (by omega)
  simp only at e r2
  simp only [f40_eq]
  simp only [Option.bind_some, decide_eq_true_eq, decide_eq_false_iff_not, Bool.not_eq_true', Bool.not_true, Bool.not_false, Bool.false_eq_true, Bool.true_eq_false, Bool.not_eq_eq_eq_not, beq_self_eq_true, beqFT, beqTF, decide_true, decide_false, not_false_eq_true, not_true_eq_false, ne_eq, true_and, and_true, false_and, and_false, and_self, if_true, if_false, ite_true, ite_false, Bool.and_true, Bool.and_false, Bool.true_and, Bool.false_and, Bool.or_true, Bool.true_or, Bool.or_false, Bool.false_or, or_true, true_or, or_false, false_or, or_self, AV.asInt, AV.asBool, AV.asSl, AV.asPtr, AV.asFn, AV.asStr, AV.asMap, AV.asIfc, AV.item, List.length_cons, List.length_nil, List.getElem?_cons_zero, List.getElem?_cons_succ, Nat.zero_add, Option.isNone_some, c0, e0, c1, e2, d1, d3, d4, c2, c3, ra, e]
  rw [f40_X11111010_1]
  simp only [Option.bind_some, decide_eq_true_eq, decide_eq_false_iff_not, Bool.not_eq_true', Bool.not_true, Bool.not_false, Bool.false_eq_true, Bool.true_eq_false, Bool.not_eq_eq_eq_not, beq_self_eq_true, beqFT, beqTF, decide_true, decide_false, not_false_eq_true, not_true_eq_false, ne_eq, true_and, and_true, false_and, and_false, and_self, if_true, if_false, ite_true, ite_false, Bool.and_true, Bool.and_false, Bool.true_and, Bool.false_and, Bool.or_true, Bool.true_or, Bool.or_false, Bool.false_or, or_true, true_or, or_false, false_or, or_self, AV.asInt, AV.asBool, AV.asSl, AV.asPtr, AV.asFn, AV.asStr, AV.asMap, AV.asIfc, AV.item, List.length_cons, List.length_nil, List.getElem?_cons_zero, List.getElem?_cons_succ, Nat.zero_add, e1, c4, c5, rx, x1, d2, c6, q1, q2, r2, w1]
theorem mn2_eq (a b : Int) : mn2 a b = min a b := by unfold mn2; split <;> omega
theorem mx2_eq (a b : Int) : mx2 a b = max a b := by unfold mx2; split <;> omega
theorem vec_zeros (v : Vec σ p B) (i : Int) : Runs Try.prog 39 [.ptr p, .int .i64 i] σ (.int .i64 (zerosTo B i.toNat : Nat)) σ := by
  obtain ⟨n1, r1⟩ := vec_len v
  obtain ⟨n2, r2⟩ := vec_rank v i
  have sm := v.small
  have ol := onesTo_le B i.toNat
  have ol2 := onesTo_len B i.toNat
  have w1 : IntKind.wrap .i64 (mx2 (Int.ofNat 0) (mn2 i B.length) - (onesTo B i.toNat : Nat)) = (zerosTo B i.toNat : Nat) := by
    have : mx2 (Int.ofNat 0) (mn2 i B.length) = (min i.toNat B.length : Nat) := by rw [mn2_eq, mx2_eq]; simp only [Int.ofNat_eq_natCast]; omega
    unfold zerosTo
    rw [this, wrap64 (by omega) (by omega)]; omega
  refine Runs.intro (fn := Try.f39) (by kernel_rfl) (by kernel_rfl) ⟨n1 + n2, fun k hk => ?_⟩
  have r1 := r1 k (by omega)
  have r2 := r2 k (by omega)
  simp only at r1 r2
  simp only [f39_eq]
  simp only [Option.bind_some, decide_eq_true_eq, decide_eq_false_iff_not, Bool.not_eq_true', Bool.not_true, Bool.not_false, Bool.false_eq_true, Bool.true_eq_false, Bool.not_eq_eq_eq_not, beq_self_eq_true, beqFT, beqTF, decide_true, decide_false, not_false_eq_true, not_true_eq_false, ne_eq, true_and, and_true, false_and, and_false, and_self, if_true, if_false, ite_true, ite_false, Bool.and_true, Bool.and_false, Bool.true_and, Bool.false_and, Bool.or_true, Bool.true_or, Bool.or_false, Bool.false_or, or_true, true_or, or_false, false_or, or_self, AV.asInt, AV.asBool, AV.asSl, AV.asPtr, AV.asFn, AV.asStr, AV.asMap, AV.asIfc, AV.item, List.length_cons, List.length_nil, List.getElem?_cons_zero, List.getElem?_cons_succ, Nat.zero_add, r1, r2, w1]
end
end Go.Ab


/- Packed bits: New, Set, Words; a list of bits from them. -/
namespace Go.Ab
open Go Go.Proofs Go.Ab.Wd Go.Ab.Bs Go.Ab.Sai
set_option linter.unusedVariables false
set_option linter.unusedSimpArgs false
/-- slices.Clone. -/
theorem clone_fact {σ : Store} {h : Hdl} {l : List AV} {bs : Nat} (s : σ.Sl h 1 l) (hp : σ.prot ≤ σ.objs.length) (ho : l.all AV.one = true) (hb : 0 < bs) (hc : l.length * bs ≤ 140737488355328) :
    ∃ h' σ', Kp σ.objs.length σ σ' ∧ Grow σ' σ.objs.length h' 1 l ∧
      (if Option.isNone (Hdl.a h) = true then some (.slice Hdl.nil, σ) else Option.bind (Store.readSl (σ.push [] 1) h 1) fun x => Option.bind (Store.app (σ.push [] 1) ⟨some (σ.objs.length, 0), 0, some 0⟩ 1 bs x h.len) fun y => some (AV.slice y.1, y.2)) = some (AV.slice h', σ') := by
  by_cases c : Option.isNone (Hdl.a h) = true
  · rw [if_pos c]
    have hl : l = [] := by
      have hlen := s.len
      rcases s.row with h0 | ⟨b, o, cs, rw, e, _⟩
      · rw [h0] at hlen; exact List.length_eq_zero_iff.1 (by omega)
      · rw [e] at c; cases c
    subst hl
    exact ⟨Hdl.nil, σ, Kp.refl _ _, Grow.nil _ _ _, rfl⟩
  · rw [if_neg c]
    obtain ⟨h', σ', e1, e2, k, g⟩ := copy_app s hp ho hb hc
    exact ⟨h', σ', k, g, by rw [e1, Option.bind_some, e2]; rfl⟩
theorem cloneU_run {σ : Store} {h : Hdl} {l : List Int} (s : Store.Nums .u64 σ h l) (hp : σ.prot ≤ σ.objs.length) (hc : l.length < 2 ^ 40) :
    ∃ h' σ', Runs Try.prog 63 [.slice h] σ (.slice h') σ' ∧ Kp σ.objs.length σ σ' ∧ GrowN .u64 σ' σ.objs.length h' l := by
  obtain ⟨h', σ', k, g, e⟩ := clone_fact (bs := 8) s hp (numsL_one _ _) (by omega) (by simp; omega)
  exact ⟨h', σ', Runs.intro (fn := Try.f63) (by kernel_rfl) (by kernel_rfl) (Ev.of fun m => by rw [f63_eq]; exact e), k, g⟩
theorem cloneI_run {σ : Store} {h : Hdl} {l : List Int} (s : σ.Ints h l) (hp : σ.prot ≤ σ.objs.length) (hc : l.length < 2 ^ 40) :
    ∃ h' σ', Runs Try.prog 28 [.slice h] σ (.slice h') σ' ∧ Kp σ.objs.length σ σ' ∧ GrowI σ' σ.objs.length h' l := by
  obtain ⟨h', σ', k, g, e⟩ := clone_fact (bs := 8) s hp (intsL_one _) (by omega) (by simp; omega)
  exact ⟨h', σ', Runs.intro (fn := Try.f28) (by kernel_rfl) (by kernel_rfl) (Ev.of fun m => by rw [f28_eq]; exact e), k, g⟩
def ptrsL (l : List Ptr) : List AV := l.map AV.ptr
@[simp] theorem ptrsL_length (l : List Ptr) : (ptrsL l).length = l.length := by simp [ptrsL]
theorem ptrsL_one (l : List Ptr) : (ptrsL l).all AV.one = true := by simp [ptrsL, AV.one]
theorem cloneP_run {σ : Store} {h : Hdl} {l : List Ptr} (s : σ.Sl h 1 (ptrsL l)) (hp : σ.prot ≤ σ.objs.length) (hc : l.length < 2 ^ 40) :
    ∃ h' σ', Runs Try.prog 57 [.slice h] σ (.slice h') σ' ∧ Kp σ.objs.length σ σ' ∧ Grow σ' σ.objs.length h' 1 (ptrsL l) := by
  obtain ⟨h', σ', k, g, e⟩ := clone_fact (bs := 8) s hp (ptrsL_one _) (by omega) (by simp; omega)
  exact ⟨h', σ', Runs.intro (fn := Try.f57) (by kernel_rfl) (by kernel_rfl) (Ev.of fun m => by rw [f57_eq]; exact e), k, g⟩
/-- Packed bits in memory. -/
structure Pk (σ : Store) (L : Nat) (B : List Bool) : Prop where
  ex : ∃ ws, σ.Row L 1 (numsL .u64 ws) ∧ WB B ws
  row : σ.Row (L + 1) 3 [.int .i64 1, .int .i64 B.length, .slice (hdS L ((B.length + 63) / 64))]
theorem need_run (σ : Store) {n : Nat} (hn : n < 2 ^ 40) : Runs Try.prog 48 [.int .i64 1, .int .i64 n] σ (.int .i64 ((n + 63) / 64 : Nat)) σ := by
  refine Runs.intro (fn := Try.f48) (by kernel_rfl) (by kernel_rfl) (Ev.of fun k => ?_)
  rw [f48_eq, Int.one_mul, wrap64 (x := (n : Int)) (by omega) (by omega), wrap64 (x := (n : Int) + 63) (by omega) (by omega), Int.tdiv_eq_ediv_of_nonneg (by omega), wrap64 (by omega) (by omega)]
  congr 3
theorem mask_run (σ : Store) : Runs Try.prog 49 [.int .i64 1] σ (.int .u64 1) σ := by
  refine Runs.intro (fn := Try.f49) (by kernel_rfl) (by kernel_rfl) (Ev.of fun k => ?_)
  have w : IntKind.wrap .i64 (64 - 1) = 63 := by decide
  have e : shrI .u64 18446744073709551615 63 = 1 := (shr_u64 (a := 18446744073709551615) (s := 63) (by omega)).trans (by decide)
  have c : (0 : Int) ≤ 63 := by omega
  rw [f49_eq]
  simp only [w, e, c, if_true]
theorem rd_replicate0 (n : Nat) (j : Nat) : rd (List.replicate n (0 : Int)) j = 0 := by
  unfold rd; simp [List.getD, List.getElem?_replicate]; split <;> rfl
theorem packNew_run {σ : Store} {n : Nat} (hn : n ≤ 4194304) : ∃ σ', Runs Try.prog 29 [.int .i64 1, .int .i64 n] σ (.tuple [.ptr (some (σ.objs.length + 1, 0)), .int .i64 0]) σ' ∧ Kp σ.objs.length σ σ' ∧ σ'.objs.length = σ.objs.length + 2 ∧ Pk σ' σ.objs.length (List.replicate n false) := by
  obtain ⟨k1, r1⟩ := need_run σ (n := n) (by omega)
  have c1 : ¬ (1 : Int) < 1 := by omega
  have c2 : ¬ (64 : Int) < 1 := by omega
  have c3 : ¬ (n : Int) < 0 := by omega
  have c4 : ¬ (4194304 : Int) < n := by omega
  have c5 : (0 : Int) ≤ ((n + 63) / 64 : Nat) := by omega
  have c6 : (((n + 63) / 64 : Nat) : Int) * ((8 : Nat) : Int) ≤ 281474976710656 := by omega
  refine ⟨(σ.push (mkCells [.int .u64 0] ((n + 63) / 64)) 1).push [.int .i64 1, .int .i64 n, .slice (hdS σ.objs.length ((n + 63) / 64))] 3, Runs.intro (fn := Try.f29) (by kernel_rfl) (by kernel_rfl) ⟨k1, fun k hk => ?_⟩, ?_, by simp, ⟨⟨List.replicate ((n + 63) / 64) 0, ?_, ?_⟩, ?_⟩⟩
  · have r1 := r1 k hk
    simp only at r1
    simp only [f29_eq]
    simp only [Option.bind_some, decide_eq_true_eq, decide_eq_false_iff_not, Bool.not_eq_true', Bool.not_true, Bool.not_false, Bool.false_eq_true, Bool.true_eq_false, Bool.not_eq_eq_eq_not, beq_self_eq_true, beqFT, beqTF, decide_true, decide_false, not_false_eq_true, not_true_eq_false, ne_eq, true_and, and_true, false_and, and_false, and_self, if_true, if_false, ite_true, ite_false, Bool.and_true, Bool.and_false, Bool.true_and, Bool.false_and, Bool.or_true, Bool.true_or, Bool.or_false, Bool.false_or, or_true, true_or, or_false, false_or, or_self, AV.asInt, AV.asBool, AV.asSl, AV.asPtr, AV.asFn, AV.asStr, AV.asMap, AV.asIfc, AV.item, List.length_cons, List.length_nil, List.getElem?_cons_zero, List.getElem?_cons_succ, Nat.zero_add, c1, c2, c3, c4, r1, c5, c6, Int.le_refl, Int.toNat_natCast]
    simp [hdS]
  · exact (Kp.push _ _ (Nat.le_refl _)).push' (by simp)
  · rw [← mkCells_num]; exact Store.Row.new.push
  · refine ⟨by simp, fun j hj => ⟨0, rd_replicate0 _ _, by omega, fun b hb => ?_⟩⟩
    simp [bitAt, List.getElem?_replicate]
    split <;> rfl
  · have := (Store.Row.new : ((σ.push (mkCells [.int .u64 0] ((n + 63) / 64)) 1).push [.int .i64 1, .int .i64 n, .slice (hdS σ.objs.length ((n + 63) / 64))] 3).Row _ 3 _)
    simpa using this
/-- A bit is set. -/
theorem setbit {x s : Nat} (hx : x < 2 ^ 64) (hs : s < 64) : ∃ z : Nat, bitOp .or .u64 (bitOp .andNot .u64 (x : Int) ((2 ^ s : Nat) : Int)) ((2 ^ s : Nat) : Int) = z ∧ z < 2 ^ 64 ∧ ∀ b, b < 64 → z.testBit b = (x.testBit b || decide (b = s)) := by
  have p2 : 2 ^ s < 2 ^ 64 := Nat.pow_lt_pow_right (by omega) hs
  obtain ⟨u, hu⟩ : ∃ u, u = (BitVec.ofNat 64 x &&& ~~~BitVec.ofNat 64 (2 ^ s)).toNat := ⟨_, rfl⟩
  have ul : u < 2 ^ 64 := by rw [hu]; exact BitVec.isLt _
  have e1 : bitOp .andNot .u64 (x : Int) ((2 ^ s : Nat) : Int) = (u : Int) := by
    show IntKind.wrap .u64 (BitVec.ofInt 64 (x : Int) &&& ~~~BitVec.ofInt 64 ((2 ^ s : Nat) : Int)).toNat = _
    rw [BitVec.ofInt_natCast, BitVec.ofInt_natCast, ← hu, wrapu64 (by omega) (by omega)]
  refine ⟨u ||| 2 ^ s, by rw [e1, or_u64 (by omega) (by omega)], Nat.or_lt_two_pow ul p2, fun b hb => ?_⟩
  rw [Nat.testBit_or, Nat.testBit_two_pow, hu, BitVec.testBit_toNat, BitVec.getLsbD_and, BitVec.getLsbD_not, BitVec.getLsbD_ofNat, BitVec.getLsbD_ofNat, Nat.testBit_two_pow]
  by_cases c : s = b
  · subst c; simp
  · have c' : ¬ b = s := fun h => c h.symm
    simp [c, c', hb]
theorem Bs.WB.set {B : List Bool} {ws : List Int} (w : WB B ws) {i : Nat} (hi : i < B.length) {x z : Nat} (hx : rd ws (i / 64 : Nat) = x) (hz : z < 2 ^ 64) (hb : ∀ b, b < 64 → z.testBit b = (x.testBit b || decide (b = i % 64))) :
    WB (B.set i true) (ws.set (i / 64) (z : Int)) := by
  refine ⟨by simpa using w.len, fun j hj => ?_⟩
  rw [List.length_set] at hj
  obtain ⟨y, y1, y2, y3⟩ := w.bit j hj
  by_cases c : j = i / 64
  · subst c
    have exy : x = y := by omega
    subst exy
    refine ⟨z, ?_, hz, fun b hb' => ?_⟩
    · rw [rd_getElem (by simpa using hj)]; simp
    · rw [hb b hb', y3 b hb']
      unfold bitAt
      rw [List.getElem?_set]
      by_cases c : b = i % 64
      · rw [if_pos (by omega), if_pos (by omega)]; simp [c]
      · rw [if_neg (by omega)]; simp [c]
  · refine ⟨y, ?_, y2, fun b hb' => ?_⟩
    · rw [rd_getElem (show j < (ws.set (i / 64) (z : Int)).length by rw [List.length_set]; exact hj), List.getElem_set_ne (by omega), ← rd_getElem hj]; exact y1
    · rw [y3 b hb']
      unfold bitAt
      rw [List.getElem?_set, if_neg (by omega)]
theorem set_run {σ : Store} {L : Nat} {B : List Bool} (P : Pk σ L B) (hp : σ.prot ≤ L) {i : Nat} (hi : i < B.length) (hn : B.length < 2 ^ 30) :
    ∃ σ', Runs Try.prog 30 [.ptr (some (L + 1, 0)), .int .i64 i, .int .u64 1] σ (.bool true) σ' ∧ Kp L σ σ' ∧ Off L σ σ' ∧ Pk σ' L (B.set i true) := by
  obtain ⟨ws, W, wb⟩ := P.ex
  have R := P.row
  have e0 := row_int R (o := 0) rfl
  have e1 := row_int R (o := 1) rfl
  have e2 := row_sl R (o := 2) rfl
  obtain ⟨km, rm⟩ := mask_run σ
  have wl := wb.len
  obtain ⟨d1, d2⟩ := idiv64 (i := (i : Int)) (by omega) (by omega)
  rw [Int.toNat_natCast] at d1 d2
  obtain ⟨x, x1, x2, x3⟩ := wb.bit (i / 64) (by omega)
  obtain ⟨z, z1, z2, z3⟩ := setbit (s := i % 64) x2 (Nat.mod_lt _ (by omega))
  have rx := row_rd W (i := (i / 64 : Nat)) (len := (B.length + 63) / 64) (cp := some ((B.length + 63) / 64)) (by omega) (by omega)
  have st := st_nums (x := (z : Int)) (len := (B.length + 63) / 64) (cp := some ((B.length + 63) / 64)) W hp (i := (i / 64 : Nat)) (by omega) (by omega)
  rw [Int.toNat_natCast] at st
  have p2 : 2 ^ (i % 64) ≤ 2 ^ 63 := Nat.pow_le_pow_right (by omega) (by omega)
  have p1 : 1 ≤ 2 ^ (i % 64) := Nat.one_le_two_pow
  have q1 : shlI .u64 1 (i % 64 : Nat) = ((2 ^ (i % 64) : Nat) : Int) := by
    have eb : IntKind.u64.bits = 64 := by decide
    unfold shlI
    rw [eb, Int.toNat_natCast, Nat.min_eq_left (by omega), Int.one_mul]
    have : ((2 : Int) ^ (i % 64)) = ((2 ^ (i % 64) : Nat) : Int) := by simp
    rw [this, wrapu64 (by omega) (by omega)]
  have w1 : IntKind.wrap .i64 ((i : Int) * 1) = i := by rw [Int.mul_one, wrap64 (by omega) (by omega)]
  have w2 : ¬ (64 : Int) < IntKind.wrap .i64 ((i % 64 : Nat) + 1) := by rw [wrap64 (by omega) (by omega)]; omega
  have c0 : ¬ (i : Int) < 0 := by omega
  have c1 : ¬ (B.length : Int) ≤ i := by omega
  have c2 : ¬ (1 : Int) < 1 := by omega
  have c3 : (0 : Int) ≤ (i / 64 : Nat) := by omega
  have c4 : ((i / 64 : Nat) : Int) < ((B.length + 63) / 64 : Nat) := by omega
  have c5 : (0 : Int) ≤ (i % 64 : Nat) := by omega
  obtain ⟨σ', hσ⟩ : ∃ s, s = σ.setO L (.cells (numsL .u64 (ws.set (i / 64) (z : Int))) true 1) := ⟨_, rfl⟩
  have R' : σ'.Row (L + 1) 3 [.int .i64 1, .int .i64 B.length, .slice (hdS L ((B.length + 63) / 64))] := by rw [hσ]; exact R.setO_ne (by omega)
  have e0' := row_int R' (o := 0) rfl
  refine ⟨σ', Runs.intro (fn := Try.f30) (by kernel_rfl) (by kernel_rfl) ⟨km, fun k hk => ?_⟩, ?_, ?_, ⟨⟨ws.set (i / 64) (z : Int), ?_, wb.set hi x1 z2 z3⟩, by simpa using R'⟩⟩
  · have rm := rm k hk
    simp only at rm
    simp only [f30_eq]
    simp only [Option.bind_some, decide_eq_true_eq, decide_eq_false_iff_not, Bool.not_eq_true', Bool.not_true, Bool.not_false, Bool.false_eq_true, Bool.true_eq_false, Bool.not_eq_eq_eq_not, beq_self_eq_true, beqFT, beqTF, decide_true, decide_false, not_false_eq_true, not_true_eq_false, ne_eq, true_and, and_true, false_and, and_false, and_self, if_true, if_false, ite_true, ite_false, Bool.and_true, Bool.and_false, Bool.true_and, Bool.false_and, Bool.or_true, Bool.true_or, Bool.or_false, Bool.false_or, or_true, true_or, or_false, false_or, or_self, AV.asInt, AV.asBool, AV.asSl, AV.asPtr, AV.asFn, AV.asStr, AV.asMap, AV.asIfc, AV.item, List.length_cons, List.length_nil, List.getElem?_cons_zero, List.getElem?_cons_succ, Nat.zero_add, Option.isNone_some, c0, e1, c1, e0, rm, c2, e2, w1, d1, d2, c3, c4, rx, x1, c5, q1, z1, st, ← hσ, e0', w2]
  · rw [hσ]; exact (Kp.refl _ _).setO (Nat.le_refl _)
  · rw [hσ]; exact ⟨rfl, setO_len, fun c hc => by show (σ.objs.set L _)[c]? = _; rw [List.getElem?_set, if_neg (by omega)]⟩
  · rw [hσ]; exact Store.Row.setO_eq W.lt
end Go.Ab


/- A list of bits from packed bits. -/
namespace Go.Ab
open Go Go.Proofs Go.Ab.Wd Go.Ab.Bs Go.Ab.Sai
set_option linter.unusedVariables false
set_option linter.unusedSimpArgs false
theorem callG_same {Γ : Gam} {g : Fun} {args : List AV} {v : AV} {σ : Store} (h : Γ g args { σ with prot := σ.objs.length } = some (v, { σ with prot := σ.objs.length })) : callG Γ true g args σ = some (v, σ) := by
  unfold callG; simp only []; rw [h]; rfl
theorem st_fld {σ : Store} {b es o : Nat} {l : List AV} (r : σ.Row b es l) (hp : σ.prot ≤ b) (h1 : o < l.length) {v : AV} (hv : v.one = true) :
    σ.stL (Ptr.add (some (b, 0)) o) [v] 0 = some (σ.setO b (.cells (l.set o v) true es)) := by
  have := st_cell r hp h1 hv
  simpa [Ptr.add] using this
def aheads (B : List Bool) (i : Nat) : List Int := (List.range ((i + 7) / 8)).map fun j => (onesTo B (512 * j) : Nat)
theorem aheads_length (B : List Bool) (i : Nat) : (aheads B i).length = (i + 7) / 8 := by simp [aheads]
theorem aheads_hit (B : List Bool) {i : Nat} (h : i % 8 = 0) : aheads B (i + 1) = aheads B i ++ [((onesTo B (64 * i) : Nat) : Int)] := by
  unfold aheads
  rw [show (i + 1 + 7) / 8 = (i + 7) / 8 + 1 by omega, List.range_succ, List.map_append]
  simp only [List.map_cons, List.map_nil]
  rw [show 512 * ((i + 7) / 8) = 64 * i by omega]
theorem aheads_miss (B : List Bool) {i : Nat} (h : i % 8 ≠ 0) : aheads B (i + 1) = aheads B i := by
  unfold aheads
  rw [show (i + 1 + 7) / 8 = (i + 7) / 8 by omega]
theorem rankNew_run {σ : Store} {L : Nat} {B : List Bool} (P : Pk σ L B) (hp : σ.prot ≤ σ.objs.length) (hn : B.length < 2 ^ 30) :
    ∃ p σ', Runs Try.prog 31 [.ptr (some (L + 1, 0))] σ (.tuple [.ptr p, .int .i64 0]) σ' ∧ Kp σ.objs.length σ σ' ∧ VecF σ' p B (fun x => σ.objs.length ≤ x ∧ x < σ'.objs.length) := by
  obtain ⟨ws, W, wb⟩ := P.ex
  have R := P.row
  have wl := wb.len
  have e0 := row_int R (o := 0) rfl
  have e1 := row_int R (o := 1) rfl
  have e2 := row_sl R (o := 2) rfl
  obtain ⟨k1, r1⟩ : Runs Try.prog 50 [.ptr (some (L + 1, 0))] σ (.int .i64 1) σ :=
    Runs.intro (fn := Try.f50) (by kernel_rfl) (by kernel_rfl) (Ev.of fun k => by rw [f50_eq]; simp only [Option.bind_some, decide_eq_true_eq, decide_eq_false_iff_not, Bool.not_eq_true', Bool.not_true, Bool.not_false, Bool.false_eq_true, Bool.true_eq_false, Bool.not_eq_eq_eq_not, beq_self_eq_true, beqFT, beqTF, decide_true, decide_false, not_false_eq_true, not_true_eq_false, ne_eq, true_and, and_true, false_and, and_false, and_self, if_true, if_false, ite_true, ite_false, Bool.and_true, Bool.and_false, Bool.true_and, Bool.false_and, Bool.or_true, Bool.true_or, Bool.or_false, Bool.false_or, or_true, true_or, or_false, false_or, or_self, AV.asInt, AV.asBool, AV.asSl, AV.asPtr, AV.asFn, AV.asStr, AV.asMap, AV.asIfc, AV.item, List.length_cons, List.length_nil, List.getElem?_cons_zero, List.getElem?_cons_succ, Nat.zero_add, Option.isNone_some, e0])
  obtain ⟨k2, r2⟩ : Runs Try.prog 51 [.ptr (some (L + 1, 0))] σ (.int .i64 B.length) σ :=
    Runs.intro (fn := Try.f51) (by kernel_rfl) (by kernel_rfl) (Ev.of fun k => by rw [f51_eq]; simp only [Option.bind_some, decide_eq_true_eq, decide_eq_false_iff_not, Bool.not_eq_true', Bool.not_true, Bool.not_false, Bool.false_eq_true, Bool.true_eq_false, Bool.not_eq_eq_eq_not, beq_self_eq_true, beqFT, beqTF, decide_true, decide_false, not_false_eq_true, not_true_eq_false, ne_eq, true_and, and_true, false_and, and_false, and_self, if_true, if_false, ite_true, ite_false, Bool.and_true, Bool.and_false, Bool.true_and, Bool.false_and, Bool.or_true, Bool.true_or, Bool.or_false, Bool.false_or, or_true, true_or, or_false, false_or, or_self, AV.asInt, AV.asBool, AV.asSl, AV.asPtr, AV.asFn, AV.asStr, AV.asMap, AV.asIfc, AV.item, List.length_cons, List.length_nil, List.getElem?_cons_zero, List.getElem?_cons_succ, Nat.zero_add, Option.isNone_some, e1])
  have Wn : Store.Nums .u64 σ (hdS L ((B.length + 63) / 64)) ws := row_nums W (by omega)
  obtain ⟨hw, σ2, ⟨k3, r3⟩, K2, g2⟩ := cloneU_run Wn hp (by omega)
  have hp2 : σ2.prot ≤ σ2.objs.length := by rw [K2.prot]; have := K2.len; omega
  obtain ⟨k4, r4⟩ : Runs Try.prog 52 [.ptr (some (L + 1, 0))] σ (.slice hw) σ2 :=
    Runs.intro (fn := Try.f52) (by kernel_rfl) (by kernel_rfl) ⟨k3, fun k hk => by
      have r3 := r3 k hk
      simp only at r3
      simp only [f52_eq]; simp only [Option.bind_some, decide_eq_true_eq, decide_eq_false_iff_not, Bool.not_eq_true', Bool.not_true, Bool.not_false, Bool.false_eq_true, Bool.true_eq_false, Bool.not_eq_eq_eq_not, beq_self_eq_true, beqFT, beqTF, decide_true, decide_false, not_false_eq_true, not_true_eq_false, ne_eq, true_and, and_true, false_and, and_false, and_self, if_true, if_false, ite_true, ite_false, Bool.and_true, Bool.and_false, Bool.true_and, Bool.false_and, Bool.or_true, Bool.true_or, Bool.or_false, Bool.false_or, or_true, true_or, or_false, false_or, or_self, AV.asInt, AV.asBool, AV.asSl, AV.asPtr, AV.asFn, AV.asStr, AV.asMap, AV.asIfc, AV.item, List.length_cons, List.length_nil, List.getElem?_cons_zero, List.getElem?_cons_succ, Nat.zero_add, Option.isNone_some, e2, r3]⟩
  obtain ⟨b, hb⟩ : ∃ b, b = σ2.objs.length := ⟨_, rfl⟩
  obtain ⟨σ3, h3⟩ : ∃ s, s = σ2.push [.int .i64 B.length, .slice hw, .slice Hdl.nil, .int .i64 0] 4 := ⟨_, rfl⟩
  have K3 : Kp b σ2 σ3 := by rw [h3, hb]; exact Kp.push _ _ (Nat.le_refl _)
  have R3 : σ3.Row b 4 [.int .i64 B.length, .slice hw, .slice Hdl.nil, .int .i64 0] := by rw [h3, hb]; exact Store.Row.new
  have f1 := row_sl R3 (o := 1) rfl
  have lw := nums_len g2.nums
  have l3 : b + 1 ≤ σ3.objs.length := R3.lt
  obtain ⟨r, e, σ4, ha, rfl, K4, R4, g4⟩ := EvI.up (f := fun k s => stepF Try.prog (gm Try.prog k) drawn k Try.f31 [1, 1, 1, 0, 1, 0] [25, 24, 23, 4] s) ws.length
    (fun i s => ∃ s1 ha, s = ([.int .i64 i, .int .i64 ws.length, .slice hw, .ptr (some (b, 0))], s1) ∧ Kp b σ2 s1 ∧ s1.Row b 4 [.int .i64 B.length, .slice hw, .slice ha, .int .i64 (onesTo B (64 * i) : Nat)] ∧ GrowI s1 (b + 1) ha (aheads B i))
    (fun r => ∃ s1 ha, r = (AX.exit 1, [(4, .ptr (some (b, 0)))], s1) ∧ Kp b σ2 s1 ∧ s1.Row b 4 [.int .i64 B.length, .slice hw, .slice ha, .int .i64 (onesTo B (64 * ws.length) : Nat)] ∧ GrowI s1 (b + 1) ha (aheads B ws.length))
    (by
      rintro i s hi ⟨s1, ha, rfl, kk, rr, g⟩
      have i0 : (0 : Int) ≤ i := by omega
      have i1 : (i : Int) < ws.length := by omega
      have i2 : (i : Int) < hw.len := by omega
      have w := wsucc hi (by omega)
      have hps : s1.prot ≤ b := by rw [kk.prot, hb]; exact hp2
      have rx := nums_rd (Store.Sl.kp g2.nums (hb ▸ kk)) i0 i1
      obtain ⟨x, x1, x2, x3⟩ := wb.bit i hi
      have op := ones_pop x3 64 (Nat.le_refl _)
      have ol := onesTo_le B (64 * i)
      have pl := Pop.pop_le 64 x
      have w1 : IntKind.wrap .i64 ((onesTo B (64 * i) : Nat) + (Pop.pop 64 x : Nat)) = (onesTo B (64 * (i + 1)) : Nat) := by
        rw [wrap64 (by omega) (by omega), show 64 * (i + 1) = 64 * i + 64 by omega, op]; omega
      have q2 := row_sl rr (o := 2) rfl
      have q3 := row_int rr (o := 3) rfl
      by_cases c : i % 8 = 0
      · have c' : Int.tmod (i : Int) 8 = 0 := by rw [Int.tmod_eq_emod_of_nonneg i0]; omega
        obtain ⟨h', s2, e2, k2, g2'⟩ := g.app (by omega) rr.lt (onesTo B (64 * i) : Nat) (by rw [aheads_length]; omega)
        have rr2 := rr.kp k2 (Nat.lt_succ_self b)
        have p2 : s2.prot ≤ b := by rw [k2.prot]; exact hps
        have t1 := st_fld rr2 p2 (o := 2) (by simp) (v := .slice h') rfl
        obtain ⟨s3, hs3⟩ : ∃ s, s = s2.setO b (.cells ([.int .i64 B.length, .slice hw, .slice ha, .int .i64 (onesTo B (64 * i) : Nat)].set 2 (.slice h')) true 4) := ⟨_, rfl⟩
        rw [← hs3] at t1
        have rr3 : s3.Row b 4 [.int .i64 B.length, .slice hw, .slice h', .int .i64 (onesTo B (64 * i) : Nat)] := by rw [hs3]; exact Store.Row.setO_eq rr2.lt
        have q4 := row_int rr3 (o := 3) rfl
        have p3 : s3.prot ≤ b := by rw [hs3]; exact p2
        have t2 := st_fld rr3 p3 (o := 3) (by simp) (v := .int .i64 (onesTo B (64 * (i + 1)) : Nat)) rfl
        obtain ⟨s4, hs4⟩ : ∃ s, s = s3.setO b (.cells ([.int .i64 B.length, .slice hw, .slice h', .int .i64 (onesTo B (64 * i) : Nat)].set 3 (.int .i64 (onesTo B (64 * (i + 1)) : Nat))) true 4) := ⟨_, rfl⟩
        rw [← hs4] at t2
        obtain ⟨n5, r5⟩ := count_run { s3 with prot := s3.objs.length } x2
        refine ⟨([.int .i64 (i + 1 : Nat), .int .i64 ws.length, .slice hw, .ptr (some (b, 0))], s4), ⟨n5, fun k hk => ?_⟩, s4, h', rfl, ?_, ?_, ?_⟩
        · have r5 := r5 k hk
          simp only at r5
          have r6 := callG_same r5
          simp only [f31_L111010]
          simp only [Option.bind_some, decide_eq_true_eq, decide_eq_false_iff_not, Bool.not_eq_true', Bool.not_true, Bool.not_false, Bool.false_eq_true, Bool.true_eq_false, Bool.not_eq_eq_eq_not, beq_self_eq_true, beqFT, beqTF, decide_true, decide_false, not_false_eq_true, not_true_eq_false, ne_eq, true_and, and_true, false_and, and_false, and_self, if_true, if_false, ite_true, ite_false, Bool.and_true, Bool.and_false, Bool.true_and, Bool.false_and, Bool.or_true, Bool.true_or, Bool.or_false, Bool.false_or, or_true, true_or, or_false, false_or, or_self, AV.asInt, AV.asBool, AV.asSl, AV.asPtr, AV.asFn, AV.asStr, AV.asMap, AV.asIfc, AV.item, List.length_cons, List.length_nil, List.getElem?_cons_zero, List.getElem?_cons_succ, Nat.zero_add, i0, i1, i2, rx, x1, c', q2, q3, read1, e2, t1, q4, r6, w1, t2, w]
        · rw [hs4, hs3]; exact ((kk.trans (k2.mono (by omega))).setO (Nat.le_refl _)).setO (Nat.le_refl _)
        · rw [hs4]; exact Store.Row.setO_eq rr3.lt
        · rw [aheads_hit B c, hs4, hs3]; exact (g2'.setO (Nat.lt_succ_self b)).setO (Nat.lt_succ_self b)
      · have c' : ¬ Int.tmod (i : Int) 8 = 0 := by rw [Int.tmod_eq_emod_of_nonneg i0]; omega
        have t2 := st_fld rr hps (o := 3) (by simp) (v := .int .i64 (onesTo B (64 * (i + 1)) : Nat)) rfl
        obtain ⟨s4, hs4⟩ : ∃ s, s = s1.setO b (.cells ([.int .i64 B.length, .slice hw, .slice ha, .int .i64 (onesTo B (64 * i) : Nat)].set 3 (.int .i64 (onesTo B (64 * (i + 1)) : Nat))) true 4) := ⟨_, rfl⟩
        rw [← hs4] at t2
        obtain ⟨n5, r5⟩ := count_run { s1 with prot := s1.objs.length } x2
        refine ⟨([.int .i64 (i + 1 : Nat), .int .i64 ws.length, .slice hw, .ptr (some (b, 0))], s4), ⟨n5, fun k hk => ?_⟩, s4, ha, rfl, ?_, ?_, ?_⟩
        · have r5 := r5 k hk
          simp only at r5
          have r6 := callG_same r5
          simp only [f31_L111010]
          simp only [Option.bind_some, decide_eq_true_eq, decide_eq_false_iff_not, Bool.not_eq_true', Bool.not_true, Bool.not_false, Bool.false_eq_true, Bool.true_eq_false, Bool.not_eq_eq_eq_not, beq_self_eq_true, beqFT, beqTF, decide_true, decide_false, not_false_eq_true, not_true_eq_false, ne_eq, true_and, and_true, false_and, and_false, and_self, if_true, if_false, ite_true, ite_false, Bool.and_true, Bool.and_false, Bool.true_and, Bool.false_and, Bool.or_true, Bool.true_or, Bool.or_false, Bool.false_or, or_true, true_or, or_false, false_or, or_self, AV.asInt, AV.asBool, AV.asSl, AV.asPtr, AV.asFn, AV.asStr, AV.asMap, AV.asIfc, AV.item, List.length_cons, List.length_nil, List.getElem?_cons_zero, List.getElem?_cons_succ, Nat.zero_add, i0, i1, i2, rx, x1, c', q3, r6, w1, t2, w]
        · rw [hs4]; exact kk.setO (Nat.le_refl _)
        · rw [hs4]; exact Store.Row.setO_eq rr.lt
        · rw [aheads_miss B c, hs4]; exact g.setO (Nat.lt_succ_self b))
    (by
      rintro s ⟨s1, ha, rfl, kk, rr, g⟩
      exact ⟨(AX.exit 1, [(4, .ptr (some (b, 0)))], s1), Ev.of fun k => by simp only [f31_L111010]; simp only [Option.bind_some, decide_eq_true_eq, decide_eq_false_iff_not, Bool.not_eq_true', Bool.not_true, Bool.not_false, Bool.false_eq_true, Bool.true_eq_false, Bool.not_eq_eq_eq_not, beq_self_eq_true, beqFT, beqTF, decide_true, decide_false, not_false_eq_true, not_true_eq_false, ne_eq, true_and, and_true, false_and, and_false, and_self, if_true, if_false, ite_true, ite_false, Bool.and_true, Bool.and_false, Bool.true_and, Bool.false_and, Bool.or_true, Bool.true_or, Bool.or_false, Bool.false_or, or_true, true_or, or_false, false_or, or_self, AV.asInt, AV.asBool, AV.asSl, AV.asPtr, AV.asFn, AV.asStr, AV.asMap, AV.asIfc, AV.item, List.length_cons, List.length_nil, List.getElem?_cons_zero, List.getElem?_cons_succ, Nat.zero_add, Int.lt_irrefl], s1, ha, rfl, kk, rr, g⟩)
    (s := ([.int .i64 0, .int .i64 ws.length, .slice hw, .ptr (some (b, 0))], σ3)) ⟨σ3, Hdl.nil, rfl, K3, by simpa [onesTo_zero] using R3, Grow.nil _ _ _⟩
  rw [onesTo_ge B (i := 64 * ws.length) (by omega)] at R4
  obtain ⟨n5, e⟩ := loopF_ev e
  have K24 : Kp σ2.objs.length σ2 σ4 := hb ▸ K4
  refine ⟨some (b, 0), σ4, Runs.intro (fn := Try.f31) (by kernel_rfl) (by kernel_rfl) ⟨k1 + k2 + k4 + n5, fun k hk => ?_⟩, K2.all K24, ⟨⟨b, hw, ha, ws, aheads B ws.length, rfl, R4, Store.Sl.kp g2.nums K24, g4.ints, wb, ⟨aheads_length _ _, fun j hj => ?_⟩, ⟨by rw [hb]; exact K2.len, R4.lt⟩, fun x hx => ?_, fun x hx => ?_⟩, hn⟩⟩
  · have r1 := r1 k (by omega)
    have r2 := r2 k (by omega)
    have r4 := r4 k (by omega)
    have e := e k (by omega)
    simp only at r1 r2 r4 e
    simp only [f31_eq]
    simp only [Option.bind_some, decide_eq_true_eq, decide_eq_false_iff_not, Bool.not_eq_true', Bool.not_true, Bool.not_false, Bool.false_eq_true, Bool.true_eq_false, Bool.not_eq_eq_eq_not, beq_self_eq_true, beqFT, beqTF, decide_true, decide_false, not_false_eq_true, not_true_eq_false, ne_eq, true_and, and_true, false_and, and_false, and_self, if_true, if_false, ite_true, ite_false, Bool.and_true, Bool.and_false, Bool.true_and, Bool.false_and, Bool.or_true, Bool.true_or, Bool.or_false, Bool.false_or, or_true, true_or, or_false, false_or, or_self, AV.asInt, AV.asBool, AV.asSl, AV.asPtr, AV.asFn, AV.asStr, AV.asMap, AV.asIfc, AV.item, List.length_cons, List.length_nil, List.getElem?_cons_zero, List.getElem?_cons_succ, Nat.zero_add, Option.isNone_some, r1, r2, r4, ← h3, ← hb, f1, lw, e]
    rw [f31_X111010_1]
  · rw [rd_getElem hj]; simp [aheads]
  · obtain ⟨o, ho⟩ : ∃ o, hw.a = some (x, o) := by
      cases ha : hw.a with
      | none => simp [Hdl.row, ha] at hx
      | some bo => obtain ⟨c, o⟩ := bo; simp [Hdl.row, ha] at hx; subst hx; exact ⟨o, rfl⟩
    have := g2.rowLt x o ho
    exact ⟨this.1, by have := K4.len; omega⟩
  · obtain ⟨o, ho⟩ : ∃ o, ha.a = some (x, o) := by
      cases h : ha.a with
      | none => simp [Hdl.row, h] at hx
      | some bo => obtain ⟨c, o⟩ := bo; simp [Hdl.row, h] at hx; subst hx; exact ⟨o, rfl⟩
    have := g4.rowLt x o ho
    have := K2.len
    exact ⟨by omega, by omega⟩
end Go.Ab


/- How wide numbers are. -/
namespace Go.Ab
open Go Go.Proofs Go.Ab.Wd Go.Ab.Bs Go.Ab.Sai
set_option linter.unusedVariables false
set_option linter.unusedSimpArgs false
def IsLen (x c : Nat) : Prop := x < 2 ^ c ∧ (c = 0 ∨ 2 ^ (c - 1) ≤ x)
theorem IsLen.shift {x c s : Nat} (h : IsLen (x / 2 ^ s) c) (hs : 2 ^ s ≤ x) : IsLen x (s + c) := by
  obtain ⟨h1, h2⟩ := h
  have p : 0 < 2 ^ s := Nat.two_pow_pos s
  have g : 1 ≤ x / 2 ^ s := (Nat.le_div_iff_mul_le p).2 (by omega)
  have c0 : c ≠ 0 := by rintro rfl; simp at h1; omega
  refine ⟨?_, .inr ?_⟩
  · rw [Nat.pow_add, Nat.mul_comm]; exact (Nat.div_lt_iff_lt_mul p).1 h1
  · rcases h2 with h2 | h2
    · exact absurd h2 c0
    · rw [show s + c - 1 = s + (c - 1) by omega, Nat.pow_add, Nat.mul_comm]
      exact (Nat.le_div_iff_mul_le p).1 h2
theorem IsLen.uniq {x c d : Nat} (h : IsLen x c) (g : IsLen x d) : c = d := by
  obtain ⟨h1, h2⟩ := h
  obtain ⟨g1, g2⟩ := g
  have m : ∀ {a b : Nat}, a < b → x < 2 ^ a → (b = 0 ∨ 2 ^ (b - 1) ≤ x) → False := fun {a b} hab ha hb => by
    rcases hb with hb | hb
    · omega
    · have : 2 ^ a ≤ 2 ^ (b - 1) := Nat.pow_le_pow_right (by omega) (by omega)
      omega
  by_cases c1 : c < d
  · exact (m c1 h1 g2).elim
  · by_cases c2 : d < c
    · exact (m c2 g1 h2).elim
    · omega
theorem tab_ok : ∀ v : Fin 256, ∃ c : Fin 9, strAt len8tab v.val = some (c.val : Int) ∧ (v.val < 2 ^ c.val ∧ (c.val = 0 ∨ 2 ^ (c.val - 1) ≤ v.val)) := by decide +kernel
theorem tab_get {v : Nat} (hv : v < 256) : ∃ c : Nat, c ≤ 8 ∧ strAt len8tab v = some (c : Int) ∧ IsLen v c := by
  obtain ⟨c, h1, h2⟩ := tab_ok ⟨v, hv⟩
  exact ⟨c.val, by omega, h1, h2⟩
theorem wrapu8 {x : Int} (h0 : 0 ≤ x) (h1 : x < 256) : IntKind.wrap .u8 x = x := by
  unfold IntKind.wrap
  have e2 : (2 : Int) ^ IntKind.u8.bits = 256 := by decide
  simp [e2, IntKind.signed]; omega
theorem len64_run (σ : Store) {x : Nat} (hx : x < 2 ^ 24) : ∃ c : Nat, c ≤ 24 ∧ Runs Try.prog 47 [.int .u64 x] σ (.int .i64 c) σ ∧ IsLen x c := by
  have c1 : ¬ (4294967296 : Int) ≤ x := by omega
  have s16 : shrI .u64 (x : Int) 16 = ((x / 65536 : Nat) : Int) := shr_u64 (s := 16) (by omega)
  have s8 : shrI .u64 (x : Int) 8 = ((x / 256 : Nat) : Int) := shr_u64 (s := 8) (by omega)
  by_cases c2 : 65536 ≤ x
  · obtain ⟨c, hc, ht, hl⟩ := tab_get (v := x / 65536) (by omega)
    have c2' : (65536 : Int) ≤ x := by omega
    have c3 : ¬ (256 : Int) ≤ (x / 65536 : Nat) := by omega
    have w1 : IntKind.wrap .u8 ((x / 65536 : Nat) : Int) = (x / 65536 : Nat) := wrapu8 (by omega) (by omega)
    have c4 : (0 : Int) ≤ (x / 65536 : Nat) := by omega
    have w2 : IntKind.wrap .i64 (0 + 16) = 16 := by decide
    have w3 : IntKind.wrap .i64 (c : Int) = c := wrap64 (by omega) (by omega)
    have w4 : IntKind.wrap .i64 (16 + (c : Int)) = (16 + c : Nat) := by rw [wrap64 (by omega) (by omega)]; omega
    exact ⟨16 + c, by omega, Runs.intro (fn := Try.f47) (by kernel_rfl) (by kernel_rfl) (Ev.of fun k => by
      rw [f47_eq]; simp only [Option.bind_some, decide_eq_true_eq, decide_eq_false_iff_not, Bool.not_eq_true', Bool.not_true, Bool.not_false, Bool.false_eq_true, Bool.true_eq_false, Bool.not_eq_eq_eq_not, beq_self_eq_true, beqFT, beqTF, decide_true, decide_false, not_false_eq_true, not_true_eq_false, ne_eq, true_and, and_true, false_and, and_false, and_self, if_true, if_false, ite_true, ite_false, Bool.and_true, Bool.and_false, Bool.true_and, Bool.false_and, Bool.or_true, Bool.true_or, Bool.or_false, Bool.false_or, or_true, true_or, or_false, false_or, or_self, AV.asInt, AV.asBool, AV.asSl, AV.asPtr, AV.asFn, AV.asStr, AV.asMap, AV.asIfc, AV.item, List.length_cons, List.length_nil, List.getElem?_cons_zero, List.getElem?_cons_succ, Nat.zero_add, c1, c2', s16, c3, w1, c4, Int.toNat_natCast, ht, w2, w3, w4]), IsLen.shift (s := 16) hl (by omega)⟩
  · by_cases c3 : 256 ≤ x
    · obtain ⟨c, hc, ht, hl⟩ := tab_get (v := x / 256) (by omega)
      have c2' : ¬ (65536 : Int) ≤ x := by omega
      have c3' : (256 : Int) ≤ x := by omega
      have w1 : IntKind.wrap .u8 ((x / 256 : Nat) : Int) = (x / 256 : Nat) := wrapu8 (by omega) (by omega)
      have c4 : (0 : Int) ≤ (x / 256 : Nat) := by omega
      have w2 : IntKind.wrap .i64 (0 + 8) = 8 := by decide
      have w3 : IntKind.wrap .i64 (c : Int) = c := wrap64 (by omega) (by omega)
      have w4 : IntKind.wrap .i64 (8 + (c : Int)) = (8 + c : Nat) := by rw [wrap64 (by omega) (by omega)]; omega
      exact ⟨8 + c, by omega, Runs.intro (fn := Try.f47) (by kernel_rfl) (by kernel_rfl) (Ev.of fun k => by
        rw [f47_eq]; simp only [Option.bind_some, decide_eq_true_eq, decide_eq_false_iff_not, Bool.not_eq_true', Bool.not_true, Bool.not_false, Bool.false_eq_true, Bool.true_eq_false, Bool.not_eq_eq_eq_not, beq_self_eq_true, beqFT, beqTF, decide_true, decide_false, not_false_eq_true, not_true_eq_false, ne_eq, true_and, and_true, false_and, and_false, and_self, if_true, if_false, ite_true, ite_false, Bool.and_true, Bool.and_false, Bool.true_and, Bool.false_and, Bool.or_true, Bool.true_or, Bool.or_false, Bool.false_or, or_true, true_or, or_false, false_or, or_self, AV.asInt, AV.asBool, AV.asSl, AV.asPtr, AV.asFn, AV.asStr, AV.asMap, AV.asIfc, AV.item, List.length_cons, List.length_nil, List.getElem?_cons_zero, List.getElem?_cons_succ, Nat.zero_add, c1, c2', s8, c3', w1, c4, Int.toNat_natCast, ht, w2, w3, w4]), IsLen.shift (s := 8) hl (by omega)⟩
    · obtain ⟨c, hc, ht, hl⟩ := tab_get (v := x) (by omega)
      have c2' : ¬ (65536 : Int) ≤ x := by omega
      have c3' : ¬ (256 : Int) ≤ x := by omega
      have w1 : IntKind.wrap .u8 (x : Int) = x := wrapu8 (by omega) (by omega)
      have c4 : (0 : Int) ≤ (x : Int) := by omega
      have w3 : IntKind.wrap .i64 (c : Int) = c := wrap64 (by omega) (by omega)
      have w4 : IntKind.wrap .i64 (0 + (c : Int)) = c := by rw [wrap64 (by omega) (by omega)]; omega
      exact ⟨c, by omega, Runs.intro (fn := Try.f47) (by kernel_rfl) (by kernel_rfl) (Ev.of fun k => by
        rw [f47_eq]; simp only [Option.bind_some, decide_eq_true_eq, decide_eq_false_iff_not, Bool.not_eq_true', Bool.not_true, Bool.not_false, Bool.false_eq_true, Bool.true_eq_false, Bool.not_eq_eq_eq_not, beq_self_eq_true, beqFT, beqTF, decide_true, decide_false, not_false_eq_true, not_true_eq_false, ne_eq, true_and, and_true, false_and, and_false, and_self, if_true, if_false, ite_true, ite_false, Bool.and_true, Bool.and_false, Bool.true_and, Bool.false_and, Bool.or_true, Bool.true_or, Bool.or_false, Bool.false_or, or_true, true_or, or_false, false_or, or_self, AV.asInt, AV.asBool, AV.asSl, AV.asPtr, AV.asFn, AV.asStr, AV.asMap, AV.asIfc, AV.item, List.length_cons, List.length_nil, List.getElem?_cons_zero, List.getElem?_cons_succ, Nat.zero_add, c1, c2', c3', w1, c4, Int.toNat_natCast, ht, w3, w4]), hl⟩
/-- The width of numbers up to one. -/
def IsWid (x w : Nat) : Prop := 1 ≤ w ∧ w ≤ 24 ∧ x < 2 ^ w ∧ (w = 1 ∨ 2 ^ (w - 1) ≤ x)
theorem IsWid.uniq {x c d : Nat} (h : IsWid x c) (g : IsWid x d) : c = d := by
  obtain ⟨h0, _, h1, h2⟩ := h
  obtain ⟨g0, _, g1, g2⟩ := g
  have m : ∀ {a b : Nat}, 1 ≤ a → a < b → x < 2 ^ a → (b = 1 ∨ 2 ^ (b - 1) ≤ x) → False := fun {a b} ha0 hab ha hb => by
    rcases hb with hb | hb
    · omega
    · have : 2 ^ a ≤ 2 ^ (b - 1) := Nat.pow_le_pow_right (by omega) (by omega)
      omega
  by_cases c1 : c < d
  · exact (m h0 c1 h1 g2).elim
  · by_cases c2 : d < c
    · exact (m g0 c2 g1 h2).elim
    · omega
theorem width_run (σ : Store) {x : Nat} (hx : x < 2 ^ 24) : ∃ w : Nat, Runs Try.prog 27 [.int .u64 x] σ (.int .i64 w) σ ∧ IsWid x w := by
  obtain ⟨c, c24, ⟨k, r⟩, h1, h2⟩ := len64_run σ hx
  have e : mx2 (Int.ofNat 1) c = ((max 1 c : Nat) : Int) := by rw [mx2_eq]; simp only [Int.ofNat_eq_natCast]; omega
  refine ⟨max 1 c, Runs.intro (fn := Try.f27) (by kernel_rfl) (by kernel_rfl) ⟨k, fun m hm => ?_⟩, by omega, by omega, ?_, ?_⟩
  · have r := r m hm
    simp only at r
    simp only [f27_eq]
    simp only [Option.bind_some, decide_eq_true_eq, decide_eq_false_iff_not, Bool.not_eq_true', Bool.not_true, Bool.not_false, Bool.false_eq_true, Bool.true_eq_false, Bool.not_eq_eq_eq_not, beq_self_eq_true, beqFT, beqTF, decide_true, decide_false, not_false_eq_true, not_true_eq_false, ne_eq, true_and, and_true, false_and, and_false, and_self, if_true, if_false, ite_true, ite_false, Bool.and_true, Bool.and_false, Bool.true_and, Bool.false_and, Bool.or_true, Bool.true_or, Bool.or_false, Bool.false_or, or_true, true_or, or_false, false_or, or_self, AV.asInt, AV.asBool, AV.asSl, AV.asPtr, AV.asFn, AV.asStr, AV.asMap, AV.asIfc, AV.item, List.length_cons, List.length_nil, List.getElem?_cons_zero, List.getElem?_cons_succ, Nat.zero_add, r, e]
  · by_cases c1 : 1 ≤ c
    · rw [Nat.max_eq_right c1]; exact h1
    · rw [show c = 0 by omega, Nat.pow_zero] at h1
      rw [show x = 0 by omega]; exact Nat.two_pow_pos _
  · by_cases c1 : 2 ≤ c
    · rw [Nat.max_eq_right (by omega)]; rcases h2 with h2 | h2
      · omega
      · exact .inr h2
    · exact .inl (by omega)
end Go.Ab

