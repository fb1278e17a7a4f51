/- A part of the proof of the law FindParts: lemmas alone; what each says stands at it. No conditions. -/
import Derived.Test.YthikeeclihkdmaaAbFindParts1
import Derived.Test.YthikeeclihkdmaaProg
set_option maxRecDepth 100000
set_option linter.unusedVariables false
namespace Go.Ab
open Go Go.Proofs
noncomputable instance toldTry : Told Try.prog := ⟨orTell (sortSp 40) [10]⟩
theorem f8_eq : ∀ (Γ : Gam) (k : Nat) (σ : Store) (h0 : Hdl) (i1 i2 : Int),
  evBody Try.prog Γ drawn k Try.f8 [AV.slice h0, AV.agg [AV.int IntKind.i64 i1, AV.int IntKind.i64 i2]] σ =
    Option.bind (Γ (Fun.fn 10) [] (Store.push σ [AV.int IntKind.i64 i1, AV.int IntKind.i64 i2] 2)) fun x3 ↦
      Option.bind (AV.asBool (Prod.fst x3)) fun x4 ↦
        if (!x4) = true then some (AV.bool false, Prod.snd x3)
        else
          Option.bind (Γ (Fun.fn 17) [AV.slice h0] (Prod.snd x3)) fun x5 ↦
            Option.bind (AV.item 0 2 (Prod.fst x5)) fun x6 ↦
              Option.bind (AV.asSl x6) fun x7 ↦
                Option.bind (AV.item 1 2 (Prod.fst x5)) fun x8 ↦
                  Option.bind (AV.asSl x8) fun x9 ↦
                    Option.bind (Γ (Fun.fn 11) [AV.slice x7, AV.slice x9, AV.int IntKind.i64 21, AV.int IntKind.i64 3] (Prod.snd x5)) fun x10 ↦
                      Option.bind (AV.item 0 2 (Prod.fst x10)) fun x11 ↦
                        Option.bind (AV.asPtr x11) fun x12 ↦
                          Option.bind (AV.item 1 2 (Prod.fst x10)) fun x13 ↦
                            Option.bind (AV.asInt IntKind.i64 x13) fun x14 ↦
                              Option.bind (Store.ldInt (Prod.snd x10) IntKind.i64 (Ptr.add (some (List.length (Store.objs σ), 0)) 0)) fun x15 ↦
                                if IntKind.wrap IntKind.u64 (↑(Hdl.len x7) : Int) = 0 then none
                                else
                                  Option.bind (Store.ldInt (Prod.snd x10) IntKind.i64 (Ptr.add (some (List.length (Store.objs σ), 0)) 1)) fun x16 ↦
                                    if IntKind.wrap IntKind.u64 (IntKind.wrap IntKind.i64 ((↑(Hdl.len x7) : Int) - IntKind.wrap IntKind.i64 (Int.tmod (IntKind.wrap IntKind.u64 x15) (IntKind.wrap IntKind.u64 (↑(Hdl.len x7) : Int))))) = 0 then none
                                    else
                                      Option.bind
                                        (Store.sub (Prod.snd x10) x7 1 (some (IntKind.wrap IntKind.i64 (Int.tmod (IntKind.wrap IntKind.u64 x15) (IntKind.wrap IntKind.u64 (↑(Hdl.len x7) : Int)))))
                                          (some
                                            (IntKind.wrap IntKind.i64
                                              (IntKind.wrap IntKind.i64 (IntKind.wrap IntKind.i64 (Int.tmod (IntKind.wrap IntKind.u64 x15) (IntKind.wrap IntKind.u64 (↑(Hdl.len x7) : Int))) + 1) +
                                                IntKind.wrap IntKind.i64 (Int.tmod (IntKind.wrap IntKind.u64 x16) (IntKind.wrap IntKind.u64 (IntKind.wrap IntKind.i64 ((↑(Hdl.len x7) : Int) - IntKind.wrap IntKind.i64 (Int.tmod (IntKind.wrap IntKind.u64 x15) (IntKind.wrap IntKind.u64 (↑(Hdl.len x7) : Int))))))))))
                                          none)
                                        fun x17 ↦
                                        Option.bind (Γ (Fun.fn 20) [AV.ptr x12, AV.slice x17] (Prod.snd x10)) fun x18 ↦
                                          Option.bind (AV.asSl (Prod.fst x18)) fun x19 ↦
                                            Option.bind
                                              (Store.sub (Prod.snd x18) x7 1 (some (IntKind.wrap IntKind.i64 (Int.tmod (IntKind.wrap IntKind.u64 x15) (IntKind.wrap IntKind.u64 (↑(Hdl.len x7) : Int)))))
                                                (some
                                                  (IntKind.wrap IntKind.i64
                                                    (IntKind.wrap IntKind.i64 (IntKind.wrap IntKind.i64 (Int.tmod (IntKind.wrap IntKind.u64 x15) (IntKind.wrap IntKind.u64 (↑(Hdl.len x7) : Int))) + 1) +
                                                      IntKind.wrap IntKind.i64 (Int.tmod (IntKind.wrap IntKind.u64 x16) (IntKind.wrap IntKind.u64 (IntKind.wrap IntKind.i64 ((↑(Hdl.len x7) : Int) - IntKind.wrap IntKind.i64 (Int.tmod (IntKind.wrap IntKind.u64 x15) (IntKind.wrap IntKind.u64 (↑(Hdl.len x7) : Int))))))))))
                                                none)
                                              fun x20 ↦
                                              Option.bind (Γ (Fun.fn 18) [AV.ptr x12, AV.slice x20] (Prod.snd x18)) fun x21 ↦
                                                Option.bind (AV.item 0 2 (Prod.fst x21)) fun x22 ↦
                                                  Option.bind (AV.asInt IntKind.i64 x22) fun x23 ↦
                                                    Option.bind (AV.item 1 2 (Prod.fst x21)) fun x24 ↦
                                                      Option.bind (AV.asInt IntKind.i64 x24) fun x25 ↦
                                                        Option.bind
                                                          (loopF Try.prog Γ drawn k Try.f8 [1, 1, 1, 1, 1, 1, 1, 1, 1, 0, 1, 0] [68, 67, 66, 14, 13, 12, 11, 10, 9, 5]
                                                            ([AV.int IntKind.i64 0, AV.int IntKind.i64 (↑(Hdl.len x19) : Int), AV.slice x19, AV.bool false, AV.int IntKind.i64 x25, AV.int IntKind.i64 x23, AV.slice x19,
                                                                AV.int IntKind.i64
                                                                  (IntKind.wrap IntKind.i64
                                                                    (IntKind.wrap IntKind.i64 (IntKind.wrap IntKind.i64 (Int.tmod (IntKind.wrap IntKind.u64 x15) (IntKind.wrap IntKind.u64 (↑(Hdl.len x7) : Int))) + 1) +
                                                                      IntKind.wrap IntKind.i64 (Int.tmod (IntKind.wrap IntKind.u64 x16) (IntKind.wrap IntKind.u64 (IntKind.wrap IntKind.i64 ((↑(Hdl.len x7) : Int) - IntKind.wrap IntKind.i64 (Int.tmod (IntKind.wrap IntKind.u64 x15) (IntKind.wrap IntKind.u64 (↑(Hdl.len x7) : Int))))))))),
                                                                AV.int IntKind.i64 (IntKind.wrap IntKind.i64 (Int.tmod (IntKind.wrap IntKind.u64 x15) (IntKind.wrap IntKind.u64 (↑(Hdl.len x7) : Int)))), AV.slice x7],
                                                              Prod.snd x21))
                                                          (contF Try.prog Γ drawn k Try.f8 [1, 1, 1, 1, 1, 1, 1, 1, 1, 0, 1, 0]) := by intros; kernel_rfl

theorem f8_L111111111010 : ∀ (Γ : Gam) (k : Nat) (σ : Store) (i26 i27 : Int) (h28 : Hdl) (b29 : Bool) (i30 i31 : Int) (h32 : Hdl) (i33 i34 : Int) (h35 : Hdl),
  stepF Try.prog Γ drawn k Try.f8 [1, 1, 1, 1, 1, 1, 1, 1, 1, 0, 1, 0] [68, 67, 66, 14, 13, 12, 11, 10, 9, 5] ([AV.int IntKind.i64 i26, AV.int IntKind.i64 i27, AV.slice h28, AV.bool b29, AV.int IntKind.i64 i30, AV.int IntKind.i64 i31, AV.slice h32, AV.int IntKind.i64 i33, AV.int IntKind.i64 i34, AV.slice h35], σ) =
    if decide (i26 < i27) = true then
      if 0 ≤ i26 ∧ i26 < (↑(Hdl.len h28) : Int) then
        Option.bind (Store.ldInt σ IntKind.i64 (Hdl.idx h28 i26 1)) fun x36 ↦
          if b29 = true then
            if decide (0 < i26) = true then
              if 0 ≤ IntKind.wrap IntKind.i64 (i26 - 1) ∧ IntKind.wrap IntKind.i64 (i26 - 1) < (↑(Hdl.len h32) : Int) then
                Option.bind (Store.ldInt σ IntKind.i64 (Hdl.idx h32 (IntKind.wrap IntKind.i64 (i26 - 1)) 1)) fun x37 ↦
                  if decide (x36 ≤ x37) = true then some (Sum.inr (AX.ret, [(4, AV.bool false)], σ))
                  else
                    Option.bind (Store.sub σ h35 1 (some i34) (some i33) none) fun x38 ↦
                      Option.bind (Γ (Fun.fn 26) [AV.slice h35, AV.slice x38, AV.int IntKind.i64 x36] σ) fun x39 ↦
                        Option.bind (AV.asBool (Prod.fst x39)) fun x40 ↦
                          if (!x40) = true then some (Sum.inr (AX.ret, [(4, AV.bool false)], Prod.snd x39)) else some (Sum.inl ([AV.int IntKind.i64 (IntKind.wrap IntKind.i64 (i26 + 1)), AV.int IntKind.i64 i27, AV.slice h28, AV.bool true, AV.int IntKind.i64 i30, AV.int IntKind.i64 i31, AV.slice h32, AV.int IntKind.i64 i33, AV.int IntKind.i64 i34, AV.slice h35], Prod.snd x39))
              else none
            else
              Option.bind (Store.sub σ h35 1 (some i34) (some i33) none) fun x41 ↦
                Option.bind (Γ (Fun.fn 26) [AV.slice h35, AV.slice x41, AV.int IntKind.i64 x36] σ) fun x42 ↦
                  Option.bind (AV.asBool (Prod.fst x42)) fun x43 ↦
                    if (!x43) = true then some (Sum.inr (AX.ret, [(4, AV.bool false)], Prod.snd x42)) else some (Sum.inl ([AV.int IntKind.i64 (IntKind.wrap IntKind.i64 (i26 + 1)), AV.int IntKind.i64 i27, AV.slice h28, AV.bool true, AV.int IntKind.i64 i30, AV.int IntKind.i64 i31, AV.slice h32, AV.int IntKind.i64 i33, AV.int IntKind.i64 i34, AV.slice h35], Prod.snd x42))
          else
            if decide (0 < i26) = true then
              if 0 ≤ IntKind.wrap IntKind.i64 (i26 - 1) ∧ IntKind.wrap IntKind.i64 (i26 - 1) < (↑(Hdl.len h32) : Int) then
                Option.bind (Store.ldInt σ IntKind.i64 (Hdl.idx h32 (IntKind.wrap IntKind.i64 (i26 - 1)) 1)) fun x44 ↦
                  if decide (x36 ≤ x44) = true then some (Sum.inr (AX.ret, [(4, AV.bool false)], σ))
                  else
                    Option.bind (Store.sub σ h35 1 (some i34) (some i33) none) fun x45 ↦
                      Option.bind (Γ (Fun.fn 26) [AV.slice h35, AV.slice x45, AV.int IntKind.i64 x36] σ) fun x46 ↦
                        Option.bind (AV.asBool (Prod.fst x46)) fun x47 ↦
                          if (!x47) = true then some (Sum.inr (AX.ret, [(4, AV.bool false)], Prod.snd x46)) else some (Sum.inl ([AV.int IntKind.i64 (IntKind.wrap IntKind.i64 (i26 + 1)), AV.int IntKind.i64 i27, AV.slice h28, AV.bool (decide (x36 = i34)), AV.int IntKind.i64 i30, AV.int IntKind.i64 i31, AV.slice h32, AV.int IntKind.i64 i33, AV.int IntKind.i64 i34, AV.slice h35], Prod.snd x46))
              else none
            else
              Option.bind (Store.sub σ h35 1 (some i34) (some i33) none) fun x48 ↦
                Option.bind (Γ (Fun.fn 26) [AV.slice h35, AV.slice x48, AV.int IntKind.i64 x36] σ) fun x49 ↦
                  Option.bind (AV.asBool (Prod.fst x49)) fun x50 ↦
                    if (!x50) = true then some (Sum.inr (AX.ret, [(4, AV.bool false)], Prod.snd x49)) else some (Sum.inl ([AV.int IntKind.i64 (IntKind.wrap IntKind.i64 (i26 + 1)), AV.int IntKind.i64 i27, AV.slice h28, AV.bool (decide (x36 = i34)), AV.int IntKind.i64 i30, AV.int IntKind.i64 i31, AV.slice h32, AV.int IntKind.i64 i33, AV.int IntKind.i64 i34, AV.slice h35], Prod.snd x49))
      else none
    else some (Sum.inr (AX.exit 0, [(14, AV.bool b29), (13, AV.int IntKind.i64 i30), (12, AV.int IntKind.i64 i31), (11, AV.slice h32)], σ)) := by intros; kernel_rfl

theorem f8_X111111111010_2 : ∀ (Γ : Gam) (k : Nat) (σ : Store) (b52 : Bool) (i53 i54 : Int) (h55 : Hdl),
  contF Try.prog Γ drawn k Try.f8 [1, 1, 1, 1, 1, 1, 1, 1, 1, 0, 1, 0] (AX.exit 0, [(14, AV.bool b52), (13, AV.int IntKind.i64 i53), (12, AV.int IntKind.i64 i54), (11, AV.slice h55)], σ) = if b52 = true then some (AV.bool (decide ((↑(Hdl.len h55) : Int) = IntKind.wrap IntKind.i64 (i53 - i54))), σ) else some (AV.bool false, σ) := by intros; kernel_rfl

theorem f11_eq : ∀ (Γ : Gam) (k : Nat) (σ : Store) (h0 h1 : Hdl) (i2 i3 : Int),
  evBody Try.prog Γ drawn k Try.f11 [AV.slice h0, AV.slice h1, AV.int IntKind.i64 i2, AV.int IntKind.i64 i3] σ =
    Option.bind (Γ (Fun.fn 27) [AV.slice h0, AV.int IntKind.i64 i2] σ) fun x4 ↦
      Option.bind (AV.item 0 2 (Prod.fst x4)) fun x5 ↦
        Option.bind (AV.asSl x5) fun x6 ↦
          Option.bind (AV.item 1 2 (Prod.fst x4)) fun x7 ↦
            Option.bind (AV.asInt IntKind.i64 x7) fun x8 ↦
              if decide (x8 ≠ 0) = true then some (AV.tuple [AV.ptr none, AV.int IntKind.i64 2], Prod.snd x4)
              else
                if decide ((↑(Hdl.len h0) : Int) = 0) = true then some (AV.tuple [AV.ptr none, AV.int IntKind.i64 2], Prod.snd x4)
                else
                  if decide (4194304 ≤ i2) = true then some (AV.tuple [AV.ptr none, AV.int IntKind.i64 2], Prod.snd x4)
                  else
                    Option.bind (Γ (Fun.fn 28) [AV.slice x6, AV.slice h1] (Prod.snd x4)) fun x9 ↦
                      Option.bind (AV.asBool (Prod.fst x9)) fun x10 ↦
                        if (!x10) = true then some (AV.tuple [AV.ptr none, AV.int IntKind.i64 2], Prod.snd x9)
                        else
                          if 0 ≤ IntKind.wrap IntKind.i64 ((↑(Hdl.len h0) : Int) - 1) ∧ IntKind.wrap IntKind.i64 ((↑(Hdl.len h0) : Int) - 1) < (↑(Hdl.len h0) : Int) then
                            Option.bind (Store.ldInt (Prod.snd x9) IntKind.i64 (Hdl.idx h0 (IntKind.wrap IntKind.i64 ((↑(Hdl.len h0) : Int) - 1)) 1)) fun x11 ↦
                              Option.bind (Γ (Fun.fn 29) [AV.slice h0, AV.int IntKind.i64 x11] (Prod.snd x9)) fun x12 ↦
                                Option.bind (AV.asInt IntKind.i64 (Prod.fst x12)) fun x13 ↦
                                  if decide (x13 ≠ IntKind.wrap IntKind.i64 ((↑(Hdl.len h0) : Int) - 1)) = true then some (AV.tuple [AV.ptr none, AV.int IntKind.i64 2], Prod.snd x12)
                                  else
                                    if decide (i3 < 1) = true then some (AV.tuple [AV.ptr none, AV.int IntKind.i64 2], Prod.snd x12)
                                    else
                                      if decide (4194304 < i3) = true then some (AV.tuple [AV.ptr none, AV.int IntKind.i64 2], Prod.snd x12)
                                      else
                                        Option.bind (Γ (Fun.fn 30) [AV.slice h0, AV.slice h1] (Prod.snd x12)) fun x14 ↦
                                          Option.bind (AV.item 0 2 (Prod.fst x14)) fun x15 ↦
                                            Option.bind (AV.asSl x15) fun x16 ↦
                                              Option.bind (AV.item 1 2 (Prod.fst x14)) fun x17 ↦
                                                Option.bind (AV.asInt IntKind.i64 x17) fun x18 ↦
                                                  if 0 ≤ IntKind.wrap IntKind.i64 ((↑(Hdl.len h0) : Int) - 1) ∧ IntKind.wrap IntKind.i64 ((↑(Hdl.len h0) : Int) - 1) < (↑(Hdl.len h0) : Int) then
                                                    Option.bind (Store.ldInt (Prod.snd x14) IntKind.i64 (Hdl.idx h0 (IntKind.wrap IntKind.i64 ((↑(Hdl.len h0) : Int) - 1)) 1)) fun x19 ↦
                                                      Option.bind (Γ (Fun.fn 31) [AV.slice x16, AV.int IntKind.i64 i2] (Store.push (Prod.snd x14) [AV.int IntKind.i64 (↑(Hdl.len h0) : Int), AV.int IntKind.i64 i2, AV.int IntKind.i64 i3, AV.int IntKind.i64 x19, AV.slice Hdl.nil, AV.ptr none, AV.ptr none, AV.ptr none] 8)) fun x20 ↦
                                                        Option.bind (AV.item 0 2 (Prod.fst x20)) fun x21 ↦
                                                          Option.bind (AV.asSl x21) fun x22 ↦
                                                            Option.bind (AV.item 1 2 (Prod.fst x20)) fun x23 ↦
                                                              Option.bind (AV.asInt IntKind.i64 x23) fun x24 ↦
                                                                Option.bind (Store.stL (Prod.snd x20) (Ptr.add (some (List.length (Store.objs (Prod.snd x14)), 0)) 4) [AV.slice x22] 0) fun x25 ↦
                                                                  Option.bind (Γ (Fun.fn 32) [AV.slice x16, AV.int IntKind.i64 (IntKind.wrap IntKind.i64 (i2 - 1))] x25) fun x26 ↦
                                                                    Option.bind (AV.item 0 2 (Prod.fst x26)) fun x27 ↦
                                                                      Option.bind (AV.asPtr x27) fun x28 ↦
                                                                        Option.bind (AV.item 1 2 (Prod.fst x26)) fun x29 ↦
                                                                          Option.bind (AV.asInt IntKind.i64 x29) fun x30 ↦
                                                                            Option.bind (Store.stL (Prod.snd x26) (Ptr.add (some (List.length (Store.objs (Prod.snd x14)), 0)) 5) [AV.ptr x28] 0) fun x31 ↦
                                                                              Option.bind (Γ (Fun.fn 33) [AV.int IntKind.i64 1, AV.int IntKind.i64 (↑(Hdl.len h0) : Int)] x31) fun x32 ↦
                                                                                Option.bind (AV.item 0 2 (Prod.fst x32)) fun x33 ↦
                                                                                  Option.bind (AV.asPtr x33) fun x34 ↦
                                                                                    Option.bind (AV.item 1 2 (Prod.fst x32)) fun x35 ↦
                                                                                      Option.bind (AV.asInt IntKind.i64 x35) fun x36 ↦
                                                                                        Option.bind (Γ (Fun.fn 34) [AV.int IntKind.u64 (IntKind.wrap IntKind.u64 (↑(Hdl.len h0) : Int))] (Prod.snd x32)) fun x37 ↦
                                                                                          Option.bind (AV.asInt IntKind.i64 (Prod.fst x37)) fun x38 ↦
                                                                                            if i3 = 0 then none
                                                                                            else
                                                                                              Option.bind (Γ (Fun.fn 33) [AV.int IntKind.i64 x38, AV.int IntKind.i64 (IntKind.wrap IntKind.i64 (IntKind.wrap IntKind.i64 (Int.tdiv (IntKind.wrap IntKind.i64 ((↑(Hdl.len h0) : Int) - 1)) i3) + 1))] (Prod.snd x37)) fun x39 ↦
                                                                                                Option.bind (AV.item 0 2 (Prod.fst x39)) fun x40 ↦
                                                                                                  Option.bind (AV.asPtr x40) fun x41 ↦
                                                                                                    Option.bind (AV.item 1 2 (Prod.fst x39)) fun x42 ↦
                                                                                                      Option.bind (AV.asInt IntKind.i64 x42) fun x43 ↦
                                                                                                        Option.bind (Store.stL (Prod.snd x39) (Ptr.add (some (List.length (Store.objs (Prod.snd x14)), 0)) 7) [AV.ptr x41] 0) fun x44 ↦
                                                                                                          Option.bind
                                                                                                            (loopF Try.prog Γ drawn k Try.f11 [1, 1, 1, 1, 1, 1, 1, 1, 1, 1, 1, 0, 1, 0] [122, 121, 120, 18, 16, 15, 3]
                                                                                                              ([AV.int IntKind.i64 0, AV.int IntKind.i64 (↑(Hdl.len h1) : Int), AV.slice h1, AV.int IntKind.i64 0, AV.ptr x34, AV.ptr (some (List.length (Store.objs (Prod.snd x14)), 0)), AV.int IntKind.i64 i3], x44))
                                                                                                            (contF Try.prog Γ drawn k Try.f11 [1, 1, 1, 1, 1, 1, 1, 1, 1, 1, 1, 0, 1, 0])
                                                  else none
                          else none := by intros; kernel_rfl

theorem f11_L11111111111010 : ∀ (Γ : Gam) (k : Nat) (σ : Store) (i45 i46 : Int) (h47 : Hdl) (i48 : Int) (p49 p50 : Ptr) (i51 : Int),
  stepF Try.prog Γ drawn k Try.f11 [1, 1, 1, 1, 1, 1, 1, 1, 1, 1, 1, 0, 1, 0] [122, 121, 120, 18, 16, 15, 3] ([AV.int IntKind.i64 i45, AV.int IntKind.i64 i46, AV.slice h47, AV.int IntKind.i64 i48, AV.ptr p49, AV.ptr p50, AV.int IntKind.i64 i51], σ) =
    if decide (i45 < i46) = true then
      if 0 ≤ i45 ∧ i45 < (↑(Hdl.len h47) : Int) then
        Option.bind (Store.ldInt σ IntKind.i64 (Hdl.idx h47 i45 1)) fun x52 ↦
          if i51 = 0 then none
          else
            if decide (Int.tmod x52 i51 = 0) = true then
              Option.bind (Γ (Fun.fn 35) [AV.ptr p49, AV.int IntKind.i64 i45, AV.int IntKind.u64 1] σ) fun x53 ↦
                Option.bind (AV.asBool (Prod.fst x53)) fun x54 ↦
                  Option.bind p50 fun x55 ↦
                    Option.bind (Store.ldPtr (Prod.snd x53) (Ptr.add (some x55) 7)) fun x56 ↦
                      if i51 = 0 then none
                      else
                        Option.bind (Γ (Fun.fn 35) [AV.ptr x56, AV.int IntKind.i64 i48, AV.int IntKind.u64 (IntKind.wrap IntKind.u64 (IntKind.wrap IntKind.i64 (Int.tdiv x52 i51)))] (Prod.snd x53)) fun x57 ↦
                          Option.bind (AV.asBool (Prod.fst x57)) fun x58 ↦ some (Sum.inl ([AV.int IntKind.i64 (IntKind.wrap IntKind.i64 (i45 + 1)), AV.int IntKind.i64 i46, AV.slice h47, AV.int IntKind.i64 (IntKind.wrap IntKind.i64 (i48 + 1)), AV.ptr p49, AV.ptr p50, AV.int IntKind.i64 i51], Prod.snd x57))
            else some (Sum.inl ([AV.int IntKind.i64 (IntKind.wrap IntKind.i64 (i45 + 1)), AV.int IntKind.i64 i46, AV.slice h47, AV.int IntKind.i64 i48, AV.ptr p49, AV.ptr p50, AV.int IntKind.i64 i51], σ))
      else none
    else some (Sum.inr (AX.exit 0, [(16, AV.ptr p49), (15, AV.ptr p50)], σ)) := by intros; kernel_rfl

theorem f11_X11111111111010_1 : ∀ (Γ : Gam) (k : Nat) (σ : Store) (p59 p60 : Ptr),
  contF Try.prog Γ drawn k Try.f11 [1, 1, 1, 1, 1, 1, 1, 1, 1, 1, 1, 0, 1, 0] (AX.exit 0, [(16, AV.ptr p59), (15, AV.ptr p60)], σ) =
    Option.bind (Γ (Fun.fn 36) [AV.ptr p59] σ) fun x61 ↦
      Option.bind (AV.item 0 2 (Prod.fst x61)) fun x62 ↦ Option.bind (AV.asPtr x62) fun x63 ↦ Option.bind (AV.item 1 2 (Prod.fst x61)) fun x64 ↦ Option.bind (AV.asInt IntKind.i64 x64) fun x65 ↦ Option.bind p60 fun x66 ↦ Option.bind (Store.stL (Prod.snd x61) (Ptr.add (some x66) 6) [AV.ptr x63] 0) fun x67 ↦ some (AV.tuple [AV.ptr p60, AV.int IntKind.i64 0], x67) := by intros; kernel_rfl

theorem f13_eq : ∀ (Γ : Gam) (k : Nat) (σ : Store) (h0 : Hdl), evBody Try.prog Γ drawn k Try.f13 [AV.slice h0] σ = Option.bind (loopF Try.prog Γ drawn k Try.f13 [1, 0, 1, 0] [3, 0] ([AV.int IntKind.i64 0, AV.slice h0], σ)) (contF Try.prog Γ drawn k Try.f13 [1, 0, 1, 0]) := by intros; kernel_rfl

theorem f13_L1010 : ∀ (Γ : Gam) (k : Nat) (σ : Store) (i1 : Int) (h2 : Hdl),
  stepF Try.prog Γ drawn k Try.f13 [1, 0, 1, 0] [3, 0] ([AV.int IntKind.i64 i1, AV.slice h2], σ) =
    if decide (IntKind.wrap IntKind.i64 (i1 + 1) < (↑(Hdl.len h2) : Int)) = true then
      if 0 ≤ i1 ∧ i1 < (↑(Hdl.len h2) : Int) then
        Option.bind (Store.ldInt σ IntKind.i64 (Hdl.idx h2 i1 1)) fun x3 ↦
          if 0 ≤ IntKind.wrap IntKind.i64 ((↑(Hdl.len h2) : Int) - 1) ∧ IntKind.wrap IntKind.i64 ((↑(Hdl.len h2) : Int) - 1) < (↑(Hdl.len h2) : Int) then
            Option.bind (Store.ldInt σ IntKind.i64 (Hdl.idx h2 (IntKind.wrap IntKind.i64 ((↑(Hdl.len h2) : Int) - 1)) 1)) fun x4 ↦ if decide (x3 = x4) = true then some (Sum.inr (AX.ret, [(2, AV.bool false)], σ)) else some (Sum.inl ([AV.int IntKind.i64 (IntKind.wrap IntKind.i64 (i1 + 1)), AV.slice h2], σ))
          else none
      else none
    else some (Sum.inr (AX.exit 0, [(0, AV.slice h2)], σ)) := by intros; kernel_rfl

theorem f13_X1010_1 : ∀ (Γ : Gam) (k : Nat) (σ : Store) (b5 : Bool), contF Try.prog Γ drawn k Try.f13 [1, 0, 1, 0] (AX.ret, [(2, AV.bool b5)], σ) = some (AV.bool b5, σ) := by intros; kernel_rfl

theorem f13_X1010_2 : ∀ (Γ : Gam) (k : Nat) (σ : Store) (h6 : Hdl), contF Try.prog Γ drawn k Try.f13 [1, 0, 1, 0] (AX.exit 0, [(0, AV.slice h6)], σ) = some (AV.bool (decide (0 < (↑(Hdl.len h6) : Int))), σ) := by intros; kernel_rfl

theorem f15_eq : ∀ (Γ : Gam) (k : Nat) (σ : Store) (h0 : Hdl), evBody Try.prog Γ drawn k Try.f15 [AV.slice h0] σ = Option.bind (loopF Try.prog Γ drawn k Try.f15 [1, 1, 0, 1, 0] [9, 8, 3, 0] ([AV.int IntKind.i64 0, AV.int IntKind.i64 (↑(Hdl.len h0) : Int), AV.slice Hdl.nil, AV.slice h0], σ)) (contF Try.prog Γ drawn k Try.f15 [1, 1, 0, 1, 0]) := by intros; kernel_rfl

theorem f15_L11010 : ∀ (Γ : Gam) (k : Nat) (σ : Store) (i1 i2 : Int) (h3 h4 : Hdl),
  stepF Try.prog Γ drawn k Try.f15 [1, 1, 0, 1, 0] [9, 8, 3, 0] ([AV.int IntKind.i64 i1, AV.int IntKind.i64 i2, AV.slice h3, AV.slice h4], σ) =
    if decide (i1 < i2) = true then Option.bind (loopF Try.prog Γ drawn k Try.f15 [1, 1, 0, 1, 0, 0, 1, 1, 0, 0, 1, 1, 0, 0] [9, 8, 5, 4, 3, 0] ([AV.int IntKind.i64 i1, AV.int IntKind.i64 i2, AV.int IntKind.i64 0, AV.int IntKind.i64 i1, AV.slice h3, AV.slice h4], σ)) (contFL Try.prog Γ drawn k Try.f15 [1, 1, 0, 1, 0] [9, 8, 3, 0] [1, 1, 0, 0, 1, 1, 0, 0])
    else some (Sum.inr (AX.exit 0, [(3, AV.slice h3)], σ)) := by intros; kernel_rfl

theorem f15_X11010_1 : ∀ (Γ : Gam) (k : Nat) (σ : Store) (h5 : Hdl), contF Try.prog Γ drawn k Try.f15 [1, 1, 0, 1, 0] (AX.exit 0, [(3, AV.slice h5)], σ) = some (AV.slice h5, σ) := by intros; kernel_rfl

theorem f15_L11010011001100 : ∀ (Γ : Gam) (k : Nat) (σ : Store) (i6 i7 i8 i9 : Int) (h10 h11 : Hdl),
  stepF Try.prog Γ drawn k Try.f15 [1, 1, 0, 1, 0, 0, 1, 1, 0, 0, 1, 1, 0, 0] [9, 8, 5, 4, 3, 0] ([AV.int IntKind.i64 i6, AV.int IntKind.i64 i7, AV.int IntKind.i64 i8, AV.int IntKind.i64 i9, AV.slice h10, AV.slice h11], σ) =
    if decide (i8 < (↑(Hdl.len h10) : Int)) = true then
      if 0 ≤ i8 ∧ i8 < (↑(Hdl.len h10) : Int) then
        Option.bind (Store.ldInt σ IntKind.i64 (Hdl.idx h10 i8 1)) fun x12 ↦
          Option.bind (Γ (Fun.fn 37) [AV.slice h11, AV.int IntKind.i64 x12, AV.int IntKind.i64 i9] σ) fun x13 ↦
            Option.bind (AV.asBool (Prod.fst x13)) fun x14 ↦
              if x14 = true then some (Sum.inl ([AV.int IntKind.i64 i6, AV.int IntKind.i64 i7, AV.int IntKind.i64 (IntKind.wrap IntKind.i64 (i8 + 1)), AV.int IntKind.i64 i9, AV.slice h10, AV.slice h11], Prod.snd x13))
              else some (Sum.inr (AX.exit 2, [(9, AV.int IntKind.i64 i6), (8, AV.int IntKind.i64 i7), (5, AV.int IntKind.i64 i8), (4, AV.int IntKind.i64 i9), (3, AV.slice h10), (0, AV.slice h11)], Prod.snd x13))
      else none
    else some (Sum.inr (AX.exit 2, [(9, AV.int IntKind.i64 i6), (8, AV.int IntKind.i64 i7), (5, AV.int IntKind.i64 i8), (4, AV.int IntKind.i64 i9), (3, AV.slice h10), (0, AV.slice h11)], σ)) := by intros; kernel_rfl

theorem f15_X11010011001100_1 : ∀ (Γ : Gam) (k : Nat) (σ : Store) (i15 i16 i17 i18 : Int) (h19 h20 : Hdl),
  contFL Try.prog Γ drawn k Try.f15 [1, 1, 0, 1, 0] [9, 8, 3, 0] [1, 1, 0, 0, 1, 1, 0, 0] (AX.exit 2, [(9, AV.int IntKind.i64 i15), (8, AV.int IntKind.i64 i16), (5, AV.int IntKind.i64 i17), (4, AV.int IntKind.i64 i18), (3, AV.slice h19), (0, AV.slice h20)], σ) =
    Option.bind (Store.readSl (Store.push σ [AV.int IntKind.i64 0] 1) { a := some (List.length (Store.objs σ), 0), len := 1, cap := some 1 } 1) fun x21 ↦
      Option.bind (Store.app (Store.push σ [AV.int IntKind.i64 0] 1) h19 1 8 x21 1) fun x22 ↦
        Option.bind (loopF Try.prog Γ drawn k Try.f15 [1, 1, 0, 1, 0, 0, 1, 1, 0, 0, 1, 1, 1, 1, 0, 1, 0] [9, 8, 6, 5, 4, 3, 0] ([AV.int IntKind.i64 i15, AV.int IntKind.i64 i16, AV.int IntKind.i64 (IntKind.wrap IntKind.i64 ((↑(Hdl.len (Prod.fst x22)) : Int) - 1)), AV.int IntKind.i64 i17, AV.int IntKind.i64 i18, AV.slice (Prod.fst x22), AV.slice h20], Prod.snd x22))
          (contFL Try.prog Γ drawn k Try.f15 [1, 1, 0, 1, 0] [9, 8, 3, 0] [1, 1, 0, 0, 1, 1, 1, 1, 0, 1, 0]) := by intros; kernel_rfl

theorem f15_L11010011001111010 : ∀ (Γ : Gam) (k : Nat) (σ : Store) (i23 i24 i25 i26 i27 : Int) (h28 h29 : Hdl),
  stepF Try.prog Γ drawn k Try.f15 [1, 1, 0, 1, 0, 0, 1, 1, 0, 0, 1, 1, 1, 1, 0, 1, 0] [9, 8, 6, 5, 4, 3, 0] ([AV.int IntKind.i64 i23, AV.int IntKind.i64 i24, AV.int IntKind.i64 i25, AV.int IntKind.i64 i26, AV.int IntKind.i64 i27, AV.slice h28, AV.slice h29], σ) =
    if decide (i26 < i25) = true then
      if 0 ≤ IntKind.wrap IntKind.i64 (i25 - 1) ∧ IntKind.wrap IntKind.i64 (i25 - 1) < (↑(Hdl.len h28) : Int) then
        Option.bind (Store.ldInt σ IntKind.i64 (Hdl.idx h28 (IntKind.wrap IntKind.i64 (i25 - 1)) 1)) fun x30 ↦
          if 0 ≤ i25 ∧ i25 < (↑(Hdl.len h28) : Int) then Option.bind (Store.stL σ (Hdl.idx h28 i25 1) [AV.int IntKind.i64 x30] 0) fun x31 ↦ some (Sum.inl ([AV.int IntKind.i64 i23, AV.int IntKind.i64 i24, AV.int IntKind.i64 (IntKind.wrap IntKind.i64 (i25 - 1)), AV.int IntKind.i64 i26, AV.int IntKind.i64 i27, AV.slice h28, AV.slice h29], x31)) else none
      else none
    else some (Sum.inr (AX.exit 4, [(9, AV.int IntKind.i64 i23), (8, AV.int IntKind.i64 i24), (5, AV.int IntKind.i64 i26), (4, AV.int IntKind.i64 i27), (3, AV.slice h28), (0, AV.slice h29)], σ)) := by intros; kernel_rfl

theorem f15_X11010011001111010_1 : ∀ (Γ : Gam) (k : Nat) (σ : Store) (i32 i33 i34 i35 : Int) (h36 h37 : Hdl),
  contFL Try.prog Γ drawn k Try.f15 [1, 1, 0, 1, 0] [9, 8, 3, 0] [1, 1, 0, 0, 1, 1, 1, 1, 0, 1, 0] (AX.exit 4, [(9, AV.int IntKind.i64 i32), (8, AV.int IntKind.i64 i33), (5, AV.int IntKind.i64 i34), (4, AV.int IntKind.i64 i35), (3, AV.slice h36), (0, AV.slice h37)], σ) =
    if 0 ≤ i34 ∧ i34 < (↑(Hdl.len h36) : Int) then Option.bind (Store.stL σ (Hdl.idx h36 i34 1) [AV.int IntKind.i64 i35] 0) fun x38 ↦ some (Sum.inl ([AV.int IntKind.i64 (IntKind.wrap IntKind.i64 (i32 + 1)), AV.int IntKind.i64 i33, AV.slice h36, AV.slice h37], x38)) else none := by intros; kernel_rfl

theorem f16_eq : ∀ (Γ : Gam) (k : Nat) (σ : Store) (p0 : Ptr), evBody Try.prog Γ drawn k Try.f16 [AV.ptr p0] σ = if Option.isNone p0 = true then some (AV.int IntKind.i64 0, σ) else Option.bind p0 fun x1 ↦ Option.bind (Store.ldInt σ IntKind.i64 (Ptr.add (some x1) 0)) fun x2 ↦ some (AV.int IntKind.i64 x2, σ) := by intros; kernel_rfl

theorem f17_eq : ∀ (Γ : Gam) (k : Nat) (σ : Store) (h0 : Hdl), evBody Try.prog Γ drawn k Try.f17 [AV.slice h0] σ = Option.bind (loopF Try.prog Γ drawn k Try.f17 [1, 1, 0, 1, 0] [9, 8, 7, 4] ([AV.int IntKind.i64 0, AV.int IntKind.i64 (↑(Hdl.len h0) : Int), AV.slice h0, AV.slice Hdl.nil], σ)) (contF Try.prog Γ drawn k Try.f17 [1, 1, 0, 1, 0]) := by intros; kernel_rfl

theorem f17_L11010 : ∀ (Γ : Gam) (k : Nat) (σ : Store) (i1 i2 : Int) (h3 h4 : Hdl),
  stepF Try.prog Γ drawn k Try.f17 [1, 1, 0, 1, 0] [9, 8, 7, 4] ([AV.int IntKind.i64 i1, AV.int IntKind.i64 i2, AV.slice h3, AV.slice h4], σ) =
    if decide (i1 < i2) = true then
      if 0 ≤ i1 ∧ i1 < (↑(Hdl.len h3) : Int) then
        Option.bind (Store.ldInt σ IntKind.u8 (Hdl.idx h3 i1 1)) fun x5 ↦
          if decide (i1 < 120) = true then
            Option.bind (Store.readSl (Store.push σ [AV.int IntKind.i64 (IntKind.wrap IntKind.i64 (Int.tmod x5 6))] 1) { a := some (List.length (Store.objs σ), 0), len := 1, cap := some 1 } 1) fun x6 ↦
              Option.bind (Store.app (Store.push σ [AV.int IntKind.i64 (IntKind.wrap IntKind.i64 (Int.tmod x5 6))] 1) h4 1 8 x6 1) fun x7 ↦ some (Sum.inl ([AV.int IntKind.i64 (IntKind.wrap IntKind.i64 (i1 + 1)), AV.int IntKind.i64 i2, AV.slice h3, AV.slice (Prod.fst x7)], Prod.snd x7))
          else some (Sum.inl ([AV.int IntKind.i64 (IntKind.wrap IntKind.i64 (i1 + 1)), AV.int IntKind.i64 i2, AV.slice h3, AV.slice h4], σ))
      else none
    else some (Sum.inr (AX.exit 0, [(4, AV.slice h4)], σ)) := by intros; kernel_rfl

theorem f17_X11010_1 : ∀ (Γ : Gam) (k : Nat) (σ : Store) (h8 : Hdl),
  contF Try.prog Γ drawn k Try.f17 [1, 1, 0, 1, 0] (AX.exit 0, [(4, AV.slice h8)], σ) =
    Option.bind (Store.readSl (Store.push σ [AV.int IntKind.i64 (IntKind.wrap IntKind.i64 (3 + IntKind.wrap IntKind.i64 (Int.tmod (↑(Hdl.len h8) : Int) 4 * 4)))] 1) { a := some (List.length (Store.objs σ), 0), len := 1, cap := some 1 } 1) fun x9 ↦
      Option.bind (Store.app (Store.push σ [AV.int IntKind.i64 (IntKind.wrap IntKind.i64 (3 + IntKind.wrap IntKind.i64 (Int.tmod (↑(Hdl.len h8) : Int) 4 * 4)))] 1) h8 1 8 x9 1) fun x10 ↦
        Option.bind (Γ (Fun.fn 13) [AV.slice (Prod.fst x10)] (Prod.snd x10)) fun x11 ↦
          Option.bind (AV.asBool (Prod.fst x11)) fun x12 ↦
            if (!x12) = true then
              if 0 ≤ IntKind.wrap IntKind.i64 ((↑(Hdl.len (Prod.fst x10)) : Int) - 1) ∧ IntKind.wrap IntKind.i64 ((↑(Hdl.len (Prod.fst x10)) : Int) - 1) < (↑(Hdl.len (Prod.fst x10)) : Int) then
                Option.bind (Store.stL (Prod.snd x11) (Hdl.idx (Prod.fst x10) (IntKind.wrap IntKind.i64 ((↑(Hdl.len (Prod.fst x10)) : Int) - 1)) 1) [AV.int IntKind.i64 20] 0) fun x13 ↦ Option.bind (Γ (Fun.fn 15) [AV.slice (Prod.fst x10)] x13) fun x14 ↦ Option.bind (AV.asSl (Prod.fst x14)) fun x15 ↦ some (AV.tuple [AV.slice (Prod.fst x10), AV.slice x15], Prod.snd x14)
              else none
            else Option.bind (Γ (Fun.fn 15) [AV.slice (Prod.fst x10)] (Prod.snd x11)) fun x16 ↦ Option.bind (AV.asSl (Prod.fst x16)) fun x17 ↦ some (AV.tuple [AV.slice (Prod.fst x10), AV.slice x17], Prod.snd x16) := by intros; kernel_rfl

theorem f18_eq : ∀ (Γ : Gam) (k : Nat) (σ : Store) (p0 : Ptr) (h1 : Hdl),
  evBody Try.prog Γ drawn k Try.f18 [AV.ptr p0, AV.slice h1] σ =
    Option.bind (Store.ldPtr (Store.push (Store.push (Store.push σ [AV.ptr p0] 1) [AV.int IntKind.i64 0] 1) [AV.int IntKind.i64 0] 1) (some (List.length (Store.objs σ), 0))) fun x2 ↦
      if Option.isNone x2 = true then
        Option.bind (Store.stL (Store.push (Store.push (Store.push σ [AV.ptr p0] 1) [AV.int IntKind.i64 0] 1) [AV.int IntKind.i64 0] 1) (some (List.length (Store.objs (Store.push σ [AV.ptr p0] 1)), 0)) [AV.int IntKind.i64 0] 0) fun x3 ↦
          Option.bind (Store.stL x3 (some (List.length (Store.objs (Store.push (Store.push σ [AV.ptr p0] 1) [AV.int IntKind.i64 0] 1)), 0)) [AV.int IntKind.i64 0] 0) fun x4 ↦
            Option.bind (Store.ldInt x4 IntKind.i64 (some (List.length (Store.objs (Store.push σ [AV.ptr p0] 1)), 0))) fun x5 ↦ Option.bind (Store.ldInt x4 IntKind.i64 (some (List.length (Store.objs (Store.push (Store.push σ [AV.ptr p0] 1) [AV.int IntKind.i64 0] 1)), 0))) fun x6 ↦ some (AV.tuple [AV.int IntKind.i64 x5, AV.int IntKind.i64 x6], x4)
      else
        if decide (0 < (↑(Hdl.len h1) : Int)) = true then
          Option.bind (Store.sub (Store.push (Store.push (Store.push σ [AV.ptr p0] 1) [AV.int IntKind.i64 0] 1) [AV.int IntKind.i64 0] 1) h1 1 none (some (IntKind.wrap IntKind.i64 ((↑(Hdl.len h1) : Int) - 1))) none) fun x7 ↦
            Option.bind (Store.ldPtr (Store.push (Store.push (Store.push σ [AV.ptr p0] 1) [AV.int IntKind.i64 0] 1) [AV.int IntKind.i64 0] 1) (some (List.length (Store.objs σ), 0))) fun x8 ↦
              Option.bind x8 fun x9 ↦
                Option.bind (Store.ldInt (Store.push (Store.push (Store.push σ [AV.ptr p0] 1) [AV.int IntKind.i64 0] 1) [AV.int IntKind.i64 0] 1) IntKind.i64 (Ptr.add (some x9) 3)) fun x10 ↦
                  Option.bind (Γ (Fun.fn 38) [AV.slice x7, AV.int IntKind.i64 x10] (Store.push (Store.push (Store.push σ [AV.ptr p0] 1) [AV.int IntKind.i64 0] 1) [AV.int IntKind.i64 0] 1)) fun x11 ↦
                    Option.bind (AV.asBool (Prod.fst x11)) fun x12 ↦
                      if x12 = true then
                        Option.bind (Store.stL (Prod.snd x11) (some (List.length (Store.objs (Store.push σ [AV.ptr p0] 1)), 0)) [AV.int IntKind.i64 0] 0) fun x13 ↦
                          Option.bind (Store.stL x13 (some (List.length (Store.objs (Store.push (Store.push σ [AV.ptr p0] 1) [AV.int IntKind.i64 0] 1)), 0)) [AV.int IntKind.i64 0] 0) fun x14 ↦
                            Option.bind (Store.ldInt x14 IntKind.i64 (some (List.length (Store.objs (Store.push σ [AV.ptr p0] 1)), 0))) fun x15 ↦ Option.bind (Store.ldInt x14 IntKind.i64 (some (List.length (Store.objs (Store.push (Store.push σ [AV.ptr p0] 1) [AV.int IntKind.i64 0] 1)), 0))) fun x16 ↦ some (AV.tuple [AV.int IntKind.i64 x15, AV.int IntKind.i64 x16], x14)
                      else
                        Option.bind (Store.ldPtr (Prod.snd x11) (some (List.length (Store.objs σ), 0))) fun x17 ↦
                          Option.bind x17 fun x18 ↦
                            Option.bind (Store.ldInt (Prod.snd x11) IntKind.i64 (Ptr.add (some x18) 0)) fun x19 ↦
                              Option.bind (Store.stL (Store.push (Store.push (Prod.snd x11) [AV.int IntKind.i64 0] 1) [AV.int IntKind.i64 0] 1) (some (List.length (Store.objs (Prod.snd x11)), 0)) [AV.int IntKind.i64 0] 0) fun x20 ↦
                                Option.bind (Store.stL x20 (some (List.length (Store.objs (Store.push (Prod.snd x11) [AV.int IntKind.i64 0] 1)), 0)) [AV.int IntKind.i64 x19] 0) fun x21 ↦
                                  Option.bind (Γ (Fun.fn 39) [AV.slice h1] x21) fun x22 ↦
                                    Option.bind (AV.asFn (Prod.fst x22)) fun x23 ↦
                                      Option.bind
                                        (rangeV Γ (Prod.fst x23) (Prod.fst (Prod.snd x23)) (Prod.snd (Prod.snd x23))
                                          (AObj.loop
                                            [(7, AV.ptr (some (List.length (Store.objs (Store.push (Prod.snd x11) [AV.int IntKind.i64 0] 1)), 0))), (6, AV.ptr (some (List.length (Store.objs (Prod.snd x11)), 0))), (5, AV.ptr (some (List.length (Store.objs (Store.push (Store.push σ [AV.ptr p0] 1) [AV.int IntKind.i64 0] 1)), 0))),
                                              (4, AV.ptr (some (List.length (Store.objs (Store.push σ [AV.ptr p0] 1)), 0))), (2, AV.ptr (some (List.length (Store.objs σ), 0)))]
                                            (Array.toList #[35, 36]) (codeAt (fnCode Try.f18) [1, 1, 1, 0, 1, 0, 0]) (codeAt (fnCode Try.f18) [1, 1, 1, 0, 1, 0, 1]) (Func.ntmps Try.f18) LSt.ready)
                                          (Prod.snd x22))
                                        fun x24 ↦
                                        contF Try.prog Γ drawn k Try.f18 [1, 1, 1, 0, 1, 0]
                                          (Prod.fst x24,
                                            [(7, AV.ptr (some (List.length (Store.objs (Store.push (Prod.snd x11) [AV.int IntKind.i64 0] 1)), 0))), (6, AV.ptr (some (List.length (Store.objs (Prod.snd x11)), 0))), (5, AV.ptr (some (List.length (Store.objs (Store.push (Store.push σ [AV.ptr p0] 1) [AV.int IntKind.i64 0] 1)), 0))),
                                              (4, AV.ptr (some (List.length (Store.objs (Store.push σ [AV.ptr p0] 1)), 0)))],
                                            Prod.snd x24)
        else
          Option.bind (Store.ldPtr (Store.push (Store.push (Store.push σ [AV.ptr p0] 1) [AV.int IntKind.i64 0] 1) [AV.int IntKind.i64 0] 1) (some (List.length (Store.objs σ), 0))) fun x25 ↦
            Option.bind x25 fun x26 ↦
              Option.bind (Store.ldInt (Store.push (Store.push (Store.push σ [AV.ptr p0] 1) [AV.int IntKind.i64 0] 1) [AV.int IntKind.i64 0] 1) IntKind.i64 (Ptr.add (some x26) 0)) fun x27 ↦
                Option.bind (Store.stL (Store.push (Store.push (Store.push (Store.push (Store.push σ [AV.ptr p0] 1) [AV.int IntKind.i64 0] 1) [AV.int IntKind.i64 0] 1) [AV.int IntKind.i64 0] 1) [AV.int IntKind.i64 0] 1) (some (List.length (Store.objs (Store.push (Store.push (Store.push σ [AV.ptr p0] 1) [AV.int IntKind.i64 0] 1) [AV.int IntKind.i64 0] 1)), 0)) [AV.int IntKind.i64 0] 0) fun x28 ↦
                  Option.bind (Store.stL x28 (some (List.length (Store.objs (Store.push (Store.push (Store.push (Store.push σ [AV.ptr p0] 1) [AV.int IntKind.i64 0] 1) [AV.int IntKind.i64 0] 1) [AV.int IntKind.i64 0] 1)), 0)) [AV.int IntKind.i64 x27] 0) fun x29 ↦
                    Option.bind (Γ (Fun.fn 39) [AV.slice h1] x29) fun x30 ↦
                      Option.bind (AV.asFn (Prod.fst x30)) fun x31 ↦
                        Option.bind
                          (rangeV Γ (Prod.fst x31) (Prod.fst (Prod.snd x31)) (Prod.snd (Prod.snd x31))
                            (AObj.loop
                              [(7, AV.ptr (some (List.length (Store.objs (Store.push (Store.push (Store.push (Store.push σ [AV.ptr p0] 1) [AV.int IntKind.i64 0] 1) [AV.int IntKind.i64 0] 1) [AV.int IntKind.i64 0] 1)), 0))), (6, AV.ptr (some (List.length (Store.objs (Store.push (Store.push (Store.push σ [AV.ptr p0] 1) [AV.int IntKind.i64 0] 1) [AV.int IntKind.i64 0] 1)), 0))),
                                (5, AV.ptr (some (List.length (Store.objs (Store.push (Store.push σ [AV.ptr p0] 1) [AV.int IntKind.i64 0] 1)), 0))), (4, AV.ptr (some (List.length (Store.objs (Store.push σ [AV.ptr p0] 1)), 0))), (2, AV.ptr (some (List.length (Store.objs σ), 0)))]
                              (Array.toList #[35, 36]) (codeAt (fnCode Try.f18) [1, 1, 1, 0, 1, 0, 0]) (codeAt (fnCode Try.f18) [1, 1, 1, 0, 1, 0, 1]) (Func.ntmps Try.f18) LSt.ready)
                            (Prod.snd x30))
                          fun x32 ↦
                          contF Try.prog Γ drawn k Try.f18 [1, 1, 1, 0, 1, 0]
                            (Prod.fst x32,
                              [(7, AV.ptr (some (List.length (Store.objs (Store.push (Store.push (Store.push (Store.push σ [AV.ptr p0] 1) [AV.int IntKind.i64 0] 1) [AV.int IntKind.i64 0] 1) [AV.int IntKind.i64 0] 1)), 0))), (6, AV.ptr (some (List.length (Store.objs (Store.push (Store.push (Store.push σ [AV.ptr p0] 1) [AV.int IntKind.i64 0] 1) [AV.int IntKind.i64 0] 1)), 0))),
                                (5, AV.ptr (some (List.length (Store.objs (Store.push (Store.push σ [AV.ptr p0] 1) [AV.int IntKind.i64 0] 1)), 0))), (4, AV.ptr (some (List.length (Store.objs (Store.push σ [AV.ptr p0] 1)), 0)))],
                              Prod.snd x32) := by intros; kernel_rfl

theorem f18_RX111010 : ∀ (Γ : Gam) (k : Nat) (σ : Store) (p33 p34 p35 p36 p37 : Ptr) (i38 i39 : Int),
  roundX Try.prog Γ drawn k Try.f18 [1, 1, 1, 0, 1, 0] [(36, AV.int IntKind.i64 i39), (35, AV.int IntKind.i64 i38), (7, AV.ptr p33), (6, AV.ptr p34), (5, AV.ptr p35), (4, AV.ptr p36), (2, AV.ptr p37)] σ = some (AX.normal, [(9, AV.int IntKind.i64 i39), (36, AV.int IntKind.i64 i39), (35, AV.int IntKind.i64 i38), (7, AV.ptr p33), (6, AV.ptr p34), (5, AV.ptr p35), (4, AV.ptr p36), (2, AV.ptr p37)], σ) := by intros; kernel_rfl

theorem f18_RY111010 : ∀ (Γ : Gam) (k : Nat) (σ : Store) (i40 : Int) (p41 p42 p43 p44 p45 : Ptr),
  roundY Try.prog Γ drawn k Try.f18 [1, 1, 1, 0, 1, 0] [(9, AV.int IntKind.i64 i40), (7, AV.ptr p41), (6, AV.ptr p42), (5, AV.ptr p43), (4, AV.ptr p44), (2, AV.ptr p45)] σ =
    Option.bind (Store.ldPtr σ p45) fun x46 ↦
      Option.bind (Store.ldInt σ IntKind.i64 p42) fun x47 ↦
        Option.bind (Store.ldInt σ IntKind.i64 p41) fun x48 ↦
          Option.bind (Γ (Fun.fn 25) [AV.ptr x46, AV.int IntKind.i64 x47, AV.int IntKind.i64 x48, AV.int IntKind.i64 i40] σ) fun x49 ↦
            Option.bind (AV.item 0 2 (Prod.fst x49)) fun x50 ↦
              Option.bind (AV.asInt IntKind.i64 x50) fun x51 ↦
                Option.bind (AV.item 1 2 (Prod.fst x49)) fun x52 ↦
                  Option.bind (AV.asInt IntKind.i64 x52) fun x53 ↦
                    Option.bind (Store.stL (Prod.snd x49) p42 [AV.int IntKind.i64 x51] 0) fun x54 ↦
                      Option.bind (Store.stL x54 p41 [AV.int IntKind.i64 x53] 0) fun x55 ↦
                        Option.bind (Store.ldInt x55 IntKind.i64 p42) fun x56 ↦ Option.bind (Store.ldInt x55 IntKind.i64 p41) fun x57 ↦ if decide (x56 = x57) = true then Option.bind (Store.stL x55 p44 [AV.int IntKind.i64 0] 0) fun x58 ↦ Option.bind (Store.stL x58 p43 [AV.int IntKind.i64 0] 0) fun x59 ↦ some (AX.ret, x59) else some (AX.normal, x55) := by intros; kernel_rfl

theorem f18_RC111010 : ∀ (Γ : Gam) (k : Nat) (σ : Store) (p60 p61 p62 p63 : Ptr),
  contF Try.prog Γ drawn k Try.f18 [1, 1, 1, 0, 1, 0] (AX.normal, [(7, AV.ptr p60), (6, AV.ptr p61), (5, AV.ptr p62), (4, AV.ptr p63)], σ) =
    if Ptr.off p63 p60 = true then
      Option.bind (Store.ldInt σ IntKind.i64 p61) fun x64 ↦
        Option.bind (Store.ldInt σ IntKind.i64 p60) fun x65 ↦ Option.bind (Store.stL σ p63 [AV.int IntKind.i64 x64] 0) fun x66 ↦ Option.bind (Store.stL x66 p62 [AV.int IntKind.i64 x65] 0) fun x67 ↦ Option.bind (Store.ldInt x67 IntKind.i64 p63) fun x68 ↦ Option.bind (Store.ldInt x67 IntKind.i64 p62) fun x69 ↦ some (AV.tuple [AV.int IntKind.i64 x68, AV.int IntKind.i64 x69], x67)
    else none := by intros; kernel_rfl

theorem f18_RT111010 : ∀ (Γ : Gam) (k : Nat) (σ : Store) (p60 p61 p62 p63 : Ptr), contF Try.prog Γ drawn k Try.f18 [1, 1, 1, 0, 1, 0] (AX.ret, [(7, AV.ptr p60), (6, AV.ptr p61), (5, AV.ptr p62), (4, AV.ptr p63)], σ) = Option.bind (Store.ldInt σ IntKind.i64 p63) fun x70 ↦ Option.bind (Store.ldInt σ IntKind.i64 p62) fun x71 ↦ some (AV.tuple [AV.int IntKind.i64 x70, AV.int IntKind.i64 x71], σ) := by intros; kernel_rfl

theorem f20_eq : ∀ (Γ : Gam) (k : Nat) (σ : Store) (p0 : Ptr) (h1 : Hdl),
  evBody Try.prog Γ drawn k Try.f20 [AV.ptr p0, AV.slice h1] σ =
    if decide ((↑(Hdl.len h1) : Int) = 0) = true then some (AV.slice Hdl.nil, σ)
    else
      Option.bind (Γ (Fun.fn 18) [AV.ptr p0, AV.slice h1] σ) fun x2 ↦
        Option.bind (AV.item 0 2 (Prod.fst x2)) fun x3 ↦
          Option.bind (AV.asInt IntKind.i64 x3) fun x4 ↦ Option.bind (AV.item 1 2 (Prod.fst x2)) fun x5 ↦ Option.bind (AV.asInt IntKind.i64 x5) fun x6 ↦ Option.bind (loopF Try.prog Γ drawn k Try.f20 [1, 1, 1, 1, 0, 1, 0] [8, 7, 6, 0] ([AV.int IntKind.i64 x4, AV.slice Hdl.nil, AV.int IntKind.i64 x6, AV.ptr p0], Prod.snd x2)) (contF Try.prog Γ drawn k Try.f20 [1, 1, 1, 1, 0, 1, 0]) := by intros; kernel_rfl

theorem f20_L1111010 : ∀ (Γ : Gam) (k : Nat) (σ : Store) (i7 : Int) (h8 : Hdl) (i9 : Int) (p10 : Ptr),
  stepF Try.prog Γ drawn k Try.f20 [1, 1, 1, 1, 0, 1, 0] [8, 7, 6, 0] ([AV.int IntKind.i64 i7, AV.slice h8, AV.int IntKind.i64 i9, AV.ptr p10], σ) =
    if decide (i7 < i9) = true then
      Option.bind (Γ (Fun.fn 23) [AV.ptr p10, AV.int IntKind.i64 i7] σ) fun x11 ↦
        Option.bind (AV.item 0 2 (Prod.fst x11)) fun x12 ↦
          Option.bind (AV.asInt IntKind.i64 x12) fun x13 ↦
            Option.bind (AV.item 1 2 (Prod.fst x11)) fun x14 ↦
              Option.bind (AV.asInt IntKind.i64 x14) fun x15 ↦
                Option.bind (Store.readSl (Store.push (Prod.snd x11) [AV.int IntKind.i64 x13] 1) { a := some (List.length (Store.objs (Prod.snd x11)), 0), len := 1, cap := some 1 } 1) fun x16 ↦
                  Option.bind (Store.app (Store.push (Prod.snd x11) [AV.int IntKind.i64 x13] 1) h8 1 8 x16 1) fun x17 ↦ some (Sum.inl ([AV.int IntKind.i64 (IntKind.wrap IntKind.i64 (i7 + 1)), AV.slice (Prod.fst x17), AV.int IntKind.i64 i9, AV.ptr p10], Prod.snd x17))
    else some (Sum.inr (AX.exit 0, [(7, AV.slice h8)], σ)) := by intros; kernel_rfl

theorem f20_X1111010_1 : ∀ (Γ : Gam) (k : Nat) (σ : Store) (h18 : Hdl), contF Try.prog Γ drawn k Try.f20 [1, 1, 1, 1, 0, 1, 0] (AX.exit 0, [(7, AV.slice h18)], σ) = Option.bind (Γ (Fun.fn 40) [AV.slice h18] σ) fun x19 ↦ some (AV.slice h18, Prod.snd x19) := by intros; kernel_rfl

theorem f23_eq : ∀ (Γ : Gam) (k : Nat) (σ : Store) (p0 : Ptr) (i1 : Int),
  evBody Try.prog Γ drawn k Try.f23 [AV.ptr p0, AV.int IntKind.i64 i1] σ =
    if decide (i1 < 0) = true then some (AV.tuple [AV.int IntKind.i64 (-1), AV.int IntKind.i64 0], σ)
    else
      Option.bind (Γ (Fun.fn 16) [AV.ptr p0] σ) fun x2 ↦
        Option.bind (AV.asInt IntKind.i64 (Prod.fst x2)) fun x3 ↦ if decide (x3 ≤ i1) = true then some (AV.tuple [AV.int IntKind.i64 (-1), AV.int IntKind.i64 0], Prod.snd x2) else Option.bind (loopF Try.prog Γ drawn k Try.f23 [1, 1, 1, 0, 0] [6, 1, 0] ([AV.int IntKind.i64 0, AV.int IntKind.i64 i1, AV.ptr p0], Prod.snd x2)) (contF Try.prog Γ drawn k Try.f23 [1, 1, 1, 0, 0]) := by intros; kernel_rfl

theorem f23_L11100 : ∀ (Γ : Gam) (k : Nat) (σ : Store) (i4 i5 : Int) (p6 : Ptr),
  stepF Try.prog Γ drawn k Try.f23 [1, 1, 1, 0, 0] [6, 1, 0] ([AV.int IntKind.i64 i4, AV.int IntKind.i64 i5, AV.ptr p6], σ) =
    Option.bind p6 fun x7 ↦
      Option.bind (Store.ldPtr σ (Ptr.add (some x7) 6)) fun x8 ↦
        Option.bind (Γ (Fun.fn 41) [AV.ptr x8, AV.int IntKind.i64 i5] σ) fun x9 ↦
          Option.bind (AV.asBool (Prod.fst x9)) fun x10 ↦
            if (!x10) = true then Option.bind (Γ (Fun.fn 24) [AV.ptr p6, AV.int IntKind.i64 i5] (Prod.snd x9)) fun x11 ↦ Option.bind (AV.asInt IntKind.i64 (Prod.fst x11)) fun x12 ↦ some (Sum.inl ([AV.int IntKind.i64 (IntKind.wrap IntKind.i64 (i4 + 1)), AV.int IntKind.i64 x12, AV.ptr p6], Prod.snd x11))
            else some (Sum.inr (AX.exit 0, [(6, AV.int IntKind.i64 i4), (1, AV.int IntKind.i64 i5), (0, AV.ptr p6)], Prod.snd x9)) := by intros; kernel_rfl

theorem f23_X11100_1 : ∀ (Γ : Gam) (k : Nat) (σ : Store) (i13 i14 : Int) (p15 : Ptr),
  contF Try.prog Γ drawn k Try.f23 [1, 1, 1, 0, 0] (AX.exit 0, [(6, AV.int IntKind.i64 i13), (1, AV.int IntKind.i64 i14), (0, AV.ptr p15)], σ) =
    Option.bind p15 fun x16 ↦
      Option.bind (Store.ldPtr σ (Ptr.add (some x16) 7)) fun x17 ↦
        Option.bind p15 fun x18 ↦
          Option.bind (Store.ldPtr σ (Ptr.add (some x18) 6)) fun x19 ↦
            Option.bind (callG Γ true (Fun.fn 43) [AV.ptr x19, AV.int IntKind.i64 i14] σ) fun x20 ↦
              Option.bind (AV.asInt IntKind.i64 (Prod.fst x20)) fun x21 ↦
                Option.bind (callG Γ true (Fun.fn 42) [AV.ptr x17, AV.int IntKind.i64 x21] (Prod.snd x20)) fun x22 ↦
                  Option.bind (AV.asInt IntKind.u64 (Prod.fst x22)) fun x23 ↦ Option.bind p15 fun x24 ↦ Option.bind (Store.ldInt (Prod.snd x22) IntKind.i64 (Ptr.add (some x24) 2)) fun x25 ↦ some (AV.tuple [AV.int IntKind.i64 (IntKind.wrap IntKind.i64 (IntKind.wrap IntKind.i64 (IntKind.wrap IntKind.i64 x23 * x25) + i13)), AV.int IntKind.i64 i13], Prod.snd x22) := by intros; kernel_rfl

theorem f24_eq : ∀ (Γ : Gam) (k : Nat) (σ : Store) (p0 : Ptr) (i1 : Int),
  evBody Try.prog Γ drawn k Try.f24 [AV.ptr p0, AV.int IntKind.i64 i1] σ =
    if decide (i1 < 0) = true then some (AV.int IntKind.i64 (-1), σ)
    else
      Option.bind (Γ (Fun.fn 16) [AV.ptr p0] σ) fun x2 ↦
        Option.bind (AV.asInt IntKind.i64 (Prod.fst x2)) fun x3 ↦
          if decide (x3 ≤ i1) = true then some (AV.int IntKind.i64 (-1), Prod.snd x2)
          else
            Option.bind p0 fun x4 ↦
              Option.bind (Store.ldPtr (Prod.snd x2) (Ptr.add (some x4) 5)) fun x5 ↦
                Option.bind (Γ (Fun.fn 44) [AV.ptr x5, AV.int IntKind.i64 i1] (Prod.snd x2)) fun x6 ↦
                  Option.bind (AV.asInt IntKind.i64 (Prod.fst x6)) fun x7 ↦
                    Option.bind p0 fun x8 ↦
                      Option.bind (Store.ldSl (Prod.snd x6) (Ptr.add (some x8) 4)) fun x9 ↦
                        if 0 ≤ x7 ∧ x7 < (↑(Hdl.len x9) : Int) then
                          Option.bind (Store.ldInt (Prod.snd x6) IntKind.i64 (Hdl.idx x9 x7 1)) fun x10 ↦
                            Option.bind p0 fun x11 ↦ Option.bind (Store.ldPtr (Prod.snd x6) (Ptr.add (some x11) 5)) fun x12 ↦ Option.bind (callG Γ true (Fun.fn 45) [AV.ptr x12, AV.int IntKind.i64 x7, AV.int IntKind.i64 i1] (Prod.snd x6)) fun x13 ↦ Option.bind (AV.asInt IntKind.i64 (Prod.fst x13)) fun x14 ↦ some (AV.int IntKind.i64 (IntKind.wrap IntKind.i64 (x10 + x14)), Prod.snd x13)
                        else none := by intros; kernel_rfl

theorem f25_eq : ∀ (Γ : Gam) (k : Nat) (σ : Store) (p0 : Ptr) (i1 i2 i3 : Int),
  evBody Try.prog Γ drawn k Try.f25 [AV.ptr p0, AV.int IntKind.i64 i1, AV.int IntKind.i64 i2, AV.int IntKind.i64 i3] σ =
    if decide (i3 < 0) = true then some (AV.tuple [AV.int IntKind.i64 0, AV.int IntKind.i64 0], σ)
    else
      if Option.isNone p0 = true then some (AV.tuple [AV.int IntKind.i64 0, AV.int IntKind.i64 0], σ)
      else
        Option.bind p0 fun x4 ↦
          Option.bind (Store.ldInt σ IntKind.i64 (Ptr.add (some x4) 1)) fun x5 ↦
            if decide (x5 ≤ i3) = true then some (AV.tuple [AV.int IntKind.i64 0, AV.int IntKind.i64 0], σ)
            else
              if decide (i1 < 0) = true then some (AV.tuple [AV.int IntKind.i64 0, AV.int IntKind.i64 0], σ)
              else
                if decide (i2 < i1) = true then some (AV.tuple [AV.int IntKind.i64 0, AV.int IntKind.i64 0], σ)
                else
                  Option.bind p0 fun x6 ↦
                    Option.bind (Store.ldInt σ IntKind.i64 (Ptr.add (some x6) 0)) fun x7 ↦
                      if decide (x7 < i2) = true then some (AV.tuple [AV.int IntKind.i64 0, AV.int IntKind.i64 0], σ)
                      else
                        Option.bind p0 fun x8 ↦
                          Option.bind (Store.ldSl σ (Ptr.add (some x8) 4)) fun x9 ↦
                            if 0 ≤ i3 ∧ i3 < (↑(Hdl.len x9) : Int) then
                              Option.bind (Store.ldInt σ IntKind.i64 (Hdl.idx x9 i3 1)) fun x10 ↦
                                Option.bind p0 fun x11 ↦
                                  Option.bind (Store.ldPtr σ (Ptr.add (some x11) 5)) fun x12 ↦
                                    Option.bind (callG Γ true (Fun.fn 45) [AV.ptr x12, AV.int IntKind.i64 i3, AV.int IntKind.i64 i1] σ) fun x13 ↦
                                      Option.bind (AV.asInt IntKind.i64 (Prod.fst x13)) fun x14 ↦
                                        Option.bind p0 fun x15 ↦
                                          Option.bind (Store.ldSl (Prod.snd x13) (Ptr.add (some x15) 4)) fun x16 ↦
                                            if 0 ≤ i3 ∧ i3 < (↑(Hdl.len x16) : Int) then
                                              Option.bind (Store.ldInt (Prod.snd x13) IntKind.i64 (Hdl.idx x16 i3 1)) fun x17 ↦
                                                Option.bind p0 fun x18 ↦
                                                  Option.bind (Store.ldPtr (Prod.snd x13) (Ptr.add (some x18) 5)) fun x19 ↦
                                                    Option.bind (callG Γ true (Fun.fn 45) [AV.ptr x19, AV.int IntKind.i64 i3, AV.int IntKind.i64 i2] (Prod.snd x13)) fun x20 ↦
                                                      Option.bind (AV.asInt IntKind.i64 (Prod.fst x20)) fun x21 ↦
                                                        if decide (IntKind.wrap IntKind.i64 (x10 + x14) = IntKind.wrap IntKind.i64 (x17 + x21)) = true then some (AV.tuple [AV.int IntKind.i64 0, AV.int IntKind.i64 0], Prod.snd x20) else some (AV.tuple [AV.int IntKind.i64 (IntKind.wrap IntKind.i64 (x10 + x14)), AV.int IntKind.i64 (IntKind.wrap IntKind.i64 (x17 + x21))], Prod.snd x20)
                                            else none
                            else none := by intros; kernel_rfl

theorem f26_eq : ∀ (Γ : Gam) (k : Nat) (σ : Store) (h0 h1 : Hdl) (i2 : Int),
  evBody Try.prog Γ drawn k Try.f26 [AV.slice h0, AV.slice h1, AV.int IntKind.i64 i2] σ =
    if decide (IntKind.wrap IntKind.i64 ((↑(Hdl.len h0) : Int) - i2) < (↑(Hdl.len h1) : Int)) = true then some (AV.bool false, σ) else Option.bind (loopF Try.prog Γ drawn k Try.f26 [1, 1, 0, 1, 0] [17, 16, 2, 1, 0] ([AV.int IntKind.i64 0, AV.int IntKind.i64 (↑(Hdl.len h1) : Int), AV.int IntKind.i64 i2, AV.slice h1, AV.slice h0], σ)) (contF Try.prog Γ drawn k Try.f26 [1, 1, 0, 1, 0]) := by intros; kernel_rfl

theorem f26_L11010 : ∀ (Γ : Gam) (k : Nat) (σ : Store) (i3 i4 i5 : Int) (h6 h7 : Hdl),
  stepF Try.prog Γ drawn k Try.f26 [1, 1, 0, 1, 0] [17, 16, 2, 1, 0] ([AV.int IntKind.i64 i3, AV.int IntKind.i64 i4, AV.int IntKind.i64 i5, AV.slice h6, AV.slice h7], σ) =
    if decide (i3 < i4) = true then
      if 0 ≤ IntKind.wrap IntKind.i64 (i5 + i3) ∧ IntKind.wrap IntKind.i64 (i5 + i3) < (↑(Hdl.len h7) : Int) then
        Option.bind (Store.ldInt σ IntKind.i64 (Hdl.idx h7 (IntKind.wrap IntKind.i64 (i5 + i3)) 1)) fun x8 ↦
          if 0 ≤ i3 ∧ i3 < (↑(Hdl.len h6) : Int) then Option.bind (Store.ldInt σ IntKind.i64 (Hdl.idx h6 i3 1)) fun x9 ↦ if decide (x8 ≠ x9) = true then some (Sum.inr (AX.ret, [(6, AV.bool false)], σ)) else some (Sum.inl ([AV.int IntKind.i64 (IntKind.wrap IntKind.i64 (i3 + 1)), AV.int IntKind.i64 i4, AV.int IntKind.i64 i5, AV.slice h6, AV.slice h7], σ)) else none
      else none
    else some (Sum.inr (AX.exit 0, [], σ)) := by intros; kernel_rfl

theorem f26_X11010_1 : ∀ (Γ : Gam) (k : Nat) (σ : Store) (b10 : Bool), contF Try.prog Γ drawn k Try.f26 [1, 1, 0, 1, 0] (AX.ret, [(6, AV.bool b10)], σ) = some (AV.bool b10, σ) := by intros; kernel_rfl

theorem f26_X11010_2 : ∀ (Γ : Gam) (k : Nat) (σ : Store), contF Try.prog Γ drawn k Try.f26 [1, 1, 0, 1, 0] (AX.exit 0, [], σ) = some (AV.bool true, σ) := by intros; kernel_rfl

theorem f27_eq : ∀ (Γ : Gam) (k : Nat) (σ : Store) (h0 : Hdl) (i1 : Int),
  evBody Try.prog Γ drawn k Try.f27 [AV.slice h0, AV.int IntKind.i64 i1] σ =
    Option.bind (Store.ldInt (Store.push σ [AV.int IntKind.i64 i1] 1) IntKind.i64 (some (List.length (Store.objs σ), 0))) fun x2 ↦
      if decide (x2 < 0) = true then some (AV.tuple [AV.slice Hdl.nil, AV.int IntKind.i64 2], Store.push σ [AV.int IntKind.i64 i1] 1)
      else
        Option.bind (Store.ldInt (Store.push σ [AV.int IntKind.i64 i1] 1) IntKind.i64 (some (List.length (Store.objs σ), 0))) fun x3 ↦
          if decide (4194304 < x3) = true then some (AV.tuple [AV.slice Hdl.nil, AV.int IntKind.i64 2], Store.push σ [AV.int IntKind.i64 i1] 1)
          else
            if decide (4194304 < (↑(Hdl.len h0) : Int)) = true then some (AV.tuple [AV.slice Hdl.nil, AV.int IntKind.i64 2], Store.push σ [AV.int IntKind.i64 i1] 1)
            else
              Option.bind (Γ (Fun.fn 46) [AV.slice h0, AV.func 47 [] [AV.ptr (some (List.length (Store.objs σ), 0))]] (Store.push σ [AV.int IntKind.i64 i1] 1)) fun x4 ↦
                Option.bind (AV.asBool (Prod.fst x4)) fun x5 ↦
                  if x5 = true then some (AV.tuple [AV.slice Hdl.nil, AV.int IntKind.i64 2], Prod.snd x4)
                  else Option.bind (Store.ldInt (Prod.snd x4) IntKind.i64 (some (List.length (Store.objs σ), 0))) fun x6 ↦ Option.bind (Γ (Fun.fn 48) [AV.slice h0, AV.int IntKind.i64 x6] (Prod.snd x4)) fun x7 ↦ Option.bind (AV.asSl (Prod.fst x7)) fun x8 ↦ some (AV.tuple [AV.slice x8, AV.int IntKind.i64 0], Prod.snd x7) := by intros; kernel_rfl

theorem f28_eq : ∀ (Γ : Gam) (k : Nat) (σ : Store) (h0 h1 : Hdl),
  evBody Try.prog Γ drawn k Try.f28 [AV.slice h0, AV.slice h1] σ = if decide ((↑(Hdl.len h0) : Int) ≠ (↑(Hdl.len h1) : Int)) = true then some (AV.bool false, σ) else Option.bind (loopF Try.prog Γ drawn k Try.f28 [1, 1, 0, 1, 0] [13, 12, 1, 0] ([AV.int IntKind.i64 0, AV.int IntKind.i64 (↑(Hdl.len h0) : Int), AV.slice h1, AV.slice h0], σ)) (contF Try.prog Γ drawn k Try.f28 [1, 1, 0, 1, 0]) := by intros; kernel_rfl

theorem f28_L11010 : ∀ (Γ : Gam) (k : Nat) (σ : Store) (i2 i3 : Int) (h4 h5 : Hdl),
  stepF Try.prog Γ drawn k Try.f28 [1, 1, 0, 1, 0] [13, 12, 1, 0] ([AV.int IntKind.i64 i2, AV.int IntKind.i64 i3, AV.slice h4, AV.slice h5], σ) =
    if decide (i2 < i3) = true then
      if 0 ≤ i2 ∧ i2 < (↑(Hdl.len h5) : Int) then
        Option.bind (Store.ldInt σ IntKind.i64 (Hdl.idx h5 i2 1)) fun x6 ↦
          if 0 ≤ i2 ∧ i2 < (↑(Hdl.len h4) : Int) then Option.bind (Store.ldInt σ IntKind.i64 (Hdl.idx h4 i2 1)) fun x7 ↦ if decide (x6 ≠ x7) = true then some (Sum.inr (AX.ret, [(4, AV.bool false)], σ)) else some (Sum.inl ([AV.int IntKind.i64 (IntKind.wrap IntKind.i64 (i2 + 1)), AV.int IntKind.i64 i3, AV.slice h4, AV.slice h5], σ)) else none
      else none
    else some (Sum.inr (AX.exit 0, [], σ)) := by intros; kernel_rfl

theorem f28_X11010_1 : ∀ (Γ : Gam) (k : Nat) (σ : Store) (b8 : Bool), contF Try.prog Γ drawn k Try.f28 [1, 1, 0, 1, 0] (AX.ret, [(4, AV.bool b8)], σ) = some (AV.bool b8, σ) := by intros; kernel_rfl

theorem f28_X11010_2 : ∀ (Γ : Gam) (k : Nat) (σ : Store), contF Try.prog Γ drawn k Try.f28 [1, 1, 0, 1, 0] (AX.exit 0, [], σ) = some (AV.bool true, σ) := by intros; kernel_rfl

theorem f29_eq : ∀ (Γ : Gam) (k : Nat) (σ : Store) (h0 : Hdl) (i1 : Int), evBody Try.prog Γ drawn k Try.f29 [AV.slice h0, AV.int IntKind.i64 i1] σ = Option.bind (loopF Try.prog Γ drawn k Try.f29 [1, 0, 1, 0] [8, 7, 1, 0] ([AV.int IntKind.i64 0, AV.int IntKind.i64 (↑(Hdl.len h0) : Int), AV.int IntKind.i64 i1, AV.slice h0], σ)) (contF Try.prog Γ drawn k Try.f29 [1, 0, 1, 0]) := by intros; kernel_rfl

theorem f29_L1010 : ∀ (Γ : Gam) (k : Nat) (σ : Store) (i2 i3 i4 : Int) (h5 : Hdl),
  stepF Try.prog Γ drawn k Try.f29 [1, 0, 1, 0] [8, 7, 1, 0] ([AV.int IntKind.i64 i2, AV.int IntKind.i64 i3, AV.int IntKind.i64 i4, AV.slice h5], σ) =
    if decide (i2 < i3) = true then if 0 ≤ i2 ∧ i2 < (↑(Hdl.len h5) : Int) then Option.bind (Store.ldInt σ IntKind.i64 (Hdl.idx h5 i2 1)) fun x6 ↦ if decide (i4 = x6) = true then some (Sum.inr (AX.ret, [(4, AV.int IntKind.i64 i2)], σ)) else some (Sum.inl ([AV.int IntKind.i64 (IntKind.wrap IntKind.i64 (i2 + 1)), AV.int IntKind.i64 i3, AV.int IntKind.i64 i4, AV.slice h5], σ)) else none
    else some (Sum.inr (AX.exit 0, [], σ)) := by intros; kernel_rfl

theorem f29_X1010_1 : ∀ (Γ : Gam) (k : Nat) (σ : Store) (i7 : Int), contF Try.prog Γ drawn k Try.f29 [1, 0, 1, 0] (AX.ret, [(4, AV.int IntKind.i64 i7)], σ) = some (AV.int IntKind.i64 i7, σ) := by intros; kernel_rfl

theorem f29_X1010_2 : ∀ (Γ : Gam) (k : Nat) (σ : Store), contF Try.prog Γ drawn k Try.f29 [1, 0, 1, 0] (AX.exit 0, [], σ) = some (AV.int IntKind.i64 (-1), σ) := by intros; kernel_rfl

theorem f30_eq : ∀ (Γ : Gam) (k : Nat) (σ : Store) (h0 h1 : Hdl),
  evBody Try.prog Γ drawn k Try.f30 [AV.slice h0, AV.slice h1] σ =
    Option.bind (Γ (Fun.fn (49 : Nat)) [AV.slice h1] σ) fun x2 ↦
      Option.bind (AV.item (nat_lit 0) (2 : Nat) (Prod.fst x2)) fun x3 ↦
        Option.bind (AV.asSl x3) fun x4 ↦
          Option.bind (AV.item (nat_lit 1) (2 : Nat) (Prod.fst x2)) fun x5 ↦
            Option.bind (AV.asInt IntKind.i64 x5) fun x6 ↦
              if decide (x6 ≠ (0 : Int)) = true then some (AV.tuple [AV.slice Hdl.nil, AV.int IntKind.i64 (2 : Int)], Prod.snd x2)
              else
                if decide ((↑(Hdl.len h1) : Int) ≠ (↑(Hdl.len h0) : Int)) = true then some (AV.tuple [AV.slice Hdl.nil, AV.int IntKind.i64 (2 : Int)], Prod.snd x2)
                else
                  if ((0 : Int) ≤ (↑(Hdl.len h0) : Int) ∧ (↑(Hdl.len h0) : Int) ≤ (↑(Hdl.len h0) : Int)) ∧ (↑(Hdl.len h0) : Int) * (↑(8 : Nat) : Int) ≤ (281474976710656 : Int) then
                    Option.bind
                      (loopF Try.prog Γ drawn k Try.f30 [(1 : Nat), (1 : Nat), (1 : Nat), (0 : Nat), (1 : Nat), (0 : Nat)] [(30 : Nat), (29 : Nat), (28 : Nat), (8 : Nat), (0 : Nat)]
                        ([AV.int IntKind.i64 (0 : Int), AV.int IntKind.i64 (↑(Hdl.len h1) : Int), AV.slice h1, AV.slice { a := some (List.length (Store.objs (Prod.snd x2)), (0 : Nat)), len := Int.toNat (↑(Hdl.len h0) : Int), cap := some (Int.toNat (↑(Hdl.len h0) : Int)) }, AV.slice h0], Store.push (Prod.snd x2) (mkCells [AV.int IntKind.i64 (0 : Int)] (Int.toNat (↑(Hdl.len h0) : Int))) (1 : Nat)))
                      (contF Try.prog Γ drawn k Try.f30 [(1 : Nat), (1 : Nat), (1 : Nat), (0 : Nat), (1 : Nat), (0 : Nat)])
                  else none := by intros; kernel_rfl

theorem f30_L111010 : ∀ (Γ : Gam) (k : Nat) (σ : Store) (i7 i8 : Int) (h9 h10 h11 : Hdl),
  stepF Try.prog Γ drawn k Try.f30 [1, 1, 1, 0, 1, 0] [30, 29, 28, 8, 0] ([AV.int IntKind.i64 i7, AV.int IntKind.i64 i8, AV.slice h9, AV.slice h10, AV.slice h11], σ) =
    if decide (i7 < i8) = true then
      if 0 ≤ i7 ∧ i7 < (↑(Hdl.len h9) : Int) then
        Option.bind (Store.ldInt σ IntKind.i64 (Hdl.idx h9 i7 1)) fun x12 ↦
          if (↑(Hdl.len h11) : Int) = 0 then none
          else
            if 0 ≤ Int.tmod (IntKind.wrap IntKind.i64 (IntKind.wrap IntKind.i64 (x12 + (↑(Hdl.len h11) : Int)) - 1)) (↑(Hdl.len h11) : Int) ∧ Int.tmod (IntKind.wrap IntKind.i64 (IntKind.wrap IntKind.i64 (x12 + (↑(Hdl.len h11) : Int)) - 1)) (↑(Hdl.len h11) : Int) < (↑(Hdl.len h11) : Int) then
              Option.bind (Store.ldInt σ IntKind.i64 (Hdl.idx h11 (Int.tmod (IntKind.wrap IntKind.i64 (IntKind.wrap IntKind.i64 (x12 + (↑(Hdl.len h11) : Int)) - 1)) (↑(Hdl.len h11) : Int)) 1)) fun x13 ↦
                if 0 ≤ i7 ∧ i7 < (↑(Hdl.len h10) : Int) then Option.bind (Store.stL σ (Hdl.idx h10 i7 1) [AV.int IntKind.i64 x13] 0) fun x14 ↦ some (Sum.inl ([AV.int IntKind.i64 (IntKind.wrap IntKind.i64 (i7 + 1)), AV.int IntKind.i64 i8, AV.slice h9, AV.slice h10, AV.slice h11], x14)) else none
            else none
      else none
    else some (Sum.inr (AX.exit 0, [(8, AV.slice h10)], σ)) := by intros; kernel_rfl

theorem f30_X111010_1 : ∀ (Γ : Gam) (k : Nat) (σ : Store) (h15 : Hdl), contF Try.prog Γ drawn k Try.f30 [1, 1, 1, 0, 1, 0] (AX.exit 0, [(8, AV.slice h15)], σ) = some (AV.tuple [AV.slice h15, AV.int IntKind.i64 0], σ) := by intros; kernel_rfl

theorem f31_eq : ∀ (Γ : Gam) (k : Nat) (σ : Store) (h0 : Hdl) (i1 : Int),
  evBody Try.prog Γ drawn k Try.f31 [AV.slice h0, AV.int IntKind.i64 i1] σ =
    Option.bind (Store.ldInt (Store.push σ [AV.int IntKind.i64 i1] (1 : Nat)) IntKind.i64 (some (List.length (Store.objs σ), (0 : Nat)))) fun x2 ↦
      if decide (x2 < (0 : Int)) = true then some (AV.tuple [AV.slice Hdl.nil, AV.int IntKind.i64 (2 : Int)], Store.push σ [AV.int IntKind.i64 i1] (1 : Nat))
      else
        Option.bind (Store.ldInt (Store.push σ [AV.int IntKind.i64 i1] (1 : Nat)) IntKind.i64 (some (List.length (Store.objs σ), (0 : Nat)))) fun x3 ↦
          if decide ((4194304 : Int) < x3) = true then some (AV.tuple [AV.slice Hdl.nil, AV.int IntKind.i64 (2 : Int)], Store.push σ [AV.int IntKind.i64 i1] (1 : Nat))
          else
            Option.bind (Γ (Fun.fn (46 : Nat)) [AV.slice h0, AV.func (50 : Nat) [] [AV.ptr (some (List.length (Store.objs σ), (0 : Nat)))]] (Store.push σ [AV.int IntKind.i64 i1] (1 : Nat))) fun x4 ↦
              Option.bind (AV.asBool (Prod.fst x4)) fun x5 ↦
                if x5 = true then some (AV.tuple [AV.slice Hdl.nil, AV.int IntKind.i64 (2 : Int)], Prod.snd x4)
                else
                  Option.bind (Store.ldInt (Prod.snd x4) IntKind.i64 (some (List.length (Store.objs σ), (0 : Nat)))) fun x6 ↦
                    if ((0 : Int) ≤ IntKind.wrap IntKind.i64 (x6 + (1 : Int)) ∧ IntKind.wrap IntKind.i64 (x6 + (1 : Int)) ≤ IntKind.wrap IntKind.i64 (x6 + (1 : Int))) ∧ IntKind.wrap IntKind.i64 (x6 + (1 : Int)) * (↑(8 : Nat) : Int) ≤ (281474976710656 : Int) then
                      Option.bind
                        (loopF Try.prog Γ drawn k Try.f31 [(1 : Nat), (1 : Nat), (1 : Nat), (0 : Nat), (1 : Nat), (0 : Nat)] [(26 : Nat), (25 : Nat), (24 : Nat), (6 : Nat), (3 : Nat)]
                          ([AV.int IntKind.i64 (0 : Int), AV.int IntKind.i64 (↑(Hdl.len h0) : Int), AV.slice h0, AV.slice { a := some (List.length (Store.objs (Prod.snd x4)), (0 : Nat)), len := Int.toNat (IntKind.wrap IntKind.i64 (x6 + (1 : Int))), cap := some (Int.toNat (IntKind.wrap IntKind.i64 (x6 + (1 : Int)))) }, AV.ptr (some (List.length (Store.objs σ), (0 : Nat)))],
                            Store.push (Prod.snd x4) (mkCells [AV.int IntKind.i64 (0 : Int)] (Int.toNat (IntKind.wrap IntKind.i64 (x6 + (1 : Int))))) (1 : Nat)))
                        (contF Try.prog Γ drawn k Try.f31 [(1 : Nat), (1 : Nat), (1 : Nat), (0 : Nat), (1 : Nat), (0 : Nat)])
                    else none := by intros; kernel_rfl

theorem f31_L111010 : ∀ (Γ : Gam) (k : Nat) (σ : Store) (i7 i8 : Int) (h9 h10 : Hdl) (p11 : Ptr),
  stepF Try.prog Γ drawn k Try.f31 [1, 1, 1, 0, 1, 0] [26, 25, 24, 6, 3] ([AV.int IntKind.i64 i7, AV.int IntKind.i64 i8, AV.slice h9, AV.slice h10, AV.ptr p11], σ) =
    if decide (i7 < i8) = true then
      if 0 ≤ i7 ∧ i7 < (↑(Hdl.len h9) : Int) then
        Option.bind (Store.ldInt σ IntKind.i64 (Hdl.idx h9 i7 1)) fun x12 ↦
          if 0 ≤ IntKind.wrap IntKind.i64 (x12 + 1) ∧ IntKind.wrap IntKind.i64 (x12 + 1) < (↑(Hdl.len h10) : Int) then
            Option.bind (Store.ldInt σ IntKind.i64 (Hdl.idx h10 (IntKind.wrap IntKind.i64 (x12 + 1)) 1)) fun x13 ↦
              if 0 ≤ IntKind.wrap IntKind.i64 (x12 + 1) ∧ IntKind.wrap IntKind.i64 (x12 + 1) < (↑(Hdl.len h10) : Int) then
                Option.bind (Store.stL σ (Hdl.idx h10 (IntKind.wrap IntKind.i64 (x12 + 1)) 1) [AV.int IntKind.i64 (IntKind.wrap IntKind.i64 (x13 + 1))] 0) fun x14 ↦ some (Sum.inl ([AV.int IntKind.i64 (IntKind.wrap IntKind.i64 (i7 + 1)), AV.int IntKind.i64 i8, AV.slice h9, AV.slice h10, AV.ptr p11], x14))
              else none
          else none
      else none
    else some (Sum.inr (AX.exit 0, [(6, AV.slice h10), (3, AV.ptr p11)], σ)) := by intros; kernel_rfl

theorem f31_X111010_1 : ∀ (Γ : Gam) (k : Nat) (σ : Store) (h15 : Hdl) (p16 : Ptr),
  contF Try.prog Γ drawn k Try.f31 [1, 1, 1, 0, 1, 0] (AX.exit 0, [(6, AV.slice h15), (3, AV.ptr p16)], σ) = Option.bind (Store.ldInt σ IntKind.i64 p16) fun x17 ↦ Option.bind (loopF Try.prog Γ drawn k Try.f31 [1, 1, 1, 1, 0, 1, 0] [39, 38, 6] ([AV.int IntKind.i64 0, AV.int IntKind.i64 x17, AV.slice h15], σ)) (contF Try.prog Γ drawn k Try.f31 [1, 1, 1, 1, 0, 1, 0]) := by intros; kernel_rfl

theorem f31_L1111010 : ∀ (Γ : Gam) (k : Nat) (σ : Store) (i18 i19 : Int) (h20 : Hdl),
  stepF Try.prog Γ drawn k Try.f31 [1, 1, 1, 1, 0, 1, 0] [39, 38, 6] ([AV.int IntKind.i64 i18, AV.int IntKind.i64 i19, AV.slice h20], σ) =
    if decide (i18 < i19) = true then
      if 0 ≤ IntKind.wrap IntKind.i64 (i18 + 1) ∧ IntKind.wrap IntKind.i64 (i18 + 1) < (↑(Hdl.len h20) : Int) then
        Option.bind (Store.ldInt σ IntKind.i64 (Hdl.idx h20 (IntKind.wrap IntKind.i64 (i18 + 1)) 1)) fun x21 ↦
          if 0 ≤ i18 ∧ i18 < (↑(Hdl.len h20) : Int) then
            Option.bind (Store.ldInt σ IntKind.i64 (Hdl.idx h20 i18 1)) fun x22 ↦
              if 0 ≤ IntKind.wrap IntKind.i64 (i18 + 1) ∧ IntKind.wrap IntKind.i64 (i18 + 1) < (↑(Hdl.len h20) : Int) then Option.bind (Store.stL σ (Hdl.idx h20 (IntKind.wrap IntKind.i64 (i18 + 1)) 1) [AV.int IntKind.i64 (IntKind.wrap IntKind.i64 (x21 + x22))] 0) fun x23 ↦ some (Sum.inl ([AV.int IntKind.i64 (IntKind.wrap IntKind.i64 (i18 + 1)), AV.int IntKind.i64 i19, AV.slice h20], x23))
              else none
          else none
      else none
    else some (Sum.inr (AX.exit 2, [(6, AV.slice h20)], σ)) := by intros; kernel_rfl

theorem f31_X1111010_1 : ∀ (Γ : Gam) (k : Nat) (σ : Store) (h24 : Hdl), contF Try.prog Γ drawn k Try.f31 [1, 1, 1, 1, 0, 1, 0] (AX.exit 2, [(6, AV.slice h24)], σ) = some (AV.tuple [AV.slice h24, AV.int IntKind.i64 0], σ) := by intros; kernel_rfl

theorem f32_eq : ∀ (Γ : Gam) (k : Nat) (σ : Store) (h0 : Hdl) (i1 : Int),
  evBody Try.prog Γ drawn k Try.f32 [AV.slice h0, AV.int IntKind.i64 i1] σ =
    Option.bind (Store.ldInt (Store.push σ [AV.int IntKind.i64 i1] 1) IntKind.i64 (some (List.length (Store.objs σ), 0))) fun x2 ↦
      if decide (x2 < 0) = true then some (AV.tuple [AV.ptr none, AV.int IntKind.i64 2], Store.push σ [AV.int IntKind.i64 i1] 1)
      else
        Option.bind (Store.ldInt (Store.push σ [AV.int IntKind.i64 i1] 1) IntKind.i64 (some (List.length (Store.objs σ), 0))) fun x3 ↦
          if decide (4194304 ≤ x3) = true then some (AV.tuple [AV.ptr none, AV.int IntKind.i64 2], Store.push σ [AV.int IntKind.i64 i1] 1)
          else
            if decide (4194304 < (↑(Hdl.len h0) : Int)) = true then some (AV.tuple [AV.ptr none, AV.int IntKind.i64 2], Store.push σ [AV.int IntKind.i64 i1] 1)
            else
              Option.bind (Γ (Fun.fn 46) [AV.slice h0, AV.func 51 [] [AV.ptr (some (List.length (Store.objs σ), 0))]] (Store.push σ [AV.int IntKind.i64 i1] 1)) fun x4 ↦
                Option.bind (AV.asBool (Prod.fst x4)) fun x5 ↦
                  if x5 = true then some (AV.tuple [AV.ptr none, AV.int IntKind.i64 2], Prod.snd x4)
                  else
                    Option.bind (Store.ldInt (Prod.snd x4) IntKind.i64 (some (List.length (Store.objs σ), 0))) fun x6 ↦
                      Option.bind (Γ (Fun.fn 34) [AV.int IntKind.u64 (IntKind.wrap IntKind.u64 x6)] (Prod.snd x4)) fun x7 ↦
                        Option.bind (AV.asInt IntKind.i64 (Prod.fst x7)) fun x8 ↦
                          Option.bind (Γ (Fun.fn 52) [AV.slice h0] (Store.push (Prod.snd x7) [AV.int IntKind.i64 (↑(Hdl.len h0) : Int), AV.int IntKind.i64 x8, AV.slice Hdl.nil] 3)) fun x9 ↦
                            Option.bind (AV.asSl (Prod.fst x9)) fun x10 ↦
                              Option.bind (Store.ldInt (Prod.snd x9) IntKind.i64 (Ptr.add (some (List.length (Store.objs (Prod.snd x7)), 0)) 1)) fun x11 ↦
                                Option.bind (loopF Try.prog Γ drawn k Try.f32 [1, 1, 1, 1, 0, 1, 0] [8, 7, 6] ([AV.int IntKind.i64 (IntKind.wrap IntKind.i64 (x11 - 1)), AV.slice x10, AV.ptr (some (List.length (Store.objs (Prod.snd x7)), 0))], Prod.snd x9)) (contF Try.prog Γ drawn k Try.f32 [1, 1, 1, 1, 0, 1, 0]) := by intros; kernel_rfl

theorem f32_L1111010 : ∀ (Γ : Gam) (k : Nat) (σ : Store) (i12 : Int) (h13 : Hdl) (p14 : Ptr),
  stepF Try.prog Γ drawn k Try.f32 [1, 1, 1, 1, 0, 1, 0] [8, 7, 6] ([AV.int IntKind.i64 i12, AV.slice h13, AV.ptr p14], σ) =
    if decide (0 ≤ i12) = true then
      Option.bind p14 fun x15 ↦
        Option.bind (Store.ldInt σ IntKind.i64 (Ptr.add (some x15) 0)) fun x16 ↦
          Option.bind (Γ (Fun.fn 33) [AV.int IntKind.i64 1, AV.int IntKind.i64 x16] σ) fun x17 ↦
            Option.bind (AV.item 0 2 (Prod.fst x17)) fun x18 ↦
              Option.bind (AV.asPtr x18) fun x19 ↦
                Option.bind (AV.item 1 2 (Prod.fst x17)) fun x20 ↦
                  Option.bind (AV.asInt IntKind.i64 x20) fun x21 ↦
                    Option.bind (loopF Try.prog Γ drawn k Try.f32 [1, 1, 1, 1, 0, 1, 0, 0, 1, 0, 0, 1, 1, 0, 1, 0] [61, 60, 59, 12, 11, 9, 8, 6] ([AV.int IntKind.i64 0, AV.int IntKind.i64 (↑(Hdl.len h13) : Int), AV.slice h13, AV.slice Hdl.nil, AV.slice Hdl.nil, AV.ptr x19, AV.int IntKind.i64 i12, AV.ptr p14], Prod.snd x17))
                      (contFL Try.prog Γ drawn k Try.f32 [1, 1, 1, 1, 0, 1, 0] [8, 7, 6] [1, 0, 0, 1, 1, 0, 1, 0])
    else some (Sum.inr (AX.exit 0, [(6, AV.ptr p14)], σ)) := by intros; kernel_rfl

theorem f32_X1111010_1 : ∀ (Γ : Gam) (k : Nat) (σ : Store) (p22 : Ptr), contF Try.prog Γ drawn k Try.f32 [1, 1, 1, 1, 0, 1, 0] (AX.exit 0, [(6, AV.ptr p22)], σ) = some (AV.tuple [AV.ptr p22, AV.int IntKind.i64 0], σ) := by intros; kernel_rfl

theorem f32_L1111010010011010 : ∀ (Γ : Gam) (k : Nat) (σ : Store) (i23 i24 : Int) (h25 h26 h27 : Hdl) (p28 : Ptr) (i29 : Int) (p30 : Ptr),
  stepF Try.prog Γ drawn k Try.f32 [1, 1, 1, 1, 0, 1, 0, 0, 1, 0, 0, 1, 1, 0, 1, 0] [61, 60, 59, 12, 11, 9, 8, 6] ([AV.int IntKind.i64 i23, AV.int IntKind.i64 i24, AV.slice h25, AV.slice h26, AV.slice h27, AV.ptr p28, AV.int IntKind.i64 i29, AV.ptr p30], σ) =
    if decide (i23 < i24) = true then
      if 0 ≤ i23 ∧ i23 < (↑(Hdl.len h25) : Int) then
        Option.bind (Store.ldInt σ IntKind.i64 (Hdl.idx h25 i23 1)) fun x31 ↦
          if 0 ≤ i29 then
            if decide (bitOp BinOp.and IntKind.i64 (shrI IntKind.i64 x31 i29) 1 = 1) = true then
              Option.bind (Γ (Fun.fn 35) [AV.ptr p28, AV.int IntKind.i64 i23, AV.int IntKind.u64 1] σ) fun x32 ↦
                Option.bind (AV.asBool (Prod.fst x32)) fun x33 ↦
                  Option.bind (Store.readSl (Store.push (Prod.snd x32) [AV.int IntKind.i64 x31] 1) { a := some (List.length (Store.objs (Prod.snd x32)), 0), len := 1, cap := some 1 } 1) fun x34 ↦
                    Option.bind (Store.app (Store.push (Prod.snd x32) [AV.int IntKind.i64 x31] 1) h26 1 8 x34 1) fun x35 ↦ some (Sum.inl ([AV.int IntKind.i64 (IntKind.wrap IntKind.i64 (i23 + 1)), AV.int IntKind.i64 i24, AV.slice h25, AV.slice (Prod.fst x35), AV.slice h27, AV.ptr p28, AV.int IntKind.i64 i29, AV.ptr p30], Prod.snd x35))
            else
              Option.bind (Store.readSl (Store.push σ [AV.int IntKind.i64 x31] 1) { a := some (List.length (Store.objs σ), 0), len := 1, cap := some 1 } 1) fun x36 ↦
                Option.bind (Store.app (Store.push σ [AV.int IntKind.i64 x31] 1) h27 1 8 x36 1) fun x37 ↦ some (Sum.inl ([AV.int IntKind.i64 (IntKind.wrap IntKind.i64 (i23 + 1)), AV.int IntKind.i64 i24, AV.slice h25, AV.slice h26, AV.slice (Prod.fst x37), AV.ptr p28, AV.int IntKind.i64 i29, AV.ptr p30], Prod.snd x37))
          else none
      else none
    else some (Sum.inr (AX.exit 2, [(12, AV.slice h26), (11, AV.slice h27), (9, AV.ptr p28), (8, AV.int IntKind.i64 i29), (6, AV.ptr p30)], σ)) := by intros; kernel_rfl

theorem f32_X1111010010011010_1 : ∀ (Γ : Gam) (k : Nat) (σ : Store) (h38 h39 : Hdl) (p40 : Ptr) (i41 : Int) (p42 : Ptr),
  contFL Try.prog Γ drawn k Try.f32 [1, 1, 1, 1, 0, 1, 0] [8, 7, 6] [1, 0, 0, 1, 1, 0, 1, 0] (AX.exit 2, [(12, AV.slice h38), (11, AV.slice h39), (9, AV.ptr p40), (8, AV.int IntKind.i64 i41), (6, AV.ptr p42)], σ) =
    Option.bind (Γ (Fun.fn 36) [AV.ptr p40] σ) fun x43 ↦
      Option.bind (AV.item 0 2 (Prod.fst x43)) fun x44 ↦
        Option.bind (AV.asPtr x44) fun x45 ↦
          Option.bind (AV.item 1 2 (Prod.fst x43)) fun x46 ↦
            Option.bind (AV.asInt IntKind.i64 x46) fun x47 ↦
              Option.bind p42 fun x48 ↦
                Option.bind (Store.ldSl (Prod.snd x43) (Ptr.add (some x48) 2)) fun x49 ↦
                  Option.bind (Store.readSl (Store.push (Prod.snd x43) [AV.ptr x45] 1) { a := some (List.length (Store.objs (Prod.snd x43)), 0), len := 1, cap := some 1 } 1) fun x50 ↦
                    Option.bind (Store.app (Store.push (Prod.snd x43) [AV.ptr x45] 1) x49 1 8 x50 1) fun x51 ↦
                      Option.bind p42 fun x52 ↦ Option.bind (Store.stL (Prod.snd x51) (Ptr.add (some x52) 2) [AV.slice (Prod.fst x51)] 0) fun x53 ↦ Option.bind (Store.readSl x53 h38 1) fun x54 ↦ Option.bind (Store.app x53 h39 1 8 x54 (Hdl.len h38)) fun x55 ↦ some (Sum.inl ([AV.int IntKind.i64 (IntKind.wrap IntKind.i64 (i41 - 1)), AV.slice (Prod.fst x55), AV.ptr p42], Prod.snd x55)) := by intros; kernel_rfl

theorem f33_eq : ∀ (Γ : Gam) (k : Nat) (σ : Store) (i0 i1 : Int),
  evBody Try.prog Γ drawn k Try.f33 [AV.int IntKind.i64 i0, AV.int IntKind.i64 i1] σ =
    if decide (i0 < (1 : Int)) = true then some (AV.tuple [AV.ptr none, AV.int IntKind.i64 (2 : Int)], σ)
    else
      if decide ((64 : Int) < i0) = true then some (AV.tuple [AV.ptr none, AV.int IntKind.i64 (2 : Int)], σ)
      else
        if decide (i1 < (0 : Int)) = true then some (AV.tuple [AV.ptr none, AV.int IntKind.i64 (2 : Int)], σ)
        else
          if decide ((4194304 : Int) < i1) = true then some (AV.tuple [AV.ptr none, AV.int IntKind.i64 (2 : Int)], σ)
          else
            Option.bind (Γ (Fun.fn (53 : Nat)) [AV.int IntKind.i64 i0, AV.int IntKind.i64 i1] σ) fun x2 ↦
              Option.bind (AV.asInt IntKind.i64 (Prod.fst x2)) fun x3 ↦
                if ((0 : Int) ≤ x3 ∧ x3 ≤ x3) ∧ x3 * (↑(8 : Nat) : Int) ≤ (281474976710656 : Int) then
                  some
                    (AV.tuple [AV.ptr (some (List.length (Store.objs (Store.push (Prod.snd x2) (mkCells [AV.int IntKind.u64 (0 : Int)] (Int.toNat x3)) (1 : Nat))), (0 : Nat))), AV.int IntKind.i64 (0 : Int)],
                      Store.push (Store.push (Prod.snd x2) (mkCells [AV.int IntKind.u64 (0 : Int)] (Int.toNat x3)) (1 : Nat)) [AV.int IntKind.i64 i0, AV.int IntKind.i64 i1, AV.slice { a := some (List.length (Store.objs (Prod.snd x2)), (0 : Nat)), len := Int.toNat x3, cap := some (Int.toNat x3) }] (3 : Nat))
                else none := by intros; kernel_rfl

theorem f34_eq : ∀ (Γ : Gam) (k : Nat) (σ : Store) (i0 : Int), evBody Try.prog Γ drawn k Try.f34 [AV.int IntKind.u64 i0] σ = Option.bind (Γ (Fun.fn 54) [AV.int IntKind.u64 i0] σ) fun x1 ↦ Option.bind (AV.asInt IntKind.i64 (Prod.fst x1)) fun x2 ↦ some (AV.int IntKind.i64 (mx2 (Int.ofNat 1) x2), Prod.snd x1) := by intros; kernel_rfl

theorem f35_eq : ∀ (Γ : Gam) (k : Nat) (σ : Store) (p0 : Ptr) (i1 i2 : Int),
  evBody Try.prog Γ drawn k Try.f35 [AV.ptr p0, AV.int IntKind.i64 i1, AV.int IntKind.u64 i2] σ =
    if Option.isNone p0 = true then some (AV.bool false, σ)
    else
      if decide (i1 < 0) = true then some (AV.bool false, σ)
      else
        Option.bind p0 fun x3 ↦
          Option.bind (Store.ldInt σ IntKind.i64 (Ptr.add (some x3) 1)) fun x4 ↦
            if decide (x4 ≤ i1) = true then some (AV.bool false, σ)
            else
              Option.bind p0 fun x5 ↦
                Option.bind (Store.ldInt σ IntKind.i64 (Ptr.add (some x5) 0)) fun x6 ↦
                  Option.bind (Γ (Fun.fn 55) [AV.int IntKind.i64 x6] σ) fun x7 ↦
                    Option.bind (AV.asInt IntKind.u64 (Prod.fst x7)) fun x8 ↦
                      if decide (x8 < i2) = true then some (AV.bool false, Prod.snd x7)
                      else
                        Option.bind p0 fun x9 ↦
                          Option.bind (Store.ldInt (Prod.snd x7) IntKind.i64 (Ptr.add (some x9) 0)) fun x10 ↦
                            Option.bind p0 fun x11 ↦
                              Option.bind (Store.ldInt (Prod.snd x7) IntKind.i64 (Ptr.add (some x11) 0)) fun x12 ↦
                                Option.bind (Γ (Fun.fn 55) [AV.int IntKind.i64 x12] (Prod.snd x7)) fun x13 ↦
                                  Option.bind (AV.asInt IntKind.u64 (Prod.fst x13)) fun x14 ↦
                                    Option.bind p0 fun x15 ↦
                                      Option.bind (Store.ldSl (Prod.snd x13) (Ptr.add (some x15) 2)) fun x16 ↦
                                        Option.bind p0 fun x17 ↦
                                          Option.bind (Store.ldSl (Prod.snd x13) (Ptr.add (some x17) 2)) fun x18 ↦
                                            if 0 ≤ IntKind.wrap IntKind.i64 (Int.tdiv (IntKind.wrap IntKind.i64 (i1 * x10)) 64) ∧ IntKind.wrap IntKind.i64 (Int.tdiv (IntKind.wrap IntKind.i64 (i1 * x10)) 64) < (↑(Hdl.len x18) : Int) then
                                              Option.bind (Store.ldInt (Prod.snd x13) IntKind.u64 (Hdl.idx x18 (IntKind.wrap IntKind.i64 (Int.tdiv (IntKind.wrap IntKind.i64 (i1 * x10)) 64)) 1)) fun x19 ↦
                                                if 0 ≤ Int.tmod (IntKind.wrap IntKind.i64 (i1 * x10)) 64 then
                                                  if 0 ≤ Int.tmod (IntKind.wrap IntKind.i64 (i1 * x10)) 64 then
                                                    if 0 ≤ IntKind.wrap IntKind.i64 (Int.tdiv (IntKind.wrap IntKind.i64 (i1 * x10)) 64) ∧ IntKind.wrap IntKind.i64 (Int.tdiv (IntKind.wrap IntKind.i64 (i1 * x10)) 64) < (↑(Hdl.len x16) : Int) then
                                                      Option.bind
                                                        (Store.stL (Prod.snd x13) (Hdl.idx x16 (IntKind.wrap IntKind.i64 (Int.tdiv (IntKind.wrap IntKind.i64 (i1 * x10)) 64)) 1)
                                                          [AV.int IntKind.u64 (bitOp BinOp.or IntKind.u64 (bitOp BinOp.andNot IntKind.u64 x19 (shlI IntKind.u64 x14 (Int.tmod (IntKind.wrap IntKind.i64 (i1 * x10)) 64))) (shlI IntKind.u64 i2 (Int.tmod (IntKind.wrap IntKind.i64 (i1 * x10)) 64)))] 0)
                                                        fun x20 ↦
                                                        Option.bind p0 fun x21 ↦
                                                          Option.bind (Store.ldInt x20 IntKind.i64 (Ptr.add (some x21) 0)) fun x22 ↦
                                                            if decide (64 < IntKind.wrap IntKind.i64 (Int.tmod (IntKind.wrap IntKind.i64 (i1 * x10)) 64 + x22)) = true then
                                                              Option.bind p0 fun x23 ↦
                                                                Option.bind (Store.ldSl x20 (Ptr.add (some x23) 2)) fun x24 ↦
                                                                  Option.bind p0 fun x25 ↦
                                                                    Option.bind (Store.ldSl x20 (Ptr.add (some x25) 2)) fun x26 ↦
                                                                      if 0 ≤ IntKind.wrap IntKind.i64 (IntKind.wrap IntKind.i64 (Int.tdiv (IntKind.wrap IntKind.i64 (i1 * x10)) 64) + 1) ∧ IntKind.wrap IntKind.i64 (IntKind.wrap IntKind.i64 (Int.tdiv (IntKind.wrap IntKind.i64 (i1 * x10)) 64) + 1) < (↑(Hdl.len x26) : Int) then
                                                                        Option.bind (Store.ldInt x20 IntKind.u64 (Hdl.idx x26 (IntKind.wrap IntKind.i64 (IntKind.wrap IntKind.i64 (Int.tdiv (IntKind.wrap IntKind.i64 (i1 * x10)) 64) + 1)) 1)) fun x27 ↦
                                                                          if 0 ≤ IntKind.wrap IntKind.i64 (64 - Int.tmod (IntKind.wrap IntKind.i64 (i1 * x10)) 64) then
                                                                            if 0 ≤ IntKind.wrap IntKind.i64 (64 - Int.tmod (IntKind.wrap IntKind.i64 (i1 * x10)) 64) then
                                                                              if 0 ≤ IntKind.wrap IntKind.i64 (IntKind.wrap IntKind.i64 (Int.tdiv (IntKind.wrap IntKind.i64 (i1 * x10)) 64) + 1) ∧ IntKind.wrap IntKind.i64 (IntKind.wrap IntKind.i64 (Int.tdiv (IntKind.wrap IntKind.i64 (i1 * x10)) 64) + 1) < (↑(Hdl.len x24) : Int) then
                                                                                Option.bind
                                                                                  (Store.stL x20 (Hdl.idx x24 (IntKind.wrap IntKind.i64 (IntKind.wrap IntKind.i64 (Int.tdiv (IntKind.wrap IntKind.i64 (i1 * x10)) 64) + 1)) 1)
                                                                                    [AV.int IntKind.u64 (bitOp BinOp.or IntKind.u64 (bitOp BinOp.andNot IntKind.u64 x27 (shrI IntKind.u64 x14 (IntKind.wrap IntKind.i64 (64 - Int.tmod (IntKind.wrap IntKind.i64 (i1 * x10)) 64)))) (shrI IntKind.u64 i2 (IntKind.wrap IntKind.i64 (64 - Int.tmod (IntKind.wrap IntKind.i64 (i1 * x10)) 64))))] 0)
                                                                                  fun x28 ↦ some (AV.bool true, x28)
                                                                              else none
                                                                            else none
                                                                          else none
                                                                      else none
                                                            else some (AV.bool true, x20)
                                                    else none
                                                  else none
                                                else none
                                            else none := by intros; kernel_rfl

theorem f36_eq : ∀ (Γ : Gam) (k : Nat) (σ : Store) (p0 : Ptr),
  evBody Try.prog Γ drawn k Try.f36 [AV.ptr p0] σ =
    if Option.isNone p0 = true then some (AV.tuple [AV.ptr none, AV.int IntKind.i64 1], σ)
    else
      Option.bind (Γ (Fun.fn 56) [AV.ptr p0] σ) fun x1 ↦
        Option.bind (AV.asInt IntKind.i64 (Prod.fst x1)) fun x2 ↦
          if decide (x2 ≠ 1) = true then some (AV.tuple [AV.ptr none, AV.int IntKind.i64 2], Prod.snd x1)
          else
            Option.bind (Γ (Fun.fn 57) [AV.ptr p0] (Prod.snd x1)) fun x3 ↦
              Option.bind (AV.asInt IntKind.i64 (Prod.fst x3)) fun x4 ↦
                Option.bind (Γ (Fun.fn 58) [AV.ptr p0] (Prod.snd x3)) fun x5 ↦
                  Option.bind (AV.asSl (Prod.fst x5)) fun x6 ↦
                    Option.bind (Store.ldSl (Store.push (Prod.snd x5) [AV.int IntKind.i64 x4, AV.slice x6, AV.slice Hdl.nil, AV.int IntKind.i64 0] 4) (Ptr.add (some (List.length (Store.objs (Prod.snd x5)), 0)) 1)) fun x7 ↦
                      Option.bind (loopF Try.prog Γ drawn k Try.f36 [1, 1, 1, 0, 1, 0] [25, 24, 23, 4] ([AV.int IntKind.i64 0, AV.int IntKind.i64 (↑(Hdl.len x7) : Int), AV.slice x7, AV.ptr (some (List.length (Store.objs (Prod.snd x5)), 0))], Store.push (Prod.snd x5) [AV.int IntKind.i64 x4, AV.slice x6, AV.slice Hdl.nil, AV.int IntKind.i64 0] 4))
                        (contF Try.prog Γ drawn k Try.f36 [1, 1, 1, 0, 1, 0]) := by intros; kernel_rfl

theorem f36_L111010 : ∀ (Γ : Gam) (k : Nat) (σ : Store) (i8 i9 : Int) (h10 : Hdl) (p11 : Ptr),
  stepF Try.prog Γ drawn k Try.f36 [1, 1, 1, 0, 1, 0] [25, 24, 23, 4] ([AV.int IntKind.i64 i8, AV.int IntKind.i64 i9, AV.slice h10, AV.ptr p11], σ) =
    if decide (i8 < i9) = true then
      if 0 ≤ i8 ∧ i8 < (↑(Hdl.len h10) : Int) then
        Option.bind (Store.ldInt σ IntKind.u64 (Hdl.idx h10 i8 1)) fun x12 ↦
          if decide (Int.tmod i8 8 = 0) = true then
            Option.bind p11 fun x13 ↦
              Option.bind (Store.ldSl σ (Ptr.add (some x13) 2)) fun x14 ↦
                Option.bind p11 fun x15 ↦
                  Option.bind (Store.ldInt σ IntKind.i64 (Ptr.add (some x15) 3)) fun x16 ↦
                    Option.bind (Store.readSl (Store.push σ [AV.int IntKind.i64 x16] 1) { a := some (List.length (Store.objs σ), 0), len := 1, cap := some 1 } 1) fun x17 ↦
                      Option.bind (Store.app (Store.push σ [AV.int IntKind.i64 x16] 1) x14 1 8 x17 1) fun x18 ↦
                        Option.bind p11 fun x19 ↦
                          Option.bind (Store.stL (Prod.snd x18) (Ptr.add (some x19) 2) [AV.slice (Prod.fst x18)] 0) fun x20 ↦
                            Option.bind p11 fun x21 ↦
                              Option.bind (Store.ldInt x20 IntKind.i64 (Ptr.add (some x21) 3)) fun x22 ↦
                                Option.bind (callG Γ true (Fun.fn 59) [AV.int IntKind.u64 x12] x20) fun x23 ↦
                                  Option.bind (AV.asInt IntKind.i64 (Prod.fst x23)) fun x24 ↦ Option.bind p11 fun x25 ↦ Option.bind (Store.stL (Prod.snd x23) (Ptr.add (some x25) 3) [AV.int IntKind.i64 (IntKind.wrap IntKind.i64 (x22 + x24))] 0) fun x26 ↦ some (Sum.inl ([AV.int IntKind.i64 (IntKind.wrap IntKind.i64 (i8 + 1)), AV.int IntKind.i64 i9, AV.slice h10, AV.ptr p11], x26))
          else
            Option.bind p11 fun x27 ↦
              Option.bind (Store.ldInt σ IntKind.i64 (Ptr.add (some x27) 3)) fun x28 ↦
                Option.bind (callG Γ true (Fun.fn 59) [AV.int IntKind.u64 x12] σ) fun x29 ↦
                  Option.bind (AV.asInt IntKind.i64 (Prod.fst x29)) fun x30 ↦ Option.bind p11 fun x31 ↦ Option.bind (Store.stL (Prod.snd x29) (Ptr.add (some x31) 3) [AV.int IntKind.i64 (IntKind.wrap IntKind.i64 (x28 + x30))] 0) fun x32 ↦ some (Sum.inl ([AV.int IntKind.i64 (IntKind.wrap IntKind.i64 (i8 + 1)), AV.int IntKind.i64 i9, AV.slice h10, AV.ptr p11], x32))
      else none
    else some (Sum.inr (AX.exit 1, [(4, AV.ptr p11)], σ)) := by intros; kernel_rfl

theorem f36_X111010_1 : ∀ (Γ : Gam) (k : Nat) (σ : Store) (p33 : Ptr), contF Try.prog Γ drawn k Try.f36 [1, 1, 1, 0, 1, 0] (AX.exit 1, [(4, AV.ptr p33)], σ) = some (AV.tuple [AV.ptr p33, AV.int IntKind.i64 0], σ) := by intros; kernel_rfl

theorem f37_eq : ∀ (Γ : Gam) (k : Nat) (σ : Store) (h0 : Hdl) (i1 i2 : Int), evBody Try.prog Γ drawn k Try.f37 [AV.slice h0, AV.int IntKind.i64 i1, AV.int IntKind.i64 i2] σ = Option.bind (loopF Try.prog Γ drawn k Try.f37 [1, 0, 0] [2, 1, 0] ([AV.int IntKind.i64 i2, AV.int IntKind.i64 i1, AV.slice h0], σ)) (contF Try.prog Γ drawn k Try.f37 [1, 0, 0]) := by intros; kernel_rfl

theorem f37_L100 : ∀ (Γ : Gam) (k : Nat) (σ : Store) (i3 i4 : Int) (h5 : Hdl),
  stepF Try.prog Γ drawn k Try.f37 [1, 0, 0] [2, 1, 0] ([AV.int IntKind.i64 i3, AV.int IntKind.i64 i4, AV.slice h5], σ) =
    if decide (i4 < (↑(Hdl.len h5) : Int)) = true then
      if decide (i3 < (↑(Hdl.len h5) : Int)) = true then
        if 0 ≤ i4 ∧ i4 < (↑(Hdl.len h5) : Int) then
          Option.bind (Store.ldInt σ IntKind.i64 (Hdl.idx h5 i4 1)) fun x6 ↦
            if 0 ≤ i3 ∧ i3 < (↑(Hdl.len h5) : Int) then
              Option.bind (Store.ldInt σ IntKind.i64 (Hdl.idx h5 i3 1)) fun x7 ↦
                if decide (x6 ≠ x7) = true then if 0 ≤ i4 ∧ i4 < (↑(Hdl.len h5) : Int) then Option.bind (Store.ldInt σ IntKind.i64 (Hdl.idx h5 i4 1)) fun x8 ↦ if 0 ≤ i3 ∧ i3 < (↑(Hdl.len h5) : Int) then Option.bind (Store.ldInt σ IntKind.i64 (Hdl.idx h5 i3 1)) fun x9 ↦ some (Sum.inr (AX.ret, [(6, AV.bool (decide (x8 < x9)))], σ)) else none else none
                else some (Sum.inl ([AV.int IntKind.i64 (IntKind.wrap IntKind.i64 (i3 + 1)), AV.int IntKind.i64 (IntKind.wrap IntKind.i64 (i4 + 1)), AV.slice h5], σ))
            else none
        else none
      else some (Sum.inr (AX.exit 0, [(2, AV.int IntKind.i64 i3), (1, AV.int IntKind.i64 i4), (0, AV.slice h5)], σ))
    else some (Sum.inr (AX.exit 0, [(2, AV.int IntKind.i64 i3), (1, AV.int IntKind.i64 i4), (0, AV.slice h5)], σ)) := by intros; kernel_rfl

theorem f37_X100_1 : ∀ (Γ : Gam) (k : Nat) (σ : Store) (b10 : Bool), contF Try.prog Γ drawn k Try.f37 [1, 0, 0] (AX.ret, [(6, AV.bool b10)], σ) = some (AV.bool b10, σ) := by intros; kernel_rfl

theorem f37_X100_2 : ∀ (Γ : Gam) (k : Nat) (σ : Store) (i11 i12 : Int) (h13 : Hdl), contF Try.prog Γ drawn k Try.f37 [1, 0, 0] (AX.exit 0, [(2, AV.int IntKind.i64 i11), (1, AV.int IntKind.i64 i12), (0, AV.slice h13)], σ) = if decide (i12 = (↑(Hdl.len h13) : Int)) = true then some (AV.bool (decide (i11 < (↑(Hdl.len h13) : Int))), σ) else some (AV.bool false, σ) := by intros; kernel_rfl

theorem f38_eq : ∀ (Γ : Gam) (k : Nat) (σ : Store) (h0 : Hdl) (i1 : Int), evBody Try.prog Γ drawn k Try.f38 [AV.slice h0, AV.int IntKind.i64 i1] σ = Option.bind (Γ (Fun.fn 29) [AV.slice h0, AV.int IntKind.i64 i1] σ) fun x2 ↦ Option.bind (AV.asInt IntKind.i64 (Prod.fst x2)) fun x3 ↦ some (AV.bool (decide (0 ≤ x3)), Prod.snd x2) := by intros; kernel_rfl

theorem f39_eq : ∀ (Γ : Gam) (k : Nat) (σ : Store) (h0 : Hdl), evBody Try.prog Γ drawn k Try.f39 [AV.slice h0] σ = some (AV.func 60 [] [AV.ptr (some (List.length (Store.objs σ), 0))], Store.push σ [AV.slice h0] 1) := by intros; kernel_rfl

theorem f41_eq : ∀ (Γ : Gam) (k : Nat) (σ : Store) (p0 : Ptr) (i1 : Int),
  evBody Try.prog Γ drawn k Try.f41 [AV.ptr p0, AV.int IntKind.i64 i1] σ =
    if (!Option.isNone p0) = true then
      if decide (0 ≤ i1) = true then
        Option.bind p0 fun x2 ↦
          Option.bind (Store.ldInt σ IntKind.i64 (Ptr.add (some x2) 0)) fun x3 ↦
            if decide (i1 < x3) = true then
              Option.bind p0 fun x4 ↦
                Option.bind (Store.ldSl σ (Ptr.add (some x4) 1)) fun x5 ↦
                  if 0 ≤ IntKind.wrap IntKind.i64 (Int.tdiv i1 64) ∧ IntKind.wrap IntKind.i64 (Int.tdiv i1 64) < (↑(Hdl.len x5) : Int) then Option.bind (Store.ldInt σ IntKind.u64 (Hdl.idx x5 (IntKind.wrap IntKind.i64 (Int.tdiv i1 64)) 1)) fun x6 ↦ if 0 ≤ Int.tmod i1 64 then some (AV.bool (decide (bitOp BinOp.and IntKind.u64 (shrI IntKind.u64 x6 (Int.tmod i1 64)) 1 = 1)), σ) else none else none
            else some (AV.bool false, σ)
      else some (AV.bool false, σ)
    else some (AV.bool false, σ) := by intros; kernel_rfl

theorem f42_eq : ∀ (Γ : Gam) (k : Nat) (σ : Store) (p0 : Ptr) (i1 : Int),
  evBody Try.prog Γ drawn k Try.f42 [AV.ptr p0, AV.int IntKind.i64 i1] σ =
    if Option.isNone p0 = true then some (AV.int IntKind.u64 0, σ)
    else
      if decide (i1 < 0) = true then some (AV.int IntKind.u64 0, σ)
      else
        Option.bind p0 fun x2 ↦
          Option.bind (Store.ldInt σ IntKind.i64 (Ptr.add (some x2) 1)) fun x3 ↦
            if decide (x3 ≤ i1) = true then some (AV.int IntKind.u64 0, σ)
            else
              Option.bind p0 fun x4 ↦
                Option.bind (Store.ldInt σ IntKind.i64 (Ptr.add (some x4) 0)) fun x5 ↦
                  Option.bind p0 fun x6 ↦
                    Option.bind (Store.ldSl σ (Ptr.add (some x6) 2)) fun x7 ↦
                      if 0 ≤ IntKind.wrap IntKind.i64 (Int.tdiv (IntKind.wrap IntKind.i64 (i1 * x5)) 64) ∧ IntKind.wrap IntKind.i64 (Int.tdiv (IntKind.wrap IntKind.i64 (i1 * x5)) 64) < (↑(Hdl.len x7) : Int) then
                        Option.bind (Store.ldInt σ IntKind.u64 (Hdl.idx x7 (IntKind.wrap IntKind.i64 (Int.tdiv (IntKind.wrap IntKind.i64 (i1 * x5)) 64)) 1)) fun x8 ↦
                          if 0 ≤ Int.tmod (IntKind.wrap IntKind.i64 (i1 * x5)) 64 then
                            Option.bind p0 fun x9 ↦
                              Option.bind (Store.ldInt σ IntKind.i64 (Ptr.add (some x9) 0)) fun x10 ↦
                                if decide (64 < IntKind.wrap IntKind.i64 (Int.tmod (IntKind.wrap IntKind.i64 (i1 * x5)) 64 + x10)) = true then
                                  Option.bind p0 fun x11 ↦
                                    Option.bind (Store.ldSl σ (Ptr.add (some x11) 2)) fun x12 ↦
                                      if 0 ≤ IntKind.wrap IntKind.i64 (IntKind.wrap IntKind.i64 (Int.tdiv (IntKind.wrap IntKind.i64 (i1 * x5)) 64) + 1) ∧ IntKind.wrap IntKind.i64 (IntKind.wrap IntKind.i64 (Int.tdiv (IntKind.wrap IntKind.i64 (i1 * x5)) 64) + 1) < (↑(Hdl.len x12) : Int) then
                                        Option.bind (Store.ldInt σ IntKind.u64 (Hdl.idx x12 (IntKind.wrap IntKind.i64 (IntKind.wrap IntKind.i64 (Int.tdiv (IntKind.wrap IntKind.i64 (i1 * x5)) 64) + 1)) 1)) fun x13 ↦
                                          if 0 ≤ IntKind.wrap IntKind.i64 (64 - Int.tmod (IntKind.wrap IntKind.i64 (i1 * x5)) 64) then
                                            Option.bind p0 fun x14 ↦
                                              Option.bind (Store.ldInt σ IntKind.i64 (Ptr.add (some x14) 0)) fun x15 ↦
                                                Option.bind (Γ (Fun.fn 55) [AV.int IntKind.i64 x15] σ) fun x16 ↦
                                                  Option.bind (AV.asInt IntKind.u64 (Prod.fst x16)) fun x17 ↦ some (AV.int IntKind.u64 (bitOp BinOp.and IntKind.u64 (bitOp BinOp.or IntKind.u64 (shrI IntKind.u64 x8 (Int.tmod (IntKind.wrap IntKind.i64 (i1 * x5)) 64)) (shlI IntKind.u64 x13 (IntKind.wrap IntKind.i64 (64 - Int.tmod (IntKind.wrap IntKind.i64 (i1 * x5)) 64)))) x17), Prod.snd x16)
                                          else none
                                      else none
                                else
                                  Option.bind p0 fun x18 ↦
                                    Option.bind (Store.ldInt σ IntKind.i64 (Ptr.add (some x18) 0)) fun x19 ↦ Option.bind (Γ (Fun.fn 55) [AV.int IntKind.i64 x19] σ) fun x20 ↦ Option.bind (AV.asInt IntKind.u64 (Prod.fst x20)) fun x21 ↦ some (AV.int IntKind.u64 (bitOp BinOp.and IntKind.u64 (shrI IntKind.u64 x8 (Int.tmod (IntKind.wrap IntKind.i64 (i1 * x5)) 64)) x21), Prod.snd x20)
                          else none
                      else none := by intros; kernel_rfl

theorem f43_eq : ∀ (Γ : Gam) (k : Nat) (σ : Store) (p0 : Ptr) (i1 : Int),
  evBody Try.prog Γ drawn k Try.f43 [AV.ptr p0, AV.int IntKind.i64 i1] σ =
    if Option.isNone p0 = true then some (AV.int IntKind.i64 0, σ)
    else
      if decide (i1 ≤ 0) = true then some (AV.int IntKind.i64 0, σ)
      else
        Option.bind p0 fun x2 ↦
          Option.bind (Store.ldInt σ IntKind.i64 (Ptr.add (some x2) 0)) fun x3 ↦
            if decide (x3 ≤ i1) = true then Option.bind p0 fun x4 ↦ Option.bind (Store.ldInt σ IntKind.i64 (Ptr.add (some x4) 3)) fun x5 ↦ some (AV.int IntKind.i64 x5, σ)
            else
              Option.bind p0 fun x6 ↦
                Option.bind (Store.ldSl σ (Ptr.add (some x6) 2)) fun x7 ↦
                  if 0 ≤ IntKind.wrap IntKind.i64 (Int.tdiv (IntKind.wrap IntKind.i64 (Int.tdiv i1 64)) 8) ∧ IntKind.wrap IntKind.i64 (Int.tdiv (IntKind.wrap IntKind.i64 (Int.tdiv i1 64)) 8) < (↑(Hdl.len x7) : Int) then
                    Option.bind (Store.ldInt σ IntKind.i64 (Hdl.idx x7 (IntKind.wrap IntKind.i64 (Int.tdiv (IntKind.wrap IntKind.i64 (Int.tdiv i1 64)) 8)) 1)) fun x8 ↦
                      Option.bind (loopF Try.prog Γ drawn k Try.f43 [1, 1, 1, 1, 1, 0, 1, 0] [7, 6, 5, 1, 0] ([AV.int IntKind.i64 (IntKind.wrap IntKind.i64 (IntKind.wrap IntKind.i64 (Int.tdiv (IntKind.wrap IntKind.i64 (Int.tdiv i1 64)) 8) * 8)), AV.int IntKind.i64 x8, AV.int IntKind.i64 (IntKind.wrap IntKind.i64 (Int.tdiv i1 64)), AV.int IntKind.i64 i1, AV.ptr p0], σ))
                        (contF Try.prog Γ drawn k Try.f43 [1, 1, 1, 1, 1, 0, 1, 0])
                  else none := by intros; kernel_rfl

theorem f43_L11111010 : ∀ (Γ : Gam) (k : Nat) (σ : Store) (i9 i10 i11 i12 : Int) (p13 : Ptr),
  stepF Try.prog Γ drawn k Try.f43 [1, 1, 1, 1, 1, 0, 1, 0] [7, 6, 5, 1, 0] ([AV.int IntKind.i64 i9, AV.int IntKind.i64 i10, AV.int IntKind.i64 i11, AV.int IntKind.i64 i12, AV.ptr p13], σ) =
    if decide (i9 < i11) = true then
      Option.bind p13 fun x14 ↦
        Option.bind (Store.ldSl σ (Ptr.add (some x14) 1)) fun x15 ↦
          if 0 ≤ i9 ∧ i9 < (↑(Hdl.len x15) : Int) then
            Option.bind (Store.ldInt σ IntKind.u64 (Hdl.idx x15 i9 1)) fun x16 ↦
              Option.bind (Γ (Fun.fn 59) [AV.int IntKind.u64 x16] σ) fun x17 ↦ Option.bind (AV.asInt IntKind.i64 (Prod.fst x17)) fun x18 ↦ some (Sum.inl ([AV.int IntKind.i64 (IntKind.wrap IntKind.i64 (i9 + 1)), AV.int IntKind.i64 (IntKind.wrap IntKind.i64 (i10 + x18)), AV.int IntKind.i64 i11, AV.int IntKind.i64 i12, AV.ptr p13], Prod.snd x17))
          else none
    else some (Sum.inr (AX.exit 0, [(6, AV.int IntKind.i64 i10), (5, AV.int IntKind.i64 i11), (1, AV.int IntKind.i64 i12), (0, AV.ptr p13)], σ)) := by intros; kernel_rfl

theorem f43_X11111010_1 : ∀ (Γ : Gam) (k : Nat) (σ : Store) (i19 i20 i21 : Int) (p22 : Ptr),
  contF Try.prog Γ drawn k Try.f43 [1, 1, 1, 1, 1, 0, 1, 0] (AX.exit 0, [(6, AV.int IntKind.i64 i19), (5, AV.int IntKind.i64 i20), (1, AV.int IntKind.i64 i21), (0, AV.ptr p22)], σ) =
    Option.bind p22 fun x23 ↦
      Option.bind (Store.ldSl σ (Ptr.add (some x23) 1)) fun x24 ↦
        if 0 ≤ i20 ∧ i20 < (↑(Hdl.len x24) : Int) then
          Option.bind (Store.ldInt σ IntKind.u64 (Hdl.idx x24 i20 1)) fun x25 ↦
            if 0 ≤ Int.tmod i21 64 then Option.bind (Γ (Fun.fn 59) [AV.int IntKind.u64 (bitOp BinOp.and IntKind.u64 x25 (IntKind.wrap IntKind.u64 (shlI IntKind.u64 1 (Int.tmod i21 64) - 1)))] σ) fun x26 ↦ Option.bind (AV.asInt IntKind.i64 (Prod.fst x26)) fun x27 ↦ some (AV.int IntKind.i64 (IntKind.wrap IntKind.i64 (i19 + x27)), Prod.snd x26) else none
        else none := by intros; kernel_rfl

theorem f44_eq : ∀ (Γ : Gam) (k : Nat) (σ : Store) (p0 : Ptr) (i1 : Int),
  evBody Try.prog Γ drawn k Try.f44 [AV.ptr p0, AV.int IntKind.i64 i1] σ =
    if decide (i1 < 0) = true then some (AV.int IntKind.i64 (-1), σ)
    else
      Option.bind (Γ (Fun.fn 63) [AV.ptr p0] σ) fun x2 ↦
        Option.bind (AV.asInt IntKind.i64 (Prod.fst x2)) fun x3 ↦
          if decide (x3 ≤ i1) = true then some (AV.int IntKind.i64 (-1), Prod.snd x2)
          else Option.bind p0 fun x4 ↦ Option.bind (Store.ldSl (Prod.snd x2) (Ptr.add (some x4) 2)) fun x5 ↦ Option.bind (loopF Try.prog Γ drawn k Try.f44 [1, 1, 1, 0, 1, 0] [22, 21, 20, 5, 1] ([AV.int IntKind.i64 0, AV.int IntKind.i64 (↑(Hdl.len x5) : Int), AV.slice x5, AV.int IntKind.i64 0, AV.int IntKind.i64 i1], Prod.snd x2)) (contF Try.prog Γ drawn k Try.f44 [1, 1, 1, 0, 1, 0]) := by intros; kernel_rfl

theorem f44_L111010 : ∀ (Γ : Gam) (k : Nat) (σ : Store) (i6 i7 : Int) (h8 : Hdl) (i9 i10 : Int),
  stepF Try.prog Γ drawn k Try.f44 [1, 1, 1, 0, 1, 0] [22, 21, 20, 5, 1] ([AV.int IntKind.i64 i6, AV.int IntKind.i64 i7, AV.slice h8, AV.int IntKind.i64 i9, AV.int IntKind.i64 i10], σ) =
    if decide (i6 < i7) = true then
      if 0 ≤ i6 ∧ i6 < (↑(Hdl.len h8) : Int) then
        Option.bind (Store.ldPtr σ (Hdl.idx h8 i6 1)) fun x11 ↦
          Option.bind (Γ (Fun.fn 41) [AV.ptr x11, AV.int IntKind.i64 i10] σ) fun x12 ↦
            Option.bind (AV.asBool (Prod.fst x12)) fun x13 ↦
              if x13 = true then
                Option.bind (Γ (Fun.fn 64) [AV.ptr x11, AV.int IntKind.i64 i10, AV.bool x13] (Prod.snd x12)) fun x14 ↦
                  Option.bind (AV.asInt IntKind.i64 (Prod.fst x14)) fun x15 ↦ some (Sum.inl ([AV.int IntKind.i64 (IntKind.wrap IntKind.i64 (i6 + 1)), AV.int IntKind.i64 i7, AV.slice h8, AV.int IntKind.i64 (IntKind.wrap IntKind.i64 (IntKind.wrap IntKind.i64 (2 * i9) + 1)), AV.int IntKind.i64 x15], Prod.snd x14))
              else Option.bind (Γ (Fun.fn 64) [AV.ptr x11, AV.int IntKind.i64 i10, AV.bool x13] (Prod.snd x12)) fun x16 ↦ Option.bind (AV.asInt IntKind.i64 (Prod.fst x16)) fun x17 ↦ some (Sum.inl ([AV.int IntKind.i64 (IntKind.wrap IntKind.i64 (i6 + 1)), AV.int IntKind.i64 i7, AV.slice h8, AV.int IntKind.i64 (IntKind.wrap IntKind.i64 (2 * i9)), AV.int IntKind.i64 x17], Prod.snd x16))
      else none
    else some (Sum.inr (AX.exit 0, [(5, AV.int IntKind.i64 i9)], σ)) := by intros; kernel_rfl

theorem f44_X111010_1 : ∀ (Γ : Gam) (k : Nat) (σ : Store) (i18 : Int), contF Try.prog Γ drawn k Try.f44 [1, 1, 1, 0, 1, 0] (AX.exit 0, [(5, AV.int IntKind.i64 i18)], σ) = some (AV.int IntKind.i64 i18, σ) := by intros; kernel_rfl

theorem f45_eq : ∀ (Γ : Gam) (k : Nat) (σ : Store) (p0 : Ptr) (i1 i2 : Int),
  evBody Try.prog Γ drawn k Try.f45 [AV.ptr p0, AV.int IntKind.i64 i1, AV.int IntKind.i64 i2] σ =
    Option.bind (Γ (Fun.fn 65) [AV.ptr p0, AV.int IntKind.i64 i1] σ) fun x3 ↦
      Option.bind (AV.asBool (Prod.fst x3)) fun x4 ↦
        if (!x4) = true then some (AV.int IntKind.i64 0, Prod.snd x3)
        else
          Option.bind p0 fun x5 ↦
            Option.bind (Store.ldInt (Prod.snd x3) IntKind.i64 (Ptr.add (some x5) 0)) fun x6 ↦
              Option.bind (Γ (Fun.fn 66) [AV.ptr p0, AV.int IntKind.i64 i1, AV.int IntKind.i64 (mx2 (Int.ofNat 0) (mn2 i2 x6))] (Prod.snd x3)) fun x7 ↦
                Option.bind (AV.item 0 2 (Prod.fst x7)) fun x8 ↦ Option.bind (AV.asInt IntKind.i64 x8) fun x9 ↦ Option.bind (AV.item 1 2 (Prod.fst x7)) fun x10 ↦ Option.bind (AV.asInt IntKind.i64 x10) fun x11 ↦ some (AV.int IntKind.i64 (IntKind.wrap IntKind.i64 (x11 - x9)), Prod.snd x7) := by intros; kernel_rfl

theorem f46_eq : ∀ (Γ : Gam) (k : Nat) (σ : Store) (h0 : Hdl) (g1 : FuncId) (a2 c3 : List AV), evBody Try.prog Γ drawn k Try.f46 [AV.slice h0, AV.func g1 a2 c3] σ = Option.bind (Γ (Fun.fn 67) [AV.slice h0, AV.func g1 a2 c3] σ) fun x4 ↦ Option.bind (AV.asInt IntKind.i64 (Prod.fst x4)) fun x5 ↦ some (AV.bool (decide (0 ≤ x5)), Prod.snd x4) := by intros; kernel_rfl

theorem f47_eq : ∀ (Γ : Gam) (k : Nat) (σ : Store) (i0 : Int) (p1 : Ptr), evBody Try.prog Γ drawn k Try.f47 [AV.int IntKind.i64 i0, AV.ptr p1] σ = if decide (i0 < 0) = true then some (AV.bool true, σ) else Option.bind (Store.ldInt σ IntKind.i64 p1) fun x2 ↦ some (AV.bool (decide (x2 ≤ i0)), σ) := by intros; kernel_rfl

theorem f48_eq : ∀ (Γ : Gam) (k : Nat) (σ : Store) (h0 : Hdl) (i1 : Int),
  evBody Try.prog Γ drawn k Try.f48 [AV.slice h0, AV.int IntKind.i64 i1] σ =
    if ((0 : Int) ≤ (↑(Hdl.len h0) : Int) ∧ (↑(Hdl.len h0) : Int) ≤ (↑(Hdl.len h0) : Int)) ∧ (↑(Hdl.len h0) : Int) * (↑(1 : Nat) : Int) ≤ (281474976710656 : Int) then
      if ((0 : Int) ≤ (↑(Hdl.len h0) : Int) ∧ (↑(Hdl.len h0) : Int) ≤ (↑(Hdl.len h0) : Int)) ∧ (↑(Hdl.len h0) : Int) * (↑(8 : Nat) : Int) ≤ (281474976710656 : Int) then
        if decide ((↑(Hdl.len h0) : Int) = (0 : Int)) = true then
          Option.bind
            (Store.ldSl
              (Store.push (Store.push (Store.push σ (mkCells [AV.bool false] (Int.toNat (↑(Hdl.len h0) : Int))) (1 : Nat)) (mkCells [AV.int IntKind.i64 (0 : Int)] (Int.toNat (↑(Hdl.len h0) : Int))) (1 : Nat))
                [AV.slice h0, AV.int IntKind.i64 i1, AV.slice { a := some (List.length (Store.objs σ), (0 : Nat)), len := Int.toNat (↑(Hdl.len h0) : Int), cap := some (Int.toNat (↑(Hdl.len h0) : Int)) },
                  AV.slice { a := some (List.length (Store.objs (Store.push σ (mkCells [AV.bool false] (Int.toNat (↑(Hdl.len h0) : Int))) (1 : Nat))), (0 : Nat)), len := Int.toNat (↑(Hdl.len h0) : Int), cap := some (Int.toNat (↑(Hdl.len h0) : Int)) }]
                (4 : Nat))
              (Ptr.add (some (List.length (Store.objs (Store.push (Store.push σ (mkCells [AV.bool false] (Int.toNat (↑(Hdl.len h0) : Int))) (1 : Nat)) (mkCells [AV.int IntKind.i64 (0 : Int)] (Int.toNat (↑(Hdl.len h0) : Int))) (1 : Nat))), (0 : Nat))) (3 : Nat)))
            fun x2 ↦
            some
              (AV.slice x2,
                Store.push (Store.push (Store.push σ (mkCells [AV.bool false] (Int.toNat (↑(Hdl.len h0) : Int))) (1 : Nat)) (mkCells [AV.int IntKind.i64 (0 : Int)] (Int.toNat (↑(Hdl.len h0) : Int))) (1 : Nat))
                  [AV.slice h0, AV.int IntKind.i64 i1, AV.slice { a := some (List.length (Store.objs σ), (0 : Nat)), len := Int.toNat (↑(Hdl.len h0) : Int), cap := some (Int.toNat (↑(Hdl.len h0) : Int)) },
                    AV.slice { a := some (List.length (Store.objs (Store.push σ (mkCells [AV.bool false] (Int.toNat (↑(Hdl.len h0) : Int))) (1 : Nat))), (0 : Nat)), len := Int.toNat (↑(Hdl.len h0) : Int), cap := some (Int.toNat (↑(Hdl.len h0) : Int)) }]
                  (4 : Nat))
        else
          Option.bind
            (loopF Try.prog Γ drawn k Try.f48 [(1 : Nat), (1 : Nat), (1 : Nat), (1 : Nat), (0 : Nat), (1 : Nat), (0 : Nat)] [(7 : Nat), (6 : Nat), (5 : Nat), (0 : Nat)]
              ([AV.int IntKind.i64 (IntKind.wrap IntKind.i64 ((↑(Hdl.len h0) : Int) - (2 : Int))), AV.ptr (some (List.length (Store.objs (Store.push (Store.push σ (mkCells [AV.bool false] (Int.toNat (↑(Hdl.len h0) : Int))) (1 : Nat)) (mkCells [AV.int IntKind.i64 (0 : Int)] (Int.toNat (↑(Hdl.len h0) : Int))) (1 : Nat))), (0 : Nat))), AV.int IntKind.i64 (↑(Hdl.len h0) : Int), AV.slice h0],
                Store.push (Store.push (Store.push σ (mkCells [AV.bool false] (Int.toNat (↑(Hdl.len h0) : Int))) (1 : Nat)) (mkCells [AV.int IntKind.i64 (0 : Int)] (Int.toNat (↑(Hdl.len h0) : Int))) (1 : Nat))
                  [AV.slice h0, AV.int IntKind.i64 i1, AV.slice { a := some (List.length (Store.objs σ), (0 : Nat)), len := Int.toNat (↑(Hdl.len h0) : Int), cap := some (Int.toNat (↑(Hdl.len h0) : Int)) },
                    AV.slice { a := some (List.length (Store.objs (Store.push σ (mkCells [AV.bool false] (Int.toNat (↑(Hdl.len h0) : Int))) (1 : Nat))), (0 : Nat)), len := Int.toNat (↑(Hdl.len h0) : Int), cap := some (Int.toNat (↑(Hdl.len h0) : Int)) }]
                  (4 : Nat)))
            (contF Try.prog Γ drawn k Try.f48 [(1 : Nat), (1 : Nat), (1 : Nat), (1 : Nat), (0 : Nat), (1 : Nat), (0 : Nat)])
      else none
    else none := by intros; kernel_rfl

theorem f48_L1111010 : ∀ (Γ : Gam) (k : Nat) (σ : Store) (i3 : Int) (p4 : Ptr) (i5 : Int) (h6 : Hdl),
  stepF Try.prog Γ drawn k Try.f48 [1, 1, 1, 1, 0, 1, 0] [7, 6, 5, 0] ([AV.int IntKind.i64 i3, AV.ptr p4, AV.int IntKind.i64 i5, AV.slice h6], σ) =
    if decide (0 ≤ i3) = true then
      Option.bind p4 fun x7 ↦
        Option.bind (Store.ldSl σ (Ptr.add (some x7) 2)) fun x8 ↦
          if 0 ≤ i3 ∧ i3 < (↑(Hdl.len h6) : Int) then
            Option.bind (Store.ldInt σ IntKind.i64 (Hdl.idx h6 i3 1)) fun x9 ↦
              if 0 ≤ IntKind.wrap IntKind.i64 (i3 + 1) ∧ IntKind.wrap IntKind.i64 (i3 + 1) < (↑(Hdl.len h6) : Int) then
                Option.bind (Store.ldInt σ IntKind.i64 (Hdl.idx h6 (IntKind.wrap IntKind.i64 (i3 + 1)) 1)) fun x10 ↦
                  if decide (x9 < x10) = true then if 0 ≤ i3 ∧ i3 < (↑(Hdl.len x8) : Int) then Option.bind (Store.stL σ (Hdl.idx x8 i3 1) [AV.bool true] 0) fun x11 ↦ some (Sum.inl ([AV.int IntKind.i64 (IntKind.wrap IntKind.i64 (i3 - 1)), AV.ptr p4, AV.int IntKind.i64 i5, AV.slice h6], x11)) else none
                  else
                    if 0 ≤ i3 ∧ i3 < (↑(Hdl.len h6) : Int) then
                      Option.bind (Store.ldInt σ IntKind.i64 (Hdl.idx h6 i3 1)) fun x12 ↦
                        if 0 ≤ IntKind.wrap IntKind.i64 (i3 + 1) ∧ IntKind.wrap IntKind.i64 (i3 + 1) < (↑(Hdl.len h6) : Int) then
                          Option.bind (Store.ldInt σ IntKind.i64 (Hdl.idx h6 (IntKind.wrap IntKind.i64 (i3 + 1)) 1)) fun x13 ↦
                            if decide (x12 = x13) = true then
                              Option.bind p4 fun x14 ↦
                                Option.bind (Store.ldSl σ (Ptr.add (some x14) 2)) fun x15 ↦
                                  if 0 ≤ IntKind.wrap IntKind.i64 (i3 + 1) ∧ IntKind.wrap IntKind.i64 (i3 + 1) < (↑(Hdl.len x15) : Int) then
                                    Option.bind (Store.ldBool σ (Hdl.idx x15 (IntKind.wrap IntKind.i64 (i3 + 1)) 1)) fun x16 ↦ if 0 ≤ i3 ∧ i3 < (↑(Hdl.len x8) : Int) then Option.bind (Store.stL σ (Hdl.idx x8 i3 1) [AV.bool x16] 0) fun x17 ↦ some (Sum.inl ([AV.int IntKind.i64 (IntKind.wrap IntKind.i64 (i3 - 1)), AV.ptr p4, AV.int IntKind.i64 i5, AV.slice h6], x17)) else none
                                  else none
                            else if 0 ≤ i3 ∧ i3 < (↑(Hdl.len x8) : Int) then Option.bind (Store.stL σ (Hdl.idx x8 i3 1) [AV.bool false] 0) fun x18 ↦ some (Sum.inl ([AV.int IntKind.i64 (IntKind.wrap IntKind.i64 (i3 - 1)), AV.ptr p4, AV.int IntKind.i64 i5, AV.slice h6], x18)) else none
                        else none
                    else none
              else none
          else none
    else some (Sum.inr (AX.exit 0, [(6, AV.ptr p4), (5, AV.int IntKind.i64 i5), (0, AV.slice h6)], σ)) := by intros; kernel_rfl

theorem f48_X1111010_1 : ∀ (Γ : Gam) (k : Nat) (σ : Store) (p19 : Ptr) (i20 : Int) (h21 : Hdl),
  contF Try.prog Γ drawn k Try.f48 [1, 1, 1, 1, 0, 1, 0] (AX.exit 0, [(6, AV.ptr p19), (5, AV.int IntKind.i64 i20), (0, AV.slice h21)], σ) =
    Option.bind (loopF Try.prog Γ drawn k Try.f48 [1, 1, 1, 1, 1, 1, 0, 1, 0] [83, 82, 8, 6, 5] ([AV.int IntKind.i64 0, AV.int IntKind.i64 (↑(Hdl.len h21) : Int), AV.slice Hdl.nil, AV.ptr p19, AV.int IntKind.i64 i20], σ)) (contF Try.prog Γ drawn k Try.f48 [1, 1, 1, 1, 1, 1, 0, 1, 0]) := by intros; kernel_rfl

theorem f48_L111111010 : ∀ (Γ : Gam) (k : Nat) (σ : Store) (i22 i23 : Int) (h24 : Hdl) (p25 : Ptr) (i26 : Int),
  stepF Try.prog Γ drawn k Try.f48 [1, 1, 1, 1, 1, 1, 0, 1, 0] [83, 82, 8, 6, 5] ([AV.int IntKind.i64 i22, AV.int IntKind.i64 i23, AV.slice h24, AV.ptr p25, AV.int IntKind.i64 i26], σ) =
    if decide (i22 < i23) = true then
      Option.bind (Γ (Fun.fn 68) [AV.ptr p25, AV.int IntKind.i64 i22] σ) fun x27 ↦
        Option.bind (AV.asBool (Prod.fst x27)) fun x28 ↦
          if x28 = true then
            Option.bind (Store.readSl (Store.push (Prod.snd x27) [AV.int IntKind.i64 i22] 1) { a := some (List.length (Store.objs (Prod.snd x27)), 0), len := 1, cap := some 1 } 1) fun x29 ↦
              Option.bind (Store.app (Store.push (Prod.snd x27) [AV.int IntKind.i64 i22] 1) h24 1 8 x29 1) fun x30 ↦ some (Sum.inl ([AV.int IntKind.i64 (IntKind.wrap IntKind.i64 (i22 + 1)), AV.int IntKind.i64 i23, AV.slice (Prod.fst x30), AV.ptr p25, AV.int IntKind.i64 i26], Prod.snd x30))
          else some (Sum.inl ([AV.int IntKind.i64 (IntKind.wrap IntKind.i64 (i22 + 1)), AV.int IntKind.i64 i23, AV.slice h24, AV.ptr p25, AV.int IntKind.i64 i26], Prod.snd x27))
    else some (Sum.inr (AX.exit 2, [(8, AV.slice h24), (6, AV.ptr p25), (5, AV.int IntKind.i64 i26)], σ)) := by intros; kernel_rfl

theorem f48_X111111010_1 : ∀ (Γ : Gam) (k : Nat) (σ : Store) (h31 : Hdl) (p32 : Ptr) (i33 : Int),
  contF Try.prog Γ drawn k Try.f48 [(1 : Nat), (1 : Nat), (1 : Nat), (1 : Nat), (1 : Nat), (1 : Nat), (0 : Nat), (1 : Nat), (0 : Nat)] (AX.exit (2 : Nat), [((8 : Nat), AV.slice h31), ((6 : Nat), AV.ptr p32), ((5 : Nat), AV.int IntKind.i64 i33)], σ) =
    Option.bind (Γ (Fun.fn (69 : Nat)) [AV.ptr p32, AV.slice h31] σ) fun x34 ↦
      if ((0 : Int) ≤ i33 ∧ i33 ≤ i33) ∧ i33 * (↑(8 : Nat) : Int) ≤ (281474976710656 : Int) then
        Option.bind p32 fun x35 ↦
          Option.bind (Store.ldSl (Store.push (Prod.snd x34) (mkCells [AV.int IntKind.i64 (0 : Int)] (Int.toNat i33)) (1 : Nat)) (Ptr.add (some x35) (3 : Nat))) fun x36 ↦
            Option.bind
              (loopF Try.prog Γ drawn k Try.f48 [(1 : Nat), (1 : Nat), (1 : Nat), (1 : Nat), (1 : Nat), (1 : Nat), (1 : Nat), (1 : Nat), (1 : Nat), (1 : Nat), (0 : Nat), (1 : Nat), (0 : Nat)] [(104 : Nat), (103 : Nat), (102 : Nat), (12 : Nat), (11 : Nat), (10 : Nat), (8 : Nat), (6 : Nat)]
                ([AV.int IntKind.i64 (0 : Int), AV.int IntKind.i64 (↑(Hdl.len x36) : Int), AV.slice x36, AV.int IntKind.i64 (-1 : Int), AV.int IntKind.i64 (-1 : Int), AV.slice { a := some (List.length (Store.objs (Prod.snd x34)), (0 : Nat)), len := Int.toNat i33, cap := some (Int.toNat i33) }, AV.slice h31, AV.ptr p32],
                  Store.push (Prod.snd x34) (mkCells [AV.int IntKind.i64 (0 : Int)] (Int.toNat i33)) (1 : Nat)))
              (contF Try.prog Γ drawn k Try.f48 [(1 : Nat), (1 : Nat), (1 : Nat), (1 : Nat), (1 : Nat), (1 : Nat), (1 : Nat), (1 : Nat), (1 : Nat), (1 : Nat), (0 : Nat), (1 : Nat), (0 : Nat)])
      else none := by intros; kernel_rfl

theorem f48_L1111111111010 : ∀ (Γ : Gam) (k : Nat) (σ : Store) (i37 i38 : Int) (h39 : Hdl) (i40 i41 : Int) (h42 h43 : Hdl) (p44 : Ptr),
  stepF Try.prog Γ drawn k Try.f48 [1, 1, 1, 1, 1, 1, 1, 1, 1, 1, 0, 1, 0] [104, 103, 102, 12, 11, 10, 8, 6] ([AV.int IntKind.i64 i37, AV.int IntKind.i64 i38, AV.slice h39, AV.int IntKind.i64 i40, AV.int IntKind.i64 i41, AV.slice h42, AV.slice h43, AV.ptr p44], σ) =
    if decide (i37 < i38) = true then
      if 0 ≤ i37 ∧ i37 < (↑(Hdl.len h39) : Int) then
        Option.bind (Store.ldInt σ IntKind.i64 (Hdl.idx h39 i37 1)) fun x45 ↦
          Option.bind (Γ (Fun.fn 68) [AV.ptr p44, AV.int IntKind.i64 x45] σ) fun x46 ↦
            Option.bind (AV.asBool (Prod.fst x46)) fun x47 ↦
              if (!x47) = true then some (Sum.inl ([AV.int IntKind.i64 (IntKind.wrap IntKind.i64 (i37 + 1)), AV.int IntKind.i64 i38, AV.slice h39, AV.int IntKind.i64 i40, AV.int IntKind.i64 i41, AV.slice h42, AV.slice h43, AV.ptr p44], Prod.snd x46))
              else
                if decide (i40 < 0) = true then
                  if 0 ≤ x45 ∧ x45 < (↑(Hdl.len h42) : Int) then
                    Option.bind (Store.stL (Prod.snd x46) (Hdl.idx h42 x45 1) [AV.int IntKind.i64 (IntKind.wrap IntKind.i64 (i41 + 1))] 0) fun x48 ↦ some (Sum.inl ([AV.int IntKind.i64 (IntKind.wrap IntKind.i64 (i37 + 1)), AV.int IntKind.i64 i38, AV.slice h39, AV.int IntKind.i64 x45, AV.int IntKind.i64 (IntKind.wrap IntKind.i64 (i41 + 1)), AV.slice h42, AV.slice h43, AV.ptr p44], x48))
                  else none
                else
                  Option.bind (Γ (Fun.fn 70) [AV.ptr p44, AV.int IntKind.i64 i40, AV.int IntKind.i64 x45] (Prod.snd x46)) fun x49 ↦
                    Option.bind (AV.asBool (Prod.fst x49)) fun x50 ↦
                      if (!x50) = true then
                        if 0 ≤ x45 ∧ x45 < (↑(Hdl.len h42) : Int) then
                          Option.bind (Store.stL (Prod.snd x49) (Hdl.idx h42 x45 1) [AV.int IntKind.i64 (IntKind.wrap IntKind.i64 (i41 + 1))] 0) fun x51 ↦ some (Sum.inl ([AV.int IntKind.i64 (IntKind.wrap IntKind.i64 (i37 + 1)), AV.int IntKind.i64 i38, AV.slice h39, AV.int IntKind.i64 x45, AV.int IntKind.i64 (IntKind.wrap IntKind.i64 (i41 + 1)), AV.slice h42, AV.slice h43, AV.ptr p44], x51))
                        else none
                      else if 0 ≤ x45 ∧ x45 < (↑(Hdl.len h42) : Int) then Option.bind (Store.stL (Prod.snd x49) (Hdl.idx h42 x45 1) [AV.int IntKind.i64 i41] 0) fun x52 ↦ some (Sum.inl ([AV.int IntKind.i64 (IntKind.wrap IntKind.i64 (i37 + 1)), AV.int IntKind.i64 i38, AV.slice h39, AV.int IntKind.i64 x45, AV.int IntKind.i64 i41, AV.slice h42, AV.slice h43, AV.ptr p44], x52)) else none
      else none
    else some (Sum.inr (AX.exit 4, [(11, AV.int IntKind.i64 i41), (10, AV.slice h42), (8, AV.slice h43), (6, AV.ptr p44)], σ)) := by intros; kernel_rfl

theorem f48_X1111111111010_1 : ∀ (Γ : Gam) (k : Nat) (σ : Store) (i53 : Int) (h54 h55 : Hdl) (p56 : Ptr),
  contF Try.prog Γ drawn k Try.f48 [1, 1, 1, 1, 1, 1, 1, 1, 1, 1, 0, 1, 0] (AX.exit 4, [(11, AV.int IntKind.i64 i53), (10, AV.slice h54), (8, AV.slice h55), (6, AV.ptr p56)], σ) =
    Option.bind (loopF Try.prog Γ drawn k Try.f48 [1, 1, 1, 1, 1, 1, 1, 1, 1, 1, 1, 1, 0, 1, 0] [131, 130, 129, 15, 11, 10, 8, 6] ([AV.int IntKind.i64 0, AV.int IntKind.i64 (↑(Hdl.len h55) : Int), AV.slice h55, AV.slice Hdl.nil, AV.int IntKind.i64 i53, AV.slice h54, AV.slice h55, AV.ptr p56], σ)) (contF Try.prog Γ drawn k Try.f48 [1, 1, 1, 1, 1, 1, 1, 1, 1, 1, 1, 1, 0, 1, 0]) := by intros; kernel_rfl

theorem f48_L111111111111010 : ∀ (Γ : Gam) (k : Nat) (σ : Store) (i57 i58 : Int) (h59 h60 : Hdl) (i61 : Int) (h62 h63 : Hdl) (p64 : Ptr),
  stepF Try.prog Γ drawn k Try.f48 [1, 1, 1, 1, 1, 1, 1, 1, 1, 1, 1, 1, 0, 1, 0] [131, 130, 129, 15, 11, 10, 8, 6] ([AV.int IntKind.i64 i57, AV.int IntKind.i64 i58, AV.slice h59, AV.slice h60, AV.int IntKind.i64 i61, AV.slice h62, AV.slice h63, AV.ptr p64], σ) =
    if decide (i57 < i58) = true then
      if 0 ≤ i57 ∧ i57 < (↑(Hdl.len h59) : Int) then
        Option.bind (Store.ldInt σ IntKind.i64 (Hdl.idx h59 i57 1)) fun x65 ↦
          if 0 ≤ x65 ∧ x65 < (↑(Hdl.len h62) : Int) then
            Option.bind (Store.ldInt σ IntKind.i64 (Hdl.idx h62 x65 1)) fun x66 ↦
              Option.bind (Store.readSl (Store.push σ [AV.int IntKind.i64 x66] 1) { a := some (List.length (Store.objs σ), 0), len := 1, cap := some 1 } 1) fun x67 ↦
                Option.bind (Store.app (Store.push σ [AV.int IntKind.i64 x66] 1) h60 1 8 x67 1) fun x68 ↦ some (Sum.inl ([AV.int IntKind.i64 (IntKind.wrap IntKind.i64 (i57 + 1)), AV.int IntKind.i64 i58, AV.slice h59, AV.slice (Prod.fst x68), AV.int IntKind.i64 i61, AV.slice h62, AV.slice h63, AV.ptr p64], Prod.snd x68))
          else none
      else none
    else some (Sum.inr (AX.exit 6, [(15, AV.slice h60), (11, AV.int IntKind.i64 i61), (8, AV.slice h63), (6, AV.ptr p64)], σ)) := by intros; kernel_rfl

theorem f48_X111111111111010_1 : ∀ (Γ : Gam) (k : Nat) (σ : Store) (h69 : Hdl) (i70 : Int) (h71 : Hdl) (p72 : Ptr),
  contF Try.prog Γ drawn k Try.f48 [1, 1, 1, 1, 1, 1, 1, 1, 1, 1, 1, 1, 0, 1, 0] (AX.exit 6, [(15, AV.slice h69), (11, AV.int IntKind.i64 i70), (8, AV.slice h71), (6, AV.ptr p72)], σ) =
    Option.bind (Γ (Fun.fn 48) [AV.slice h69, AV.int IntKind.i64 (IntKind.wrap IntKind.i64 (i70 + 1))] σ) fun x73 ↦
      Option.bind (AV.asSl (Prod.fst x73)) fun x74 ↦
        Option.bind (loopF Try.prog Γ drawn k Try.f48 [1, 1, 1, 1, 1, 1, 1, 1, 1, 1, 1, 1, 1, 1, 0, 1, 0] [148, 147, 146, 18, 8, 6] ([AV.int IntKind.i64 0, AV.int IntKind.i64 (↑(Hdl.len x74) : Int), AV.slice x74, AV.slice Hdl.nil, AV.slice h71, AV.ptr p72], Prod.snd x73)) (contF Try.prog Γ drawn k Try.f48 [1, 1, 1, 1, 1, 1, 1, 1, 1, 1, 1, 1, 1, 1, 0, 1, 0]) := by intros; kernel_rfl

theorem f48_L11111111111111010 : ∀ (Γ : Gam) (k : Nat) (σ : Store) (i75 i76 : Int) (h77 h78 h79 : Hdl) (p80 : Ptr),
  stepF Try.prog Γ drawn k Try.f48 [1, 1, 1, 1, 1, 1, 1, 1, 1, 1, 1, 1, 1, 1, 0, 1, 0] [148, 147, 146, 18, 8, 6] ([AV.int IntKind.i64 i75, AV.int IntKind.i64 i76, AV.slice h77, AV.slice h78, AV.slice h79, AV.ptr p80], σ) =
    if decide (i75 < i76) = true then
      if 0 ≤ i75 ∧ i75 < (↑(Hdl.len h77) : Int) then
        Option.bind (Store.ldInt σ IntKind.i64 (Hdl.idx h77 i75 1)) fun x81 ↦
          if 0 ≤ x81 ∧ x81 < (↑(Hdl.len h79) : Int) then
            Option.bind (Store.ldInt σ IntKind.i64 (Hdl.idx h79 x81 1)) fun x82 ↦
              Option.bind (Store.readSl (Store.push σ [AV.int IntKind.i64 x82] 1) { a := some (List.length (Store.objs σ), 0), len := 1, cap := some 1 } 1) fun x83 ↦
                Option.bind (Store.app (Store.push σ [AV.int IntKind.i64 x82] 1) h78 1 8 x83 1) fun x84 ↦ some (Sum.inl ([AV.int IntKind.i64 (IntKind.wrap IntKind.i64 (i75 + 1)), AV.int IntKind.i64 i76, AV.slice h77, AV.slice (Prod.fst x84), AV.slice h79, AV.ptr p80], Prod.snd x84))
          else none
      else none
    else some (Sum.inr (AX.exit 8, [(18, AV.slice h78), (6, AV.ptr p80)], σ)) := by intros; kernel_rfl

theorem f48_X11111111111111010_1 : ∀ (Γ : Gam) (k : Nat) (σ : Store) (h85 : Hdl) (p86 : Ptr), contF Try.prog Γ drawn k Try.f48 [1, 1, 1, 1, 1, 1, 1, 1, 1, 1, 1, 1, 1, 1, 0, 1, 0] (AX.exit 8, [(18, AV.slice h85), (6, AV.ptr p86)], σ) = Option.bind (Γ (Fun.fn 69) [AV.ptr p86, AV.slice h85] σ) fun x87 ↦ Option.bind p86 fun x88 ↦ Option.bind (Store.ldSl (Prod.snd x87) (Ptr.add (some x88) 3)) fun x89 ↦ some (AV.slice x89, Prod.snd x87) := by intros; kernel_rfl

theorem f49_eq : ∀ (Γ : Gam) (k : Nat) (σ : Store) (h0 : Hdl),
  evBody Try.prog Γ drawn k Try.f49 [AV.slice h0] σ =
    if ((0 : Int) ≤ (↑(Hdl.len h0) : Int) ∧ (↑(Hdl.len h0) : Int) ≤ (↑(Hdl.len h0) : Int)) ∧ (↑(Hdl.len h0) : Int) * (↑(8 : Nat) : Int) ≤ (281474976710656 : Int) then
      Option.bind
        (loopF Try.prog Γ drawn k Try.f49 [(1 : Nat), (1 : Nat), (0 : Nat), (1 : Nat), (0 : Nat)] [(13 : Nat), (12 : Nat), (4 : Nat), (0 : Nat)]
          ([AV.int IntKind.i64 (0 : Int), AV.int IntKind.i64 (↑(Int.toNat (↑(Hdl.len h0) : Int)) : Int), AV.slice { a := some (List.length (Store.objs σ), (0 : Nat)), len := Int.toNat (↑(Hdl.len h0) : Int), cap := some (Int.toNat (↑(Hdl.len h0) : Int)) }, AV.slice h0], Store.push σ (mkCells [AV.int IntKind.i64 (0 : Int)] (Int.toNat (↑(Hdl.len h0) : Int))) (1 : Nat)))
        (contF Try.prog Γ drawn k Try.f49 [(1 : Nat), (1 : Nat), (0 : Nat), (1 : Nat), (0 : Nat)])
    else none := by intros; kernel_rfl

theorem f49_L11010 : ∀ (Γ : Gam) (k : Nat) (σ : Store) (i1 i2 : Int) (h3 h4 : Hdl),
  stepF Try.prog Γ drawn k Try.f49 [1, 1, 0, 1, 0] [13, 12, 4, 0] ([AV.int IntKind.i64 i1, AV.int IntKind.i64 i2, AV.slice h3, AV.slice h4], σ) =
    if decide (i1 < i2) = true then if 0 ≤ i1 ∧ i1 < (↑(Hdl.len h3) : Int) then Option.bind (Store.stL σ (Hdl.idx h3 i1 1) [AV.int IntKind.i64 (-1)] 0) fun x5 ↦ some (Sum.inl ([AV.int IntKind.i64 (IntKind.wrap IntKind.i64 (i1 + 1)), AV.int IntKind.i64 i2, AV.slice h3, AV.slice h4], x5)) else none else some (Sum.inr (AX.exit 0, [(4, AV.slice h3), (0, AV.slice h4)], σ)) := by intros; kernel_rfl

theorem f49_X11010_1 : ∀ (Γ : Gam) (k : Nat) (σ : Store) (h6 h7 : Hdl), contF Try.prog Γ drawn k Try.f49 [1, 1, 0, 1, 0] (AX.exit 0, [(4, AV.slice h6), (0, AV.slice h7)], σ) = Option.bind (loopF Try.prog Γ drawn k Try.f49 [1, 1, 1, 0, 1, 0] [22, 21, 20, 4, 0] ([AV.int IntKind.i64 0, AV.int IntKind.i64 (↑(Hdl.len h7) : Int), AV.slice h7, AV.slice h6, AV.slice h7], σ)) (contF Try.prog Γ drawn k Try.f49 [1, 1, 1, 0, 1, 0]) := by intros; kernel_rfl

theorem f49_L111010 : ∀ (Γ : Gam) (k : Nat) (σ : Store) (i8 i9 : Int) (h10 h11 h12 : Hdl),
  stepF Try.prog Γ drawn k Try.f49 [1, 1, 1, 0, 1, 0] [22, 21, 20, 4, 0] ([AV.int IntKind.i64 i8, AV.int IntKind.i64 i9, AV.slice h10, AV.slice h11, AV.slice h12], σ) =
    if decide (i8 < i9) = true then
      if 0 ≤ i8 ∧ i8 < (↑(Hdl.len h10) : Int) then
        Option.bind (Store.ldInt σ IntKind.i64 (Hdl.idx h10 i8 1)) fun x13 ↦
          if decide (x13 < 0) = true then some (Sum.inr (AX.ret, [(3, AV.int IntKind.i64 2), (2, AV.slice Hdl.nil)], σ))
          else
            if decide ((↑(Hdl.len h12) : Int) ≤ x13) = true then some (Sum.inr (AX.ret, [(3, AV.int IntKind.i64 2), (2, AV.slice Hdl.nil)], σ))
            else
              if 0 ≤ x13 ∧ x13 < (↑(Hdl.len h11) : Int) then
                Option.bind (Store.ldInt σ IntKind.i64 (Hdl.idx h11 x13 1)) fun x14 ↦
                  if decide (0 ≤ x14) = true then some (Sum.inr (AX.ret, [(3, AV.int IntKind.i64 2), (2, AV.slice Hdl.nil)], σ))
                  else if 0 ≤ x13 ∧ x13 < (↑(Hdl.len h11) : Int) then Option.bind (Store.stL σ (Hdl.idx h11 x13 1) [AV.int IntKind.i64 i8] 0) fun x15 ↦ some (Sum.inl ([AV.int IntKind.i64 (IntKind.wrap IntKind.i64 (i8 + 1)), AV.int IntKind.i64 i9, AV.slice h10, AV.slice h11, AV.slice h12], x15)) else none
              else none
      else none
    else some (Sum.inr (AX.exit 2, [(4, AV.slice h11)], σ)) := by intros; kernel_rfl

theorem f49_X111010_1 : ∀ (Γ : Gam) (k : Nat) (σ : Store) (i16 : Int) (h17 : Hdl), contF Try.prog Γ drawn k Try.f49 [1, 1, 1, 0, 1, 0] (AX.ret, [(3, AV.int IntKind.i64 i16), (2, AV.slice h17)], σ) = some (AV.tuple [AV.slice h17, AV.int IntKind.i64 i16], σ) := by intros; kernel_rfl

theorem f49_X111010_2 : ∀ (Γ : Gam) (k : Nat) (σ : Store) (h18 : Hdl), contF Try.prog Γ drawn k Try.f49 [1, 1, 1, 0, 1, 0] (AX.exit 2, [(4, AV.slice h18)], σ) = some (AV.tuple [AV.slice h18, AV.int IntKind.i64 0], σ) := by intros; kernel_rfl

theorem f50_eq : ∀ (Γ : Gam) (k : Nat) (σ : Store) (i0 : Int) (p1 : Ptr), evBody Try.prog Γ drawn k Try.f50 [AV.int IntKind.i64 i0, AV.ptr p1] σ = if decide (i0 < 0) = true then some (AV.bool true, σ) else Option.bind (Store.ldInt σ IntKind.i64 p1) fun x2 ↦ some (AV.bool (decide (x2 ≤ i0)), σ) := by intros; kernel_rfl

theorem f51_eq : ∀ (Γ : Gam) (k : Nat) (σ : Store) (i0 : Int) (p1 : Ptr), evBody Try.prog Γ drawn k Try.f51 [AV.int IntKind.i64 i0, AV.ptr p1] σ = if decide (i0 < 0) = true then some (AV.bool true, σ) else Option.bind (Store.ldInt σ IntKind.i64 p1) fun x2 ↦ some (AV.bool (decide (x2 < i0)), σ) := by intros; kernel_rfl

theorem f52_eq : ∀ (Γ : Gam) (k : Nat) (σ : Store) (h0 : Hdl),
  evBody Try.prog Γ drawn k Try.f52 [AV.slice h0] σ = if Option.isNone (Hdl.a h0) = true then some (AV.slice Hdl.nil, σ) else Option.bind (Store.readSl (Store.push σ [] 1) h0 1) fun x1 ↦ Option.bind (Store.app (Store.push σ [] 1) { a := some (List.length (Store.objs σ), 0), len := 0, cap := some 0 } 1 8 x1 (Hdl.len h0)) fun x2 ↦ some (AV.slice (Prod.fst x2), Prod.snd x2) := by intros; kernel_rfl

theorem f53_eq : ∀ (Γ : Gam) (k : Nat) (σ : Store) (i0 i1 : Int), evBody Try.prog Γ drawn k Try.f53 [AV.int IntKind.i64 i0, AV.int IntKind.i64 i1] σ = some (AV.int IntKind.i64 (IntKind.wrap IntKind.i64 (Int.tdiv (IntKind.wrap IntKind.i64 (IntKind.wrap IntKind.i64 (i0 * i1) + 63)) 64)), σ) := by intros; kernel_rfl

theorem f54_eq : ∀ (Γ : Gam) (k : Nat) (σ : Store) (i0 : Int),
  evBody Try.prog Γ drawn k Try.f54 [AV.int IntKind.u64 i0] σ =
    if decide (4294967296 ≤ i0) = true then
      if decide (65536 ≤ shrI IntKind.u64 i0 32) = true then
        if decide (256 ≤ shrI IntKind.u64 (shrI IntKind.u64 i0 32) 16) = true then
          if 0 ≤ IntKind.wrap IntKind.u8 (shrI IntKind.u64 (shrI IntKind.u64 (shrI IntKind.u64 i0 32) 16) 8) then
            Option.bind
              (strAt
                len8tab
                (Int.toNat (IntKind.wrap IntKind.u8 (shrI IntKind.u64 (shrI IntKind.u64 (shrI IntKind.u64 i0 32) 16) 8))))
              fun x1 ↦ some (AV.int IntKind.i64 (IntKind.wrap IntKind.i64 (IntKind.wrap IntKind.i64 (IntKind.wrap IntKind.i64 (32 + 16) + 8) + IntKind.wrap IntKind.i64 x1)), σ)
          else none
        else
          if 0 ≤ IntKind.wrap IntKind.u8 (shrI IntKind.u64 (shrI IntKind.u64 i0 32) 16) then
            Option.bind
              (strAt
                len8tab
                (Int.toNat (IntKind.wrap IntKind.u8 (shrI IntKind.u64 (shrI IntKind.u64 i0 32) 16))))
              fun x2 ↦ some (AV.int IntKind.i64 (IntKind.wrap IntKind.i64 (IntKind.wrap IntKind.i64 (32 + 16) + IntKind.wrap IntKind.i64 x2)), σ)
          else none
      else
        if decide (256 ≤ shrI IntKind.u64 i0 32) = true then
          if 0 ≤ IntKind.wrap IntKind.u8 (shrI IntKind.u64 (shrI IntKind.u64 i0 32) 8) then
            Option.bind
              (strAt
                len8tab
                (Int.toNat (IntKind.wrap IntKind.u8 (shrI IntKind.u64 (shrI IntKind.u64 i0 32) 8))))
              fun x3 ↦ some (AV.int IntKind.i64 (IntKind.wrap IntKind.i64 (IntKind.wrap IntKind.i64 (32 + 8) + IntKind.wrap IntKind.i64 x3)), σ)
          else none
        else
          if 0 ≤ IntKind.wrap IntKind.u8 (shrI IntKind.u64 i0 32) then
            Option.bind
              (strAt
                len8tab
                (Int.toNat (IntKind.wrap IntKind.u8 (shrI IntKind.u64 i0 32))))
              fun x4 ↦ some (AV.int IntKind.i64 (IntKind.wrap IntKind.i64 (32 + IntKind.wrap IntKind.i64 x4)), σ)
          else none
    else
      if decide (65536 ≤ i0) = true then
        if decide (256 ≤ shrI IntKind.u64 i0 16) = true then
          if 0 ≤ IntKind.wrap IntKind.u8 (shrI IntKind.u64 (shrI IntKind.u64 i0 16) 8) then
            Option.bind
              (strAt
                len8tab
                (Int.toNat (IntKind.wrap IntKind.u8 (shrI IntKind.u64 (shrI IntKind.u64 i0 16) 8))))
              fun x5 ↦ some (AV.int IntKind.i64 (IntKind.wrap IntKind.i64 (IntKind.wrap IntKind.i64 (IntKind.wrap IntKind.i64 (0 + 16) + 8) + IntKind.wrap IntKind.i64 x5)), σ)
          else none
        else
          if 0 ≤ IntKind.wrap IntKind.u8 (shrI IntKind.u64 i0 16) then
            Option.bind
              (strAt
                len8tab
                (Int.toNat (IntKind.wrap IntKind.u8 (shrI IntKind.u64 i0 16))))
              fun x6 ↦ some (AV.int IntKind.i64 (IntKind.wrap IntKind.i64 (IntKind.wrap IntKind.i64 (0 + 16) + IntKind.wrap IntKind.i64 x6)), σ)
          else none
      else
        if decide (256 ≤ i0) = true then
          if 0 ≤ IntKind.wrap IntKind.u8 (shrI IntKind.u64 i0 8) then
            Option.bind
              (strAt
                len8tab
                (Int.toNat (IntKind.wrap IntKind.u8 (shrI IntKind.u64 i0 8))))
              fun x7 ↦ some (AV.int IntKind.i64 (IntKind.wrap IntKind.i64 (IntKind.wrap IntKind.i64 (0 + 8) + IntKind.wrap IntKind.i64 x7)), σ)
          else none
        else
          if 0 ≤ IntKind.wrap IntKind.u8 i0 then
            Option.bind
              (strAt
                len8tab
                (Int.toNat (IntKind.wrap IntKind.u8 i0)))
              fun x8 ↦ some (AV.int IntKind.i64 (IntKind.wrap IntKind.i64 (0 + IntKind.wrap IntKind.i64 x8)), σ)
          else none := by intros; kernel_rfl

theorem f55_eq : ∀ (Γ : Gam) (k : Nat) (σ : Store) (i0 : Int), evBody Try.prog Γ drawn k Try.f55 [AV.int IntKind.i64 i0] σ = if 0 ≤ IntKind.wrap IntKind.i64 (64 - i0) then some (AV.int IntKind.u64 (shrI IntKind.u64 18446744073709551615 (IntKind.wrap IntKind.i64 (64 - i0))), σ) else none := by intros; kernel_rfl

theorem f56_eq : ∀ (Γ : Gam) (k : Nat) (σ : Store) (p0 : Ptr), evBody Try.prog Γ drawn k Try.f56 [AV.ptr p0] σ = if Option.isNone p0 = true then some (AV.int IntKind.i64 0, σ) else Option.bind p0 fun x1 ↦ Option.bind (Store.ldInt σ IntKind.i64 (Ptr.add (some x1) 0)) fun x2 ↦ some (AV.int IntKind.i64 x2, σ) := by intros; kernel_rfl

theorem f57_eq : ∀ (Γ : Gam) (k : Nat) (σ : Store) (p0 : Ptr), evBody Try.prog Γ drawn k Try.f57 [AV.ptr p0] σ = if Option.isNone p0 = true then some (AV.int IntKind.i64 0, σ) else Option.bind p0 fun x1 ↦ Option.bind (Store.ldInt σ IntKind.i64 (Ptr.add (some x1) 1)) fun x2 ↦ some (AV.int IntKind.i64 x2, σ) := by intros; kernel_rfl

theorem f58_eq : ∀ (Γ : Gam) (k : Nat) (σ : Store) (p0 : Ptr), evBody Try.prog Γ drawn k Try.f58 [AV.ptr p0] σ = if Option.isNone p0 = true then some (AV.slice Hdl.nil, σ) else Option.bind p0 fun x1 ↦ Option.bind (Store.ldSl σ (Ptr.add (some x1) 2)) fun x2 ↦ Option.bind (Γ (Fun.fn 71) [AV.slice x2] σ) fun x3 ↦ Option.bind (AV.asSl (Prod.fst x3)) fun x4 ↦ some (AV.slice x4, Prod.snd x3) := by intros; kernel_rfl

theorem f59_eq : ∀ (Γ : Gam) (k : Nat) (σ : Store) (i0 : Int),
  evBody Try.prog Γ drawn k Try.f59 [AV.int IntKind.u64 i0] σ =
    some
      (AV.int IntKind.i64
          (bitOp BinOp.and IntKind.i64
            (IntKind.wrap IntKind.i64
              (IntKind.wrap IntKind.u64
                (IntKind.wrap IntKind.u64
                    (IntKind.wrap IntKind.u64
                        (bitOp BinOp.and IntKind.u64
                            (IntKind.wrap IntKind.u64
                              (shrI IntKind.u64
                                  (IntKind.wrap IntKind.u64
                                    (bitOp BinOp.and IntKind.u64 (shrI IntKind.u64 (IntKind.wrap IntKind.u64 (bitOp BinOp.and IntKind.u64 (shrI IntKind.u64 i0 1) 6148914691236517205 + bitOp BinOp.and IntKind.u64 i0 6148914691236517205)) 2) 3689348814741910323 +
                                      bitOp BinOp.and IntKind.u64 (IntKind.wrap IntKind.u64 (bitOp BinOp.and IntKind.u64 (shrI IntKind.u64 i0 1) 6148914691236517205 + bitOp BinOp.and IntKind.u64 i0 6148914691236517205)) 3689348814741910323))
                                  4 +
                                IntKind.wrap IntKind.u64
                                  (bitOp BinOp.and IntKind.u64 (shrI IntKind.u64 (IntKind.wrap IntKind.u64 (bitOp BinOp.and IntKind.u64 (shrI IntKind.u64 i0 1) 6148914691236517205 + bitOp BinOp.and IntKind.u64 i0 6148914691236517205)) 2) 3689348814741910323 +
                                    bitOp BinOp.and IntKind.u64 (IntKind.wrap IntKind.u64 (bitOp BinOp.and IntKind.u64 (shrI IntKind.u64 i0 1) 6148914691236517205 + bitOp BinOp.and IntKind.u64 i0 6148914691236517205)) 3689348814741910323)))
                            1085102592571150095 +
                          shrI IntKind.u64
                            (bitOp BinOp.and IntKind.u64
                              (IntKind.wrap IntKind.u64
                                (shrI IntKind.u64
                                    (IntKind.wrap IntKind.u64
                                      (bitOp BinOp.and IntKind.u64 (shrI IntKind.u64 (IntKind.wrap IntKind.u64 (bitOp BinOp.and IntKind.u64 (shrI IntKind.u64 i0 1) 6148914691236517205 + bitOp BinOp.and IntKind.u64 i0 6148914691236517205)) 2) 3689348814741910323 +
                                        bitOp BinOp.and IntKind.u64 (IntKind.wrap IntKind.u64 (bitOp BinOp.and IntKind.u64 (shrI IntKind.u64 i0 1) 6148914691236517205 + bitOp BinOp.and IntKind.u64 i0 6148914691236517205)) 3689348814741910323))
                                    4 +
                                  IntKind.wrap IntKind.u64
                                    (bitOp BinOp.and IntKind.u64 (shrI IntKind.u64 (IntKind.wrap IntKind.u64 (bitOp BinOp.and IntKind.u64 (shrI IntKind.u64 i0 1) 6148914691236517205 + bitOp BinOp.and IntKind.u64 i0 6148914691236517205)) 2) 3689348814741910323 +
                                      bitOp BinOp.and IntKind.u64 (IntKind.wrap IntKind.u64 (bitOp BinOp.and IntKind.u64 (shrI IntKind.u64 i0 1) 6148914691236517205 + bitOp BinOp.and IntKind.u64 i0 6148914691236517205)) 3689348814741910323)))
                              1085102592571150095)
                            8) +
                      shrI IntKind.u64
                        (IntKind.wrap IntKind.u64
                          (bitOp BinOp.and IntKind.u64
                              (IntKind.wrap IntKind.u64
                                (shrI IntKind.u64
                                    (IntKind.wrap IntKind.u64
                                      (bitOp BinOp.and IntKind.u64 (shrI IntKind.u64 (IntKind.wrap IntKind.u64 (bitOp BinOp.and IntKind.u64 (shrI IntKind.u64 i0 1) 6148914691236517205 + bitOp BinOp.and IntKind.u64 i0 6148914691236517205)) 2) 3689348814741910323 +
                                        bitOp BinOp.and IntKind.u64 (IntKind.wrap IntKind.u64 (bitOp BinOp.and IntKind.u64 (shrI IntKind.u64 i0 1) 6148914691236517205 + bitOp BinOp.and IntKind.u64 i0 6148914691236517205)) 3689348814741910323))
                                    4 +
                                  IntKind.wrap IntKind.u64
                                    (bitOp BinOp.and IntKind.u64 (shrI IntKind.u64 (IntKind.wrap IntKind.u64 (bitOp BinOp.and IntKind.u64 (shrI IntKind.u64 i0 1) 6148914691236517205 + bitOp BinOp.and IntKind.u64 i0 6148914691236517205)) 2) 3689348814741910323 +
                                      bitOp BinOp.and IntKind.u64 (IntKind.wrap IntKind.u64 (bitOp BinOp.and IntKind.u64 (shrI IntKind.u64 i0 1) 6148914691236517205 + bitOp BinOp.and IntKind.u64 i0 6148914691236517205)) 3689348814741910323)))
                              1085102592571150095 +
                            shrI IntKind.u64
                              (bitOp BinOp.and IntKind.u64
                                (IntKind.wrap IntKind.u64
                                  (shrI IntKind.u64
                                      (IntKind.wrap IntKind.u64
                                        (bitOp BinOp.and IntKind.u64 (shrI IntKind.u64 (IntKind.wrap IntKind.u64 (bitOp BinOp.and IntKind.u64 (shrI IntKind.u64 i0 1) 6148914691236517205 + bitOp BinOp.and IntKind.u64 i0 6148914691236517205)) 2) 3689348814741910323 +
                                          bitOp BinOp.and IntKind.u64 (IntKind.wrap IntKind.u64 (bitOp BinOp.and IntKind.u64 (shrI IntKind.u64 i0 1) 6148914691236517205 + bitOp BinOp.and IntKind.u64 i0 6148914691236517205)) 3689348814741910323))
                                      4 +
                                    IntKind.wrap IntKind.u64
                                      (bitOp BinOp.and IntKind.u64 (shrI IntKind.u64 (IntKind.wrap IntKind.u64 (bitOp BinOp.and IntKind.u64 (shrI IntKind.u64 i0 1) 6148914691236517205 + bitOp BinOp.and IntKind.u64 i0 6148914691236517205)) 2) 3689348814741910323 +
                                        bitOp BinOp.and IntKind.u64 (IntKind.wrap IntKind.u64 (bitOp BinOp.and IntKind.u64 (shrI IntKind.u64 i0 1) 6148914691236517205 + bitOp BinOp.and IntKind.u64 i0 6148914691236517205)) 3689348814741910323)))
                                1085102592571150095)
                              8))
                        16) +
                  shrI IntKind.u64
                    (IntKind.wrap IntKind.u64
                      (IntKind.wrap IntKind.u64
                          (bitOp BinOp.and IntKind.u64
                              (IntKind.wrap IntKind.u64
                                (shrI IntKind.u64
                                    (IntKind.wrap IntKind.u64
                                      (bitOp BinOp.and IntKind.u64 (shrI IntKind.u64 (IntKind.wrap IntKind.u64 (bitOp BinOp.and IntKind.u64 (shrI IntKind.u64 i0 1) 6148914691236517205 + bitOp BinOp.and IntKind.u64 i0 6148914691236517205)) 2) 3689348814741910323 +
                                        bitOp BinOp.and IntKind.u64 (IntKind.wrap IntKind.u64 (bitOp BinOp.and IntKind.u64 (shrI IntKind.u64 i0 1) 6148914691236517205 + bitOp BinOp.and IntKind.u64 i0 6148914691236517205)) 3689348814741910323))
                                    4 +
                                  IntKind.wrap IntKind.u64
                                    (bitOp BinOp.and IntKind.u64 (shrI IntKind.u64 (IntKind.wrap IntKind.u64 (bitOp BinOp.and IntKind.u64 (shrI IntKind.u64 i0 1) 6148914691236517205 + bitOp BinOp.and IntKind.u64 i0 6148914691236517205)) 2) 3689348814741910323 +
                                      bitOp BinOp.and IntKind.u64 (IntKind.wrap IntKind.u64 (bitOp BinOp.and IntKind.u64 (shrI IntKind.u64 i0 1) 6148914691236517205 + bitOp BinOp.and IntKind.u64 i0 6148914691236517205)) 3689348814741910323)))
                              1085102592571150095 +
                            shrI IntKind.u64
                              (bitOp BinOp.and IntKind.u64
                                (IntKind.wrap IntKind.u64
                                  (shrI IntKind.u64
                                      (IntKind.wrap IntKind.u64
                                        (bitOp BinOp.and IntKind.u64 (shrI IntKind.u64 (IntKind.wrap IntKind.u64 (bitOp BinOp.and IntKind.u64 (shrI IntKind.u64 i0 1) 6148914691236517205 + bitOp BinOp.and IntKind.u64 i0 6148914691236517205)) 2) 3689348814741910323 +
                                          bitOp BinOp.and IntKind.u64 (IntKind.wrap IntKind.u64 (bitOp BinOp.and IntKind.u64 (shrI IntKind.u64 i0 1) 6148914691236517205 + bitOp BinOp.and IntKind.u64 i0 6148914691236517205)) 3689348814741910323))
                                      4 +
                                    IntKind.wrap IntKind.u64
                                      (bitOp BinOp.and IntKind.u64 (shrI IntKind.u64 (IntKind.wrap IntKind.u64 (bitOp BinOp.and IntKind.u64 (shrI IntKind.u64 i0 1) 6148914691236517205 + bitOp BinOp.and IntKind.u64 i0 6148914691236517205)) 2) 3689348814741910323 +
                                        bitOp BinOp.and IntKind.u64 (IntKind.wrap IntKind.u64 (bitOp BinOp.and IntKind.u64 (shrI IntKind.u64 i0 1) 6148914691236517205 + bitOp BinOp.and IntKind.u64 i0 6148914691236517205)) 3689348814741910323)))
                                1085102592571150095)
                              8) +
                        shrI IntKind.u64
                          (IntKind.wrap IntKind.u64
                            (bitOp BinOp.and IntKind.u64
                                (IntKind.wrap IntKind.u64
                                  (shrI IntKind.u64
                                      (IntKind.wrap IntKind.u64
                                        (bitOp BinOp.and IntKind.u64 (shrI IntKind.u64 (IntKind.wrap IntKind.u64 (bitOp BinOp.and IntKind.u64 (shrI IntKind.u64 i0 1) 6148914691236517205 + bitOp BinOp.and IntKind.u64 i0 6148914691236517205)) 2) 3689348814741910323 +
                                          bitOp BinOp.and IntKind.u64 (IntKind.wrap IntKind.u64 (bitOp BinOp.and IntKind.u64 (shrI IntKind.u64 i0 1) 6148914691236517205 + bitOp BinOp.and IntKind.u64 i0 6148914691236517205)) 3689348814741910323))
                                      4 +
                                    IntKind.wrap IntKind.u64
                                      (bitOp BinOp.and IntKind.u64 (shrI IntKind.u64 (IntKind.wrap IntKind.u64 (bitOp BinOp.and IntKind.u64 (shrI IntKind.u64 i0 1) 6148914691236517205 + bitOp BinOp.and IntKind.u64 i0 6148914691236517205)) 2) 3689348814741910323 +
                                        bitOp BinOp.and IntKind.u64 (IntKind.wrap IntKind.u64 (bitOp BinOp.and IntKind.u64 (shrI IntKind.u64 i0 1) 6148914691236517205 + bitOp BinOp.and IntKind.u64 i0 6148914691236517205)) 3689348814741910323)))
                                1085102592571150095 +
                              shrI IntKind.u64
                                (bitOp BinOp.and IntKind.u64
                                  (IntKind.wrap IntKind.u64
                                    (shrI IntKind.u64
                                        (IntKind.wrap IntKind.u64
                                          (bitOp BinOp.and IntKind.u64 (shrI IntKind.u64 (IntKind.wrap IntKind.u64 (bitOp BinOp.and IntKind.u64 (shrI IntKind.u64 i0 1) 6148914691236517205 + bitOp BinOp.and IntKind.u64 i0 6148914691236517205)) 2) 3689348814741910323 +
                                            bitOp BinOp.and IntKind.u64 (IntKind.wrap IntKind.u64 (bitOp BinOp.and IntKind.u64 (shrI IntKind.u64 i0 1) 6148914691236517205 + bitOp BinOp.and IntKind.u64 i0 6148914691236517205)) 3689348814741910323))
                                        4 +
                                      IntKind.wrap IntKind.u64
                                        (bitOp BinOp.and IntKind.u64 (shrI IntKind.u64 (IntKind.wrap IntKind.u64 (bitOp BinOp.and IntKind.u64 (shrI IntKind.u64 i0 1) 6148914691236517205 + bitOp BinOp.and IntKind.u64 i0 6148914691236517205)) 2) 3689348814741910323 +
                                          bitOp BinOp.and IntKind.u64 (IntKind.wrap IntKind.u64 (bitOp BinOp.and IntKind.u64 (shrI IntKind.u64 i0 1) 6148914691236517205 + bitOp BinOp.and IntKind.u64 i0 6148914691236517205)) 3689348814741910323)))
                                  1085102592571150095)
                                8))
                          16))
                    32)))
            127),
        σ) := by intros; kernel_rfl

theorem f60_eq : ∀ (Γ : Gam) (k : Nat) (σ : Store) (y0 : Nat) (p1 : Ptr), evBody Try.prog Γ drawn k Try.f60 [AV.yld y0, AV.ptr p1] σ = Option.bind (Store.ldSl σ p1) fun x2 ↦ Option.bind (loopF Try.prog Γ drawn k Try.f60 [1, 0] [3, 1, 0] ([AV.int IntKind.i64 (IntKind.wrap IntKind.i64 ((↑(Hdl.len x2) : Int) - 1)), AV.ptr p1, AV.yld y0], σ)) (contF Try.prog Γ drawn k Try.f60 [1, 0]) := by intros; kernel_rfl

theorem f60_L10 : ∀ (Γ : Gam) (k : Nat) (σ : Store) (i3 : Int) (p4 : Ptr) (y5 : Nat),
  stepF Try.prog Γ drawn k Try.f60 [1, 0] [3, 1, 0] ([AV.int IntKind.i64 i3, AV.ptr p4, AV.yld y5], σ) =
    if decide (0 ≤ i3) = true then
      Option.bind (Store.ldSl σ p4) fun x6 ↦
        if 0 ≤ i3 ∧ i3 < (↑(Hdl.len x6) : Int) then
          Option.bind (Store.ldInt σ IntKind.i64 (Hdl.idx x6 i3 1)) fun x7 ↦ Option.bind (Γ (Fun.yl y5) [AV.int IntKind.i64 i3, AV.int IntKind.i64 x7] σ) fun x8 ↦ Option.bind (AV.asBool (Prod.fst x8)) fun x9 ↦ if (!x9) = true then some (Sum.inr (AX.ret, [], Prod.snd x8)) else some (Sum.inl ([AV.int IntKind.i64 (IntKind.wrap IntKind.i64 (i3 - 1)), AV.ptr p4, AV.yld y5], Prod.snd x8))
        else none
    else some (Sum.inr (AX.exit 0, [], σ)) := by intros; kernel_rfl

theorem f60_X10_1 : ∀ (Γ : Gam) (k : Nat) (σ : Store), contF Try.prog Γ drawn k Try.f60 [1, 0] (AX.ret, [], σ) = some (AV.tuple [], σ) := by intros; kernel_rfl

theorem f60_X10_2 : ∀ (Γ : Gam) (k : Nat) (σ : Store), contF Try.prog Γ drawn k Try.f60 [1, 0] (AX.exit 0, [], σ) = some (AV.tuple [], σ) := by intros; kernel_rfl

theorem f63_eq : ∀ (Γ : Gam) (k : Nat) (σ : Store) (p0 : Ptr), evBody Try.prog Γ drawn k Try.f63 [AV.ptr p0] σ = if Option.isNone p0 = true then some (AV.int IntKind.i64 0, σ) else Option.bind p0 fun x1 ↦ Option.bind (Store.ldInt σ IntKind.i64 (Ptr.add (some x1) 0)) fun x2 ↦ some (AV.int IntKind.i64 x2, σ) := by intros; kernel_rfl

theorem f64_eq : ∀ (Γ : Gam) (k : Nat) (σ : Store) (p0 : Ptr) (i1 : Int) (b2 : Bool),
  evBody Try.prog Γ drawn k Try.f64 [AV.ptr p0, AV.int IntKind.i64 i1, AV.bool b2] σ =
    if b2 = true then
      Option.bind (Γ (Fun.fn 83) [AV.ptr p0] σ) fun x3 ↦
        Option.bind (AV.asInt IntKind.i64 (Prod.fst x3)) fun x4 ↦
          Option.bind (Γ (Fun.fn 82) [AV.ptr p0, AV.int IntKind.i64 x4] (Prod.snd x3)) fun x5 ↦ Option.bind (AV.asInt IntKind.i64 (Prod.fst x5)) fun x6 ↦ Option.bind (Γ (Fun.fn 43) [AV.ptr p0, AV.int IntKind.i64 i1] (Prod.snd x5)) fun x7 ↦ Option.bind (AV.asInt IntKind.i64 (Prod.fst x7)) fun x8 ↦ some (AV.int IntKind.i64 (IntKind.wrap IntKind.i64 (x6 + x8)), Prod.snd x7)
    else Option.bind (Γ (Fun.fn 82) [AV.ptr p0, AV.int IntKind.i64 i1] σ) fun x9 ↦ Option.bind (AV.asInt IntKind.i64 (Prod.fst x9)) fun x10 ↦ some (AV.int IntKind.i64 x10, Prod.snd x9) := by intros; kernel_rfl

theorem f65_eq : ∀ (Γ : Gam) (k : Nat) (σ : Store) (p0 : Ptr) (i1 : Int),
  evBody Try.prog Γ drawn k Try.f65 [AV.ptr p0, AV.int IntKind.i64 i1] σ = if (!Option.isNone p0) = true then if decide (0 ≤ i1) = true then Option.bind p0 fun x2 ↦ Option.bind (Store.ldInt σ IntKind.i64 (Ptr.add (some x2) 1)) fun x3 ↦ if 0 ≤ x3 then some (AV.bool (decide (shrI IntKind.i64 i1 x3 = 0)), σ) else none else some (AV.bool false, σ) else some (AV.bool false, σ) := by intros; kernel_rfl

theorem f66_eq : ∀ (Γ : Gam) (k : Nat) (σ : Store) (p0 : Ptr) (i1 i2 : Int),
  evBody Try.prog Γ drawn k Try.f66 [AV.ptr p0, AV.int IntKind.i64 i1, AV.int IntKind.i64 i2] σ =
    Option.bind p0 fun x3 ↦ Option.bind (Store.ldSl σ (Ptr.add (some x3) 2)) fun x4 ↦ Option.bind (loopF Try.prog Γ drawn k Try.f66 [1, 1, 0, 1, 0] [17, 16, 15, 8, 2, 1, 0] ([AV.int IntKind.i64 0, AV.int IntKind.i64 (↑(Hdl.len x4) : Int), AV.slice x4, AV.int IntKind.i64 0, AV.int IntKind.i64 i2, AV.int IntKind.i64 i1, AV.ptr p0], σ)) (contF Try.prog Γ drawn k Try.f66 [1, 1, 0, 1, 0]) := by intros; kernel_rfl

theorem f66_L11010 : ∀ (Γ : Gam) (k : Nat) (σ : Store) (i5 i6 : Int) (h7 : Hdl) (i8 i9 i10 : Int) (p11 : Ptr),
  stepF Try.prog Γ drawn k Try.f66 [1, 1, 0, 1, 0] [17, 16, 15, 8, 2, 1, 0] ([AV.int IntKind.i64 i5, AV.int IntKind.i64 i6, AV.slice h7, AV.int IntKind.i64 i8, AV.int IntKind.i64 i9, AV.int IntKind.i64 i10, AV.ptr p11], σ) =
    if decide (i5 < i6) = true then
      if 0 ≤ i5 ∧ i5 < (↑(Hdl.len h7) : Int) then
        Option.bind (Store.ldPtr σ (Hdl.idx h7 i5 1)) fun x12 ↦
          Option.bind p11 fun x13 ↦
            Option.bind (Store.ldInt σ IntKind.i64 (Ptr.add (some x13) 1)) fun x14 ↦
              if 0 ≤ IntKind.wrap IntKind.i64 (IntKind.wrap IntKind.i64 (x14 - 1) - i5) then
                Option.bind (Γ (Fun.fn 64) [AV.ptr x12, AV.int IntKind.i64 i8, AV.bool (decide (bitOp BinOp.and IntKind.i64 (shrI IntKind.i64 i10 (IntKind.wrap IntKind.i64 (IntKind.wrap IntKind.i64 (x14 - 1) - i5))) 1 = 1))] σ) fun x15 ↦
                  Option.bind (AV.asInt IntKind.i64 (Prod.fst x15)) fun x16 ↦
                    Option.bind (Γ (Fun.fn 64) [AV.ptr x12, AV.int IntKind.i64 i9, AV.bool (decide (bitOp BinOp.and IntKind.i64 (shrI IntKind.i64 i10 (IntKind.wrap IntKind.i64 (IntKind.wrap IntKind.i64 (x14 - 1) - i5))) 1 = 1))] (Prod.snd x15)) fun x17 ↦
                      Option.bind (AV.asInt IntKind.i64 (Prod.fst x17)) fun x18 ↦ some (Sum.inl ([AV.int IntKind.i64 (IntKind.wrap IntKind.i64 (i5 + 1)), AV.int IntKind.i64 i6, AV.slice h7, AV.int IntKind.i64 x16, AV.int IntKind.i64 x18, AV.int IntKind.i64 i10, AV.ptr p11], Prod.snd x17))
              else none
      else none
    else some (Sum.inr (AX.exit 0, [(8, AV.int IntKind.i64 i8), (2, AV.int IntKind.i64 i9)], σ)) := by intros; kernel_rfl

theorem f66_X11010_1 : ∀ (Γ : Gam) (k : Nat) (σ : Store) (i19 i20 : Int), contF Try.prog Γ drawn k Try.f66 [1, 1, 0, 1, 0] (AX.exit 0, [(8, AV.int IntKind.i64 i19), (2, AV.int IntKind.i64 i20)], σ) = some (AV.tuple [AV.int IntKind.i64 i19, AV.int IntKind.i64 i20], σ) := by intros; kernel_rfl

theorem f67_eq : ∀ (Γ : Gam) (k : Nat) (σ : Store) (h0 : Hdl) (g1 : FuncId) (a2 c3 : List AV), evBody Try.prog Γ drawn k Try.f67 [AV.slice h0, AV.func g1 a2 c3] σ = Option.bind (loopF Try.prog Γ drawn k Try.f67 [1, 0, 1, 0] [8, 7, 1, 0] ([AV.int IntKind.i64 0, AV.int IntKind.i64 (↑(Hdl.len h0) : Int), AV.func g1 a2 c3, AV.slice h0], σ)) (contF Try.prog Γ drawn k Try.f67 [1, 0, 1, 0]) := by intros; kernel_rfl

theorem f67_L1010 : ∀ (Γ : Gam) (k : Nat) (σ : Store) (i4 i5 : Int) (g6 : FuncId) (a7 c8 : List AV) (h9 : Hdl),
  stepF Try.prog Γ drawn k Try.f67 [1, 0, 1, 0] [8, 7, 1, 0] ([AV.int IntKind.i64 i4, AV.int IntKind.i64 i5, AV.func g6 a7 c8, AV.slice h9], σ) =
    if decide (i4 < i5) = true then
      if 0 ≤ i4 ∧ i4 < (↑(Hdl.len h9) : Int) then
        Option.bind (Store.ldInt σ IntKind.i64 (Hdl.idx h9 i4 1)) fun x10 ↦
          Option.bind (Γ (Fun.fn g6) (a7 ++ [AV.int IntKind.i64 x10] ++ c8) σ) fun x11 ↦ Option.bind (AV.asBool (Prod.fst x11)) fun x12 ↦ if x12 = true then some (Sum.inr (AX.ret, [(4, AV.int IntKind.i64 i4)], Prod.snd x11)) else some (Sum.inl ([AV.int IntKind.i64 (IntKind.wrap IntKind.i64 (i4 + 1)), AV.int IntKind.i64 i5, AV.func g6 a7 c8, AV.slice h9], Prod.snd x11))
      else none
    else some (Sum.inr (AX.exit 0, [], σ)) := by intros; kernel_rfl

theorem f67_X1010_1 : ∀ (Γ : Gam) (k : Nat) (σ : Store) (i13 : Int), contF Try.prog Γ drawn k Try.f67 [1, 0, 1, 0] (AX.ret, [(4, AV.int IntKind.i64 i13)], σ) = some (AV.int IntKind.i64 i13, σ) := by intros; kernel_rfl

theorem f67_X1010_2 : ∀ (Γ : Gam) (k : Nat) (σ : Store), contF Try.prog Γ drawn k Try.f67 [1, 0, 1, 0] (AX.exit 0, [], σ) = some (AV.int IntKind.i64 (-1), σ) := by intros; kernel_rfl

theorem f68_eq : ∀ (Γ : Gam) (k : Nat) (σ : Store) (p0 : Ptr) (i1 : Int),
  evBody Try.prog Γ drawn k Try.f68 [AV.ptr p0, AV.int IntKind.i64 i1] σ =
    if decide (0 < i1) = true then
      Option.bind p0 fun x2 ↦
        Option.bind (Store.ldSl σ (Ptr.add (some x2) 2)) fun x3 ↦
          if 0 ≤ i1 ∧ i1 < (↑(Hdl.len x3) : Int) then
            Option.bind (Store.ldBool σ (Hdl.idx x3 i1 1)) fun x4 ↦
              if x4 = true then Option.bind p0 fun x5 ↦ Option.bind (Store.ldSl σ (Ptr.add (some x5) 2)) fun x6 ↦ if 0 ≤ IntKind.wrap IntKind.i64 (i1 - 1) ∧ IntKind.wrap IntKind.i64 (i1 - 1) < (↑(Hdl.len x6) : Int) then Option.bind (Store.ldBool σ (Hdl.idx x6 (IntKind.wrap IntKind.i64 (i1 - 1)) 1)) fun x7 ↦ some (AV.bool !x7, σ) else none else some (AV.bool false, σ)
          else none
    else some (AV.bool false, σ) := by intros; kernel_rfl

theorem f69_eq : ∀ (Γ : Gam) (k : Nat) (σ : Store) (p0 : Ptr) (h1 : Hdl),
  evBody Try.prog Γ drawn k Try.f69 [AV.ptr p0, AV.slice h1] σ =
    Option.bind (Store.ldPtr (Store.push σ [AV.ptr p0] 1) (some (List.length (Store.objs σ), 0))) fun x2 ↦
      Option.bind x2 fun x3 ↦ Option.bind (Store.ldSl (Store.push σ [AV.ptr p0] 1) (Ptr.add (some x3) 3)) fun x4 ↦ Option.bind (loopF Try.prog Γ drawn k Try.f69 [1, 0, 1, 0] [19, 18, 2, 1] ([AV.int IntKind.i64 0, AV.int IntKind.i64 (↑(Hdl.len x4) : Int), AV.ptr (some (List.length (Store.objs σ), 0)), AV.slice h1], Store.push σ [AV.ptr p0] 1)) (contF Try.prog Γ drawn k Try.f69 [1, 0, 1, 0]) := by intros; kernel_rfl

theorem f69_L1010 : ∀ (Γ : Gam) (k : Nat) (σ : Store) (i5 i6 : Int) (p7 : Ptr) (h8 : Hdl),
  stepF Try.prog Γ drawn k Try.f69 [1, 0, 1, 0] [19, 18, 2, 1] ([AV.int IntKind.i64 i5, AV.int IntKind.i64 i6, AV.ptr p7, AV.slice h8], σ) =
    if decide (i5 < i6) = true then
      Option.bind (Store.ldPtr σ p7) fun x9 ↦ Option.bind x9 fun x10 ↦ Option.bind (Store.ldSl σ (Ptr.add (some x10) 3)) fun x11 ↦ if 0 ≤ i5 ∧ i5 < (↑(Hdl.len x11) : Int) then Option.bind (Store.stL σ (Hdl.idx x11 i5 1) [AV.int IntKind.i64 (-1)] 0) fun x12 ↦ some (Sum.inl ([AV.int IntKind.i64 (IntKind.wrap IntKind.i64 (i5 + 1)), AV.int IntKind.i64 i6, AV.ptr p7, AV.slice h8], x12)) else none
    else some (Sum.inr (AX.exit 0, [(2, AV.ptr p7), (1, AV.slice h8)], σ)) := by intros; kernel_rfl

theorem f69_X1010_1 : ∀ (Γ : Gam) (k : Nat) (σ : Store) (p13 : Ptr) (h14 : Hdl),
  contF Try.prog Γ drawn k Try.f69 [1, 0, 1, 0] (AX.exit 0, [(2, AV.ptr p13), (1, AV.slice h14)], σ) =
    Option.bind (Store.ldPtr σ p13) fun x15 ↦
      Option.bind (Γ (Fun.fn 84) [AV.ptr x15, AV.bool true] σ) fun x16 ↦
        Option.bind (AV.asSl (Prod.fst x16)) fun x17 ↦
          Option.bind (Store.stL (Store.push (Prod.snd x16) [AV.slice Hdl.nil] 1) (some (List.length (Store.objs (Prod.snd x16)), 0)) [AV.slice x17] 0) fun x18 ↦
            Option.bind (Γ (Fun.fn 39) [AV.slice h14] x18) fun x19 ↦
              Option.bind (AV.asFn (Prod.fst x19)) fun x20 ↦
                Option.bind (rangeV Γ (Prod.fst x20) (Prod.fst (Prod.snd x20)) (Prod.snd (Prod.snd x20)) (AObj.loop [(5, AV.ptr (some (List.length (Store.objs (Prod.snd x16)), 0))), (2, AV.ptr p13)] (Array.toList #[33, 34]) (codeAt (fnCode Try.f69) [1, 1, 1, 0, 1, 0, 0]) (codeAt (fnCode Try.f69) [1, 1, 1, 0, 1, 0, 1]) (Func.ntmps Try.f69) LSt.ready) (Prod.snd x19)) fun x21 ↦
                  contF Try.prog Γ drawn k Try.f69 [1, 1, 1, 0, 1, 0] (Prod.fst x21, [(5, AV.ptr (some (List.length (Store.objs (Prod.snd x16)), 0))), (2, AV.ptr p13)], Prod.snd x21) := by intros; kernel_rfl

theorem f69_RX111010 : ∀ (Γ : Gam) (k : Nat) (σ : Store) (p22 p23 : Ptr) (i24 i25 : Int), roundX Try.prog Γ drawn k Try.f69 [1, 1, 1, 0, 1, 0] [(34, AV.int IntKind.i64 i25), (33, AV.int IntKind.i64 i24), (5, AV.ptr p22), (2, AV.ptr p23)] σ = some (AX.normal, [(7, AV.int IntKind.i64 i25), (34, AV.int IntKind.i64 i25), (33, AV.int IntKind.i64 i24), (5, AV.ptr p22), (2, AV.ptr p23)], σ) := by intros; kernel_rfl

theorem f69_RY111010 : ∀ (Γ : Gam) (k : Nat) (σ : Store) (i26 : Int) (p27 p28 : Ptr),
  roundY Try.prog Γ drawn k Try.f69 [1, 1, 1, 0, 1, 0] [(7, AV.int IntKind.i64 i26), (5, AV.ptr p27), (2, AV.ptr p28)] σ =
    Option.bind (Store.ldPtr σ p28) fun x29 ↦
      Option.bind x29 fun x30 ↦
        Option.bind (Store.ldSl σ (Ptr.add (some x30) 0)) fun x31 ↦
          if 0 ≤ i26 ∧ i26 < (↑(Hdl.len x31) : Int) then
            Option.bind (Store.ldInt σ IntKind.i64 (Hdl.idx x31 i26 1)) fun x32 ↦
              Option.bind (Store.ldSl σ p27) fun x33 ↦
                if 0 ≤ x32 ∧ x32 < (↑(Hdl.len x33) : Int) then
                  Option.bind (Store.ldInt σ IntKind.i64 (Hdl.idx x33 x32 1)) fun x34 ↦
                    if 0 ≤ x32 ∧ x32 < (↑(Hdl.len x33) : Int) then
                      Option.bind (Store.stL σ (Hdl.idx x33 x32 1) [AV.int IntKind.i64 (IntKind.wrap IntKind.i64 (x34 - 1))] 0) fun x35 ↦
                        Option.bind (Store.ldPtr x35 p28) fun x36 ↦
                          Option.bind x36 fun x37 ↦
                            Option.bind (Store.ldSl x35 (Ptr.add (some x37) 3)) fun x38 ↦
                              Option.bind (Store.ldSl x35 p27) fun x39 ↦ if 0 ≤ x32 ∧ x32 < (↑(Hdl.len x39) : Int) then Option.bind (Store.ldInt x35 IntKind.i64 (Hdl.idx x39 x32 1)) fun x40 ↦ if 0 ≤ x40 ∧ x40 < (↑(Hdl.len x38) : Int) then Option.bind (Store.stL x35 (Hdl.idx x38 x40 1) [AV.int IntKind.i64 i26] 0) fun x41 ↦ some (AX.normal, x41) else none else none
                    else none
                else none
          else none := by intros; kernel_rfl

theorem f69_RC111010 : ∀ (Γ : Gam) (k : Nat) (σ : Store) (p42 p43 : Ptr),
  contF Try.prog Γ drawn k Try.f69 [1, 1, 1, 0, 1, 0] (AX.normal, [(5, AV.ptr p42), (2, AV.ptr p43)], σ) =
    Option.bind (Store.ldPtr σ p43) fun x44 ↦
      Option.bind (Γ (Fun.fn 84) [AV.ptr x44, AV.bool false] σ) fun x45 ↦
        Option.bind (AV.asSl (Prod.fst x45)) fun x46 ↦
          Option.bind (Store.stL (Store.push (Prod.snd x45) [AV.slice Hdl.nil] 1) (some (List.length (Store.objs (Prod.snd x45)), 0)) [AV.slice x46] 0) fun x47 ↦
            Option.bind (Store.ldPtr x47 p43) fun x48 ↦
              Option.bind x48 fun x49 ↦
                Option.bind (Store.ldSl x47 (Ptr.add (some x49) 0)) fun x50 ↦
                  Option.bind (Γ (Fun.fn 85) [AV.int IntKind.i64 (IntKind.wrap IntKind.i64 ((↑(Hdl.len x50) : Int) - 1)), AV.ptr p43, AV.ptr (some (List.length (Store.objs (Prod.snd x45)), 0))] x47) fun x51 ↦
                    Option.bind (Store.ldPtr (Prod.snd x51) p43) fun x52 ↦
                      Option.bind x52 fun x53 ↦
                        Option.bind (Store.ldSl (Prod.snd x51) (Ptr.add (some x53) 3)) fun x54 ↦
                          Option.bind (loopF Try.prog Γ drawn k Try.f69 [1, 1, 1, 1, 1, 1, 1, 0, 1, 0] [74, 73, 10, 5, 2] ([AV.int IntKind.i64 0, AV.int IntKind.i64 (↑(Hdl.len x54) : Int), AV.func 85 [] [AV.ptr p43, AV.ptr (some (List.length (Store.objs (Prod.snd x45)), 0))], AV.ptr p42, AV.ptr p43], Prod.snd x51)) (contF Try.prog Γ drawn k Try.f69 [1, 1, 1, 1, 1, 1, 1, 0, 1, 0]) := by intros; kernel_rfl

theorem f69_L1111111010 : ∀ (Γ : Gam) (k : Nat) (σ : Store) (i55 i56 : Int) (p57 p58 p59 p60 : Ptr),
  stepF Try.prog Γ drawn k Try.f69 [1, 1, 1, 1, 1, 1, 1, 0, 1, 0] [74, 73, 10, 5, 2] ([AV.int IntKind.i64 i55, AV.int IntKind.i64 i56, AV.func 85 [] [AV.ptr p57, AV.ptr p58], AV.ptr p59, AV.ptr p60], σ) =
    if decide (i55 < i56) = true then
      Option.bind (Store.ldPtr σ p60) fun x61 ↦
        Option.bind x61 fun x62 ↦
          Option.bind (Store.ldSl σ (Ptr.add (some x62) 3)) fun x63 ↦
            if 0 ≤ i55 ∧ i55 < (↑(Hdl.len x63) : Int) then
              Option.bind (Store.ldInt σ IntKind.i64 (Hdl.idx x63 i55 1)) fun x64 ↦
                if decide (0 < x64) = true then
                  Option.bind (Store.ldPtr σ p60) fun x65 ↦
                    Option.bind x65 fun x66 ↦
                      Option.bind (Store.ldSl σ (Ptr.add (some x66) 3)) fun x67 ↦
                        if 0 ≤ i55 ∧ i55 < (↑(Hdl.len x67) : Int) then
                          Option.bind (Store.ldInt σ IntKind.i64 (Hdl.idx x67 i55 1)) fun x68 ↦ Option.bind (Γ (Fun.fn 85) [AV.int IntKind.i64 (IntKind.wrap IntKind.i64 (x68 - 1)), AV.ptr p57, AV.ptr p58] σ) fun x69 ↦ some (Sum.inl ([AV.int IntKind.i64 (IntKind.wrap IntKind.i64 (i55 + 1)), AV.int IntKind.i64 i56, AV.func 85 [] [AV.ptr p57, AV.ptr p58], AV.ptr p59, AV.ptr p60], Prod.snd x69))
                        else none
                else some (Sum.inl ([AV.int IntKind.i64 (IntKind.wrap IntKind.i64 (i55 + 1)), AV.int IntKind.i64 i56, AV.func 85 [] [AV.ptr p57, AV.ptr p58], AV.ptr p59, AV.ptr p60], σ))
            else none
    else some (Sum.inr (AX.exit 4, [(5, AV.ptr p59), (2, AV.ptr p60)], σ)) := by intros; kernel_rfl

theorem f69_X1111111010_1 : ∀ (Γ : Gam) (k : Nat) (σ : Store) (p70 p71 : Ptr),
  contF Try.prog Γ drawn k Try.f69 [1, 1, 1, 1, 1, 1, 1, 0, 1, 0] (AX.exit 4, [(5, AV.ptr p70), (2, AV.ptr p71)], σ) =
    Option.bind (Store.ldPtr σ p71) fun x72 ↦
      Option.bind (Γ (Fun.fn 84) [AV.ptr x72, AV.bool true] σ) fun x73 ↦
        Option.bind (AV.asSl (Prod.fst x73)) fun x74 ↦
          Option.bind (Store.stL (Prod.snd x73) p70 [AV.slice x74] 0) fun x75 ↦
            Option.bind (Store.ldPtr x75 p71) fun x76 ↦
              Option.bind x76 fun x77 ↦ Option.bind (Store.ldSl x75 (Ptr.add (some x77) 3)) fun x78 ↦ Option.bind (loopF Try.prog Γ drawn k Try.f69 [1, 1, 1, 1, 1, 1, 1, 1, 1, 1, 0] [12, 5, 2] ([AV.int IntKind.i64 (IntKind.wrap IntKind.i64 ((↑(Hdl.len x78) : Int) - 1)), AV.ptr p70, AV.ptr p71], x75)) (contF Try.prog Γ drawn k Try.f69 [1, 1, 1, 1, 1, 1, 1, 1, 1, 1, 0]) := by intros; kernel_rfl

theorem f69_L11111111110 : ∀ (Γ : Gam) (k : Nat) (σ : Store) (i79 : Int) (p80 p81 : Ptr),
  stepF Try.prog Γ drawn k Try.f69 [1, 1, 1, 1, 1, 1, 1, 1, 1, 1, 0] [12, 5, 2] ([AV.int IntKind.i64 i79, AV.ptr p80, AV.ptr p81], σ) =
    if decide (0 ≤ i79) = true then
      Option.bind (Store.ldPtr σ p81) fun x82 ↦
        Option.bind x82 fun x83 ↦
          Option.bind (Store.ldSl σ (Ptr.add (some x83) 3)) fun x84 ↦
            if 0 ≤ i79 ∧ i79 < (↑(Hdl.len x84) : Int) then
              Option.bind (Store.ldInt σ IntKind.i64 (Hdl.idx x84 i79 1)) fun x85 ↦
                if decide (0 ≤ IntKind.wrap IntKind.i64 (x85 - 1)) = true then
                  Option.bind (Store.ldPtr σ p81) fun x86 ↦
                    Option.bind x86 fun x87 ↦
                      Option.bind (Store.ldSl σ (Ptr.add (some x87) 2)) fun x88 ↦
                        if 0 ≤ IntKind.wrap IntKind.i64 (x85 - 1) ∧ IntKind.wrap IntKind.i64 (x85 - 1) < (↑(Hdl.len x88) : Int) then
                          Option.bind (Store.ldBool σ (Hdl.idx x88 (IntKind.wrap IntKind.i64 (x85 - 1)) 1)) fun x89 ↦
                            if x89 = true then
                              Option.bind (Store.ldSl σ p80) fun x90 ↦
                                Option.bind (Store.ldPtr σ p81) fun x91 ↦
                                  Option.bind x91 fun x92 ↦
                                    Option.bind (Store.ldSl σ (Ptr.add (some x92) 0)) fun x93 ↦
                                      if 0 ≤ IntKind.wrap IntKind.i64 (x85 - 1) ∧ IntKind.wrap IntKind.i64 (x85 - 1) < (↑(Hdl.len x93) : Int) then
                                        Option.bind (Store.ldInt σ IntKind.i64 (Hdl.idx x93 (IntKind.wrap IntKind.i64 (x85 - 1)) 1)) fun x94 ↦
                                          if 0 ≤ x94 ∧ x94 < (↑(Hdl.len x90) : Int) then
                                            Option.bind (Store.ldInt σ IntKind.i64 (Hdl.idx x90 x94 1)) fun x95 ↦
                                              if 0 ≤ x94 ∧ x94 < (↑(Hdl.len x90) : Int) then
                                                Option.bind (Store.stL σ (Hdl.idx x90 x94 1) [AV.int IntKind.i64 (IntKind.wrap IntKind.i64 (x95 - 1))] 0) fun x96 ↦
                                                  Option.bind (Store.ldPtr x96 p81) fun x97 ↦
                                                    Option.bind x97 fun x98 ↦
                                                      Option.bind (Store.ldSl x96 (Ptr.add (some x98) 3)) fun x99 ↦
                                                        Option.bind (Store.ldSl x96 p80) fun x100 ↦
                                                          Option.bind (Store.ldPtr x96 p81) fun x101 ↦
                                                            Option.bind x101 fun x102 ↦
                                                              Option.bind (Store.ldSl x96 (Ptr.add (some x102) 0)) fun x103 ↦
                                                                if 0 ≤ IntKind.wrap IntKind.i64 (x85 - 1) ∧ IntKind.wrap IntKind.i64 (x85 - 1) < (↑(Hdl.len x103) : Int) then
                                                                  Option.bind (Store.ldInt x96 IntKind.i64 (Hdl.idx x103 (IntKind.wrap IntKind.i64 (x85 - 1)) 1)) fun x104 ↦
                                                                    if 0 ≤ x104 ∧ x104 < (↑(Hdl.len x100) : Int) then
                                                                      Option.bind (Store.ldInt x96 IntKind.i64 (Hdl.idx x100 x104 1)) fun x105 ↦
                                                                        if 0 ≤ x105 ∧ x105 < (↑(Hdl.len x99) : Int) then Option.bind (Store.stL x96 (Hdl.idx x99 x105 1) [AV.int IntKind.i64 (IntKind.wrap IntKind.i64 (x85 - 1))] 0) fun x106 ↦ some (Sum.inl ([AV.int IntKind.i64 (IntKind.wrap IntKind.i64 (i79 - 1)), AV.ptr p80, AV.ptr p81], x106)) else none
                                                                    else none
                                                                else none
                                              else none
                                          else none
                                      else none
                            else some (Sum.inl ([AV.int IntKind.i64 (IntKind.wrap IntKind.i64 (i79 - 1)), AV.ptr p80, AV.ptr p81], σ))
                        else none
                else some (Sum.inl ([AV.int IntKind.i64 (IntKind.wrap IntKind.i64 (i79 - 1)), AV.ptr p80, AV.ptr p81], σ))
            else none
    else some (Sum.inr (AX.exit 6, [], σ)) := by intros; kernel_rfl

theorem f69_X11111111110_1 : ∀ (Γ : Gam) (k : Nat) (σ : Store), contF Try.prog Γ drawn k Try.f69 [1, 1, 1, 1, 1, 1, 1, 1, 1, 1, 0] (AX.exit 6, [], σ) = some (AV.tuple [], σ) := by intros; kernel_rfl

theorem f70_eq : ∀ (Γ : Gam) (k : Nat) (σ : Store) (p0 : Ptr) (i1 i2 : Int), evBody Try.prog Γ drawn k Try.f70 [AV.ptr p0, AV.int IntKind.i64 i1, AV.int IntKind.i64 i2] σ = Option.bind (loopF Try.prog Γ drawn k Try.f70 [1, 1, 0] [7, 2, 1, 0] ([AV.int IntKind.i64 0, AV.int IntKind.i64 i2, AV.int IntKind.i64 i1, AV.ptr p0], σ)) (contF Try.prog Γ drawn k Try.f70 [1, 1, 0]) := by intros; kernel_rfl

theorem f70_L110 : ∀ (Γ : Gam) (k : Nat) (σ : Store) (i3 i4 i5 : Int) (p6 : Ptr),
  stepF Try.prog Γ drawn k Try.f70 [1, 1, 0] [7, 2, 1, 0] ([AV.int IntKind.i64 i3, AV.int IntKind.i64 i4, AV.int IntKind.i64 i5, AV.ptr p6], σ) =
    Option.bind p6 fun x7 ↦
      Option.bind (Store.ldSl σ (Ptr.add (some x7) 0)) fun x8 ↦
        Option.bind p6 fun x9 ↦
          Option.bind (Store.ldSl σ (Ptr.add (some x9) 0)) fun x10 ↦
            if (!decide (IntKind.wrap IntKind.i64 (i5 + i3) < (↑(Hdl.len x8) : Int))) = true then some (Sum.inr (AX.ret, [(6, AV.bool false)], σ))
            else
              if (!decide (IntKind.wrap IntKind.i64 (i4 + i3) < (↑(Hdl.len x10) : Int))) = true then some (Sum.inr (AX.ret, [(6, AV.bool false)], σ))
              else
                Option.bind p6 fun x11 ↦
                  Option.bind (Store.ldSl σ (Ptr.add (some x11) 0)) fun x12 ↦
                    if 0 ≤ IntKind.wrap IntKind.i64 (i5 + i3) ∧ IntKind.wrap IntKind.i64 (i5 + i3) < (↑(Hdl.len x12) : Int) then
                      Option.bind (Store.ldInt σ IntKind.i64 (Hdl.idx x12 (IntKind.wrap IntKind.i64 (i5 + i3)) 1)) fun x13 ↦
                        Option.bind p6 fun x14 ↦
                          Option.bind (Store.ldSl σ (Ptr.add (some x14) 0)) fun x15 ↦
                            if 0 ≤ IntKind.wrap IntKind.i64 (i4 + i3) ∧ IntKind.wrap IntKind.i64 (i4 + i3) < (↑(Hdl.len x15) : Int) then
                              Option.bind (Store.ldInt σ IntKind.i64 (Hdl.idx x15 (IntKind.wrap IntKind.i64 (i4 + i3)) 1)) fun x16 ↦
                                if decide (x13 ≠ x16) = true then some (Sum.inr (AX.ret, [(6, AV.bool false)], σ))
                                else
                                  Option.bind p6 fun x17 ↦
                                    Option.bind (Store.ldSl σ (Ptr.add (some x17) 2)) fun x18 ↦
                                      if 0 ≤ IntKind.wrap IntKind.i64 (i5 + i3) ∧ IntKind.wrap IntKind.i64 (i5 + i3) < (↑(Hdl.len x18) : Int) then
                                        Option.bind (Store.ldBool σ (Hdl.idx x18 (IntKind.wrap IntKind.i64 (i5 + i3)) 1)) fun x19 ↦
                                          Option.bind p6 fun x20 ↦
                                            Option.bind (Store.ldSl σ (Ptr.add (some x20) 2)) fun x21 ↦
                                              if 0 ≤ IntKind.wrap IntKind.i64 (i4 + i3) ∧ IntKind.wrap IntKind.i64 (i4 + i3) < (↑(Hdl.len x21) : Int) then
                                                Option.bind (Store.ldBool σ (Hdl.idx x21 (IntKind.wrap IntKind.i64 (i4 + i3)) 1)) fun x22 ↦
                                                  if (!x19 == x22) = true then some (Sum.inr (AX.ret, [(6, AV.bool false)], σ))
                                                  else
                                                    if decide (0 < i3) = true then
                                                      Option.bind (Γ (Fun.fn 68) [AV.ptr p6, AV.int IntKind.i64 (IntKind.wrap IntKind.i64 (i5 + i3))] σ) fun x23 ↦
                                                        Option.bind (AV.asBool (Prod.fst x23)) fun x24 ↦
                                                          if x24 = true then
                                                            Option.bind (Γ (Fun.fn 68) [AV.ptr p6, AV.int IntKind.i64 (IntKind.wrap IntKind.i64 (i5 + i3))] (Prod.snd x23)) fun x25 ↦
                                                              Option.bind (AV.asBool (Prod.fst x25)) fun x26 ↦
                                                                if x26 = true then Option.bind (Γ (Fun.fn 68) [AV.ptr p6, AV.int IntKind.i64 (IntKind.wrap IntKind.i64 (i4 + i3))] (Prod.snd x25)) fun x27 ↦ Option.bind (AV.asBool (Prod.fst x27)) fun x28 ↦ some (Sum.inr (AX.ret, [(6, AV.bool x28)], Prod.snd x27)) else some (Sum.inr (AX.ret, [(6, AV.bool false)], Prod.snd x25))
                                                          else
                                                            Option.bind (Γ (Fun.fn 68) [AV.ptr p6, AV.int IntKind.i64 (IntKind.wrap IntKind.i64 (i4 + i3))] (Prod.snd x23)) fun x29 ↦
                                                              Option.bind (AV.asBool (Prod.fst x29)) fun x30 ↦
                                                                if x30 = true then
                                                                  Option.bind (Γ (Fun.fn 68) [AV.ptr p6, AV.int IntKind.i64 (IntKind.wrap IntKind.i64 (i5 + i3))] (Prod.snd x29)) fun x31 ↦
                                                                    Option.bind (AV.asBool (Prod.fst x31)) fun x32 ↦
                                                                      if x32 = true then Option.bind (Γ (Fun.fn 68) [AV.ptr p6, AV.int IntKind.i64 (IntKind.wrap IntKind.i64 (i4 + i3))] (Prod.snd x31)) fun x33 ↦ Option.bind (AV.asBool (Prod.fst x33)) fun x34 ↦ some (Sum.inr (AX.ret, [(6, AV.bool x34)], Prod.snd x33)) else some (Sum.inr (AX.ret, [(6, AV.bool false)], Prod.snd x31))
                                                                else some (Sum.inl ([AV.int IntKind.i64 (IntKind.wrap IntKind.i64 (i3 + 1)), AV.int IntKind.i64 i4, AV.int IntKind.i64 i5, AV.ptr p6], Prod.snd x29))
                                                    else some (Sum.inl ([AV.int IntKind.i64 (IntKind.wrap IntKind.i64 (i3 + 1)), AV.int IntKind.i64 i4, AV.int IntKind.i64 i5, AV.ptr p6], σ))
                                              else none
                                      else none
                            else none
                    else none := by intros; kernel_rfl

theorem f70_X110_1 : ∀ (Γ : Gam) (k : Nat) (σ : Store) (b35 : Bool), contF Try.prog Γ drawn k Try.f70 [1, 1, 0] (AX.ret, [(6, AV.bool b35)], σ) = some (AV.bool b35, σ) := by intros; kernel_rfl

theorem f71_eq : ∀ (Γ : Gam) (k : Nat) (σ : Store) (h0 : Hdl),
  evBody Try.prog Γ drawn k Try.f71 [AV.slice h0] σ = if Option.isNone (Hdl.a h0) = true then some (AV.slice Hdl.nil, σ) else Option.bind (Store.readSl (Store.push σ [] 1) h0 1) fun x1 ↦ Option.bind (Store.app (Store.push σ [] 1) { a := some (List.length (Store.objs σ), 0), len := 0, cap := some 0 } 1 8 x1 (Hdl.len h0)) fun x2 ↦ some (AV.slice (Prod.fst x2), Prod.snd x2) := by intros; kernel_rfl

theorem f82_eq : ∀ (Γ : Gam) (k : Nat) (σ : Store) (p0 : Ptr) (i1 : Int),
  evBody Try.prog Γ drawn k Try.f82 [AV.ptr p0, AV.int IntKind.i64 i1] σ =
    Option.bind (Γ (Fun.fn 83) [AV.ptr p0] σ) fun x2 ↦ Option.bind (AV.asInt IntKind.i64 (Prod.fst x2)) fun x3 ↦ Option.bind (Γ (Fun.fn 43) [AV.ptr p0, AV.int IntKind.i64 i1] (Prod.snd x2)) fun x4 ↦ Option.bind (AV.asInt IntKind.i64 (Prod.fst x4)) fun x5 ↦ some (AV.int IntKind.i64 (IntKind.wrap IntKind.i64 (mx2 (Int.ofNat 0) (mn2 i1 x3) - x5)), Prod.snd x4) := by intros; kernel_rfl

theorem f83_eq : ∀ (Γ : Gam) (k : Nat) (σ : Store) (p0 : Ptr), evBody Try.prog Γ drawn k Try.f83 [AV.ptr p0] σ = if Option.isNone p0 = true then some (AV.int IntKind.i64 0, σ) else Option.bind p0 fun x1 ↦ Option.bind (Store.ldInt σ IntKind.i64 (Ptr.add (some x1) 0)) fun x2 ↦ some (AV.int IntKind.i64 x2, σ) := by intros; kernel_rfl

theorem f84_eq : ∀ (Γ : Gam) (k : Nat) (σ : Store) (p0 : Ptr) (b1 : Bool),
  evBody Try.prog Γ drawn k Try.f84 [AV.ptr p0, AV.bool b1] σ =
    Option.bind p0 fun x2 ↦
      Option.bind (Store.ldInt σ IntKind.i64 (Ptr.add (some x2) (1 : Nat))) fun x3 ↦
        if ((0 : Int) ≤ x3 ∧ x3 ≤ x3) ∧ x3 * (↑(8 : Nat) : Int) ≤ (281474976710656 : Int) then
          Option.bind p0 fun x4 ↦
            Option.bind (Store.ldSl (Store.push σ (mkCells [AV.int IntKind.i64 (0 : Int)] (Int.toNat x3)) (1 : Nat)) (Ptr.add (some x4) (0 : Nat))) fun x5 ↦
              Option.bind
                (loopF Try.prog Γ drawn k Try.f84 [(1 : Nat), (1 : Nat), (0 : Nat), (1 : Nat), (0 : Nat)] [(21 : Nat), (20 : Nat), (19 : Nat), (5 : Nat), (1 : Nat)]
                  ([AV.int IntKind.i64 (0 : Int), AV.int IntKind.i64 (↑(Hdl.len x5) : Int), AV.slice x5, AV.slice { a := some (List.length (Store.objs σ), (0 : Nat)), len := Int.toNat x3, cap := some (Int.toNat x3) }, AV.bool b1], Store.push σ (mkCells [AV.int IntKind.i64 (0 : Int)] (Int.toNat x3)) (1 : Nat)))
                (contF Try.prog Γ drawn k Try.f84 [(1 : Nat), (1 : Nat), (0 : Nat), (1 : Nat), (0 : Nat)])
        else none := by intros; kernel_rfl

theorem f84_L11010 : ∀ (Γ : Gam) (k : Nat) (σ : Store) (i6 i7 : Int) (h8 h9 : Hdl) (b10 : Bool),
  stepF Try.prog Γ drawn k Try.f84 [1, 1, 0, 1, 0] [21, 20, 19, 5, 1] ([AV.int IntKind.i64 i6, AV.int IntKind.i64 i7, AV.slice h8, AV.slice h9, AV.bool b10], σ) =
    if decide (i6 < i7) = true then
      if 0 ≤ i6 ∧ i6 < (↑(Hdl.len h8) : Int) then
        Option.bind (Store.ldInt σ IntKind.i64 (Hdl.idx h8 i6 1)) fun x11 ↦
          if 0 ≤ x11 ∧ x11 < (↑(Hdl.len h9) : Int) then
            Option.bind (Store.ldInt σ IntKind.i64 (Hdl.idx h9 x11 1)) fun x12 ↦ if 0 ≤ x11 ∧ x11 < (↑(Hdl.len h9) : Int) then Option.bind (Store.stL σ (Hdl.idx h9 x11 1) [AV.int IntKind.i64 (IntKind.wrap IntKind.i64 (x12 + 1))] 0) fun x13 ↦ some (Sum.inl ([AV.int IntKind.i64 (IntKind.wrap IntKind.i64 (i6 + 1)), AV.int IntKind.i64 i7, AV.slice h8, AV.slice h9, AV.bool b10], x13)) else none
          else none
      else none
    else some (Sum.inr (AX.exit 0, [(5, AV.slice h9), (1, AV.bool b10)], σ)) := by intros; kernel_rfl

theorem f84_X11010_1 : ∀ (Γ : Gam) (k : Nat) (σ : Store) (h14 : Hdl) (b15 : Bool),
  contF Try.prog Γ drawn k Try.f84 [1, 1, 0, 1, 0] (AX.exit 0, [(5, AV.slice h14), (1, AV.bool b15)], σ) = Option.bind (loopF Try.prog Γ drawn k Try.f84 [1, 1, 1, 1, 0, 1, 0] [34, 33, 32, 8, 5, 1] ([AV.int IntKind.i64 0, AV.int IntKind.i64 (↑(Hdl.len h14) : Int), AV.slice h14, AV.int IntKind.i64 0, AV.slice h14, AV.bool b15], σ)) (contF Try.prog Γ drawn k Try.f84 [1, 1, 1, 1, 0, 1, 0]) := by intros; kernel_rfl

theorem f84_L1111010 : ∀ (Γ : Gam) (k : Nat) (σ : Store) (i16 i17 : Int) (h18 : Hdl) (i19 : Int) (h20 : Hdl) (b21 : Bool),
  stepF Try.prog Γ drawn k Try.f84 [1, 1, 1, 1, 0, 1, 0] [34, 33, 32, 8, 5, 1] ([AV.int IntKind.i64 i16, AV.int IntKind.i64 i17, AV.slice h18, AV.int IntKind.i64 i19, AV.slice h20, AV.bool b21], σ) =
    if decide (i16 < i17) = true then
      if 0 ≤ i16 ∧ i16 < (↑(Hdl.len h18) : Int) then
        Option.bind (Store.ldInt σ IntKind.i64 (Hdl.idx h18 i16 1)) fun x22 ↦
          if b21 = true then
            if 0 ≤ i16 ∧ i16 < (↑(Hdl.len h20) : Int) then Option.bind (Store.stL σ (Hdl.idx h20 i16 1) [AV.int IntKind.i64 (IntKind.wrap IntKind.i64 (i19 + x22))] 0) fun x23 ↦ some (Sum.inl ([AV.int IntKind.i64 (IntKind.wrap IntKind.i64 (i16 + 1)), AV.int IntKind.i64 i17, AV.slice h18, AV.int IntKind.i64 (IntKind.wrap IntKind.i64 (i19 + x22)), AV.slice h20, AV.bool b21], x23)) else none
          else if 0 ≤ i16 ∧ i16 < (↑(Hdl.len h20) : Int) then Option.bind (Store.stL σ (Hdl.idx h20 i16 1) [AV.int IntKind.i64 i19] 0) fun x24 ↦ some (Sum.inl ([AV.int IntKind.i64 (IntKind.wrap IntKind.i64 (i16 + 1)), AV.int IntKind.i64 i17, AV.slice h18, AV.int IntKind.i64 (IntKind.wrap IntKind.i64 (i19 + x22)), AV.slice h20, AV.bool b21], x24)) else none
      else none
    else some (Sum.inr (AX.exit 2, [(5, AV.slice h20)], σ)) := by intros; kernel_rfl

theorem f84_X1111010_1 : ∀ (Γ : Gam) (k : Nat) (σ : Store) (h25 : Hdl), contF Try.prog Γ drawn k Try.f84 [1, 1, 1, 1, 0, 1, 0] (AX.exit 2, [(5, AV.slice h25)], σ) = some (AV.slice h25, σ) := by intros; kernel_rfl

theorem f85_eq : ∀ (Γ : Gam) (k : Nat) (σ : Store) (i0 : Int) (p1 p2 : Ptr),
  evBody Try.prog Γ drawn k Try.f85 [AV.int IntKind.i64 i0, AV.ptr p1, AV.ptr p2] σ =
    if decide (0 ≤ i0) = true then
      Option.bind (Store.ldPtr σ p1) fun x3 ↦
        Option.bind x3 fun x4 ↦
          Option.bind (Store.ldSl σ (Ptr.add (some x4) 2)) fun x5 ↦
            if 0 ≤ i0 ∧ i0 < (↑(Hdl.len x5) : Int) then
              Option.bind (Store.ldBool σ (Hdl.idx x5 i0 1)) fun x6 ↦
                if (!x6) = true then
                  Option.bind (Store.ldPtr σ p1) fun x7 ↦
                    Option.bind x7 fun x8 ↦
                      Option.bind (Store.ldSl σ (Ptr.add (some x8) 3)) fun x9 ↦
                        Option.bind (Store.ldSl σ p2) fun x10 ↦
                          Option.bind (Store.ldPtr σ p1) fun x11 ↦
                            Option.bind x11 fun x12 ↦
                              Option.bind (Store.ldSl σ (Ptr.add (some x12) 0)) fun x13 ↦
                                if 0 ≤ i0 ∧ i0 < (↑(Hdl.len x13) : Int) then
                                  Option.bind (Store.ldInt σ IntKind.i64 (Hdl.idx x13 i0 1)) fun x14 ↦
                                    if 0 ≤ x14 ∧ x14 < (↑(Hdl.len x10) : Int) then
                                      Option.bind (Store.ldInt σ IntKind.i64 (Hdl.idx x10 x14 1)) fun x15 ↦
                                        if 0 ≤ x15 ∧ x15 < (↑(Hdl.len x9) : Int) then
                                          Option.bind (Store.stL σ (Hdl.idx x9 x15 1) [AV.int IntKind.i64 i0] 0) fun x16 ↦
                                            Option.bind (Store.ldSl x16 p2) fun x17 ↦
                                              Option.bind (Store.ldPtr x16 p1) fun x18 ↦
                                                Option.bind x18 fun x19 ↦
                                                  Option.bind (Store.ldSl x16 (Ptr.add (some x19) 0)) fun x20 ↦
                                                    if 0 ≤ i0 ∧ i0 < (↑(Hdl.len x20) : Int) then
                                                      Option.bind (Store.ldInt x16 IntKind.i64 (Hdl.idx x20 i0 1)) fun x21 ↦
                                                        if 0 ≤ x21 ∧ x21 < (↑(Hdl.len x17) : Int) then Option.bind (Store.ldInt x16 IntKind.i64 (Hdl.idx x17 x21 1)) fun x22 ↦ if 0 ≤ x21 ∧ x21 < (↑(Hdl.len x17) : Int) then Option.bind (Store.stL x16 (Hdl.idx x17 x21 1) [AV.int IntKind.i64 (IntKind.wrap IntKind.i64 (x22 + 1))] 0) fun x23 ↦ some (AV.tuple [], x23) else none else none
                                                    else none
                                        else none
                                    else none
                                else none
                else some (AV.tuple [], σ)
            else none
    else some (AV.tuple [], σ) := by intros; kernel_rfl

end Go.Ab


/- Induced sorting: from the order of the left places that of all. Plain Lean, no program. -/
namespace Go.Ab.Sai
open Go.Ab.Wd Go.Ab.Bs
set_option linter.unusedVariables false
set_option linter.unusedSimpArgs false

/-! ### buckets -/
/-- How many numbers are below c. -/
def hd (t : List Int) (c : Int) : Int := ((t.filter fun x => decide (x < c)).length : Int)
theorem hd_nonneg (t : List Int) (c : Int) : 0 ≤ hd t c := by unfold hd; omega
theorem hd_le (t : List Int) (c : Int) : hd t c ≤ t.length := by
  unfold hd
  have := List.length_filter_le (fun x => decide (x < c)) t
  omega
theorem hd_mono (t : List Int) {c d : Int} (h : c ≤ d) : hd t c ≤ hd t d := by
  induction t with
  | nil => simp [hd]
  | cons x t ih =>
    unfold hd at ih ⊢
    by_cases h1 : x < c
    · rw [List.filter_cons_of_pos (by simpa using h1), List.filter_cons_of_pos (by simp; omega)]
      simp only [List.length_cons]; omega
    · rw [List.filter_cons_of_neg (by simpa using h1)]
      by_cases h2 : x < d
      · rw [List.filter_cons_of_pos (by simpa using h2)]; simp only [List.length_cons]; omega
      · rw [List.filter_cons_of_neg (by simpa using h2)]; exact ih
theorem hd_zero {t : List Int} (h : ∀ x ∈ t, 0 ≤ x) : hd t 0 = 0 := by
  unfold hd
  rw [List.filter_eq_nil_iff.2 fun x hx => by have := h x hx; simp; omega]
  rfl
theorem hd_all {t : List Int} {k : Int} (h : ∀ x ∈ t, x < k) : hd t k = t.length := by
  unfold hd
  rw [List.filter_eq_self.2 fun x hx => by have := h x hx; simpa using this]
/-- The places of a number. -/
def of (t : List Int) (c : Int) : List Int := (places t.length).filter fun p => decide (rd t p = c)
theorem mem_of {t : List Int} {c p : Int} : p ∈ of t c ↔ (0 ≤ p ∧ p < t.length) ∧ rd t p = c := by
  unfold of
  rw [List.mem_filter, mem_places, decide_eq_true_iff]
theorem of_length (t : List Int) (c : Int) : ((of t c).length : Int) = hd t (c + 1) - hd t c := by
  have h1 : (of t c).length = (t.filter fun x => decide (x = c)).length := by
    have e : t = (places t.length).map (rd t) := by
      refine List.ext_getElem (by simp [places]) fun i h1 h2 => ?_
      simp only [places, List.getElem_map, List.getElem_range]
      exact (rd_getElem h1).symm
    unfold of
    conv => rhs; rw [e]
    rw [List.filter_map, List.length_map]
    rfl
  rw [h1]
  unfold hd
  induction t with
  | nil => simp
  | cons x t ih =>
    have ih' := ih (by
      have e : t = (places t.length).map (rd t) := by
        refine List.ext_getElem (by simp [places]) fun i h1 h2 => ?_
        simp only [places, List.getElem_map, List.getElem_range]
        exact (rd_getElem h1).symm
      unfold of
      conv => rhs; rw [e]
      rw [List.filter_map, List.length_map]
      rfl)
    rcases Int.lt_trichotomy x c with h | h | h
    · rw [List.filter_cons_of_neg (by simp; omega), List.filter_cons_of_pos (p := fun x => decide (x < c + 1)) (by simp; omega), List.filter_cons_of_pos (p := fun x => decide (x < c)) (by simpa using h)]
      simp only [List.length_cons]; omega
    · rw [List.filter_cons_of_pos (by simpa using h), List.filter_cons_of_pos (p := fun x => decide (x < c + 1)) (by simp; omega), List.filter_cons_of_neg (p := fun x => decide (x < c)) (by simp; omega)]
      simp only [List.length_cons]; omega
    · rw [List.filter_cons_of_neg (by simp; omega), List.filter_cons_of_neg (p := fun x => decide (x < c + 1)) (by simp; omega), List.filter_cons_of_neg (p := fun x => decide (x < c)) (by simp; omega)]
      exact ih'
theorem count_le {t l : List Int} {c : Int} (hn : l.Nodup) (h : ∀ p ∈ l, (0 ≤ p ∧ p < t.length) ∧ rd t p = c) : (l.length : Int) ≤ hd t (c + 1) - hd t c := by
  rw [← of_length]
  have := nodup_sub_len hn (m := of t c) fun p hp => mem_of.2 (h p hp)
  omega
theorem count_ge {t l : List Int} {c : Int} (h : ∀ p : Int, 0 ≤ p → p < t.length → rd t p = c → p ∈ l) : hd t (c + 1) - hd t c ≤ l.length := by
  rw [← of_length]
  have := nodup_sub_len (l := of t c) ((nodup_places _).filter _) (m := l) fun p hp => by
    have := mem_of.1 hp
    exact h p this.1.1 this.1.2 this.2
  omega
theorem bucket_of (t : List Int) {j : Int} (j0 : 0 ≤ j) (h0 : ∀ x ∈ t, 0 ≤ x) (k : Nat) (h1 : j < hd t k) : ∃ c : Int, 0 ≤ c ∧ c < k ∧ hd t c ≤ j ∧ j < hd t (c + 1) := by
  induction k with
  | zero => have := hd_zero h0; rw [show ((0 : Nat) : Int) = 0 from rfl] at h1; omega
  | succ k ih =>
    by_cases h : j < hd t k
    · obtain ⟨c, c0, c1, c2, c3⟩ := ih h
      exact ⟨c, c0, by omega, c2, c3⟩
    · exact ⟨k, by omega, by omega, by omega, h1⟩
/-- What stands from a on, ahead of b. -/
def seg (l : List Int) (a b : Int) : List Int := (List.range (b - a).toNat).map fun i : Nat => rd l (a + i)
theorem seg_length (l : List Int) (a b : Int) : (seg l a b).length = (b - a).toNat := by simp [seg]
theorem mem_seg {l : List Int} {a b x : Int} : x ∈ seg l a b ↔ ∃ j : Int, a ≤ j ∧ j < b ∧ rd l j = x := by
  simp only [seg, List.mem_map, List.mem_range]
  constructor
  · rintro ⟨i, hi, rfl⟩; exact ⟨a + i, by omega, by omega, rfl⟩
  · rintro ⟨j, h0, h1, rfl⟩; exact ⟨(j - a).toNat, by omega, by rw [show a + ((j - a).toNat : Int) = j by omega]⟩
theorem seg_nodup {l : List Int} {a b : Int} (h : ∀ i j : Int, a ≤ i → i < j → j < b → rd l i ≠ rd l j) : (seg l a b).Nodup := by
  unfold seg List.Nodup
  rw [List.pairwise_map]
  have : (List.range (b - a).toNat).Pairwise (· < ·) := List.pairwise_lt_range
  refine this.imp_of_mem ?_
  intro i j hi hj hij
  rw [List.mem_range] at hi hj
  exact h _ _ (by omega) (by omega) (by omega)

/-! ### short places -/
/-- Is the place's suffix less than the next one's? -/
def S (short : List Bool) (p : Int) : Bool := rdOf false short p
structure Short (t : List Int) (short : List Bool) : Prop where
  len : short.length = t.length
  last : S short (t.length - 1) = false
  step : ∀ p : Int, 0 ≤ p → p + 1 < t.length → S short p = (decide (rd t p < rd t (p + 1)) || (decide (rd t p = rd t (p + 1)) && S short (p + 1)))
theorem Short.yes {t : List Int} {short : List Bool} (h : Short t short) {p : Int} (p0 : 0 ≤ p) (p1 : p < t.length) (hs : S short p = true) : p + 1 < t.length ∧ (rd t p < rd t (p + 1) ∨ (rd t p = rd t (p + 1) ∧ S short (p + 1) = true)) := by
  have hlt : p + 1 < t.length := by
    apply Classical.byContradiction
    intro hn
    have e : p = t.length - 1 := by omega
    rw [e, h.last] at hs
    simp at hs
  have := h.step p p0 hlt
  rw [hs] at this
  refine ⟨hlt, ?_⟩
  by_cases c : rd t p < rd t (p + 1)
  · exact .inl c
  · simp [c] at this
    exact .inr this
theorem Short.no {t : List Int} {short : List Bool} (h : Short t short) {p : Int} (p0 : 0 ≤ p) (p1 : p + 1 < t.length) (hs : S short p = false) : rd t (p + 1) < rd t p ∨ (rd t p = rd t (p + 1) ∧ S short (p + 1) = false) := by
  have := h.step p p0 p1
  rw [hs] at this
  simp at this
  by_cases c : rd t p = rd t (p + 1)
  · exact .inr ⟨c, this.2 c⟩
  · exact .inl (by omega)
/-- The first of its row of short ones. -/
def Lf (short : List Bool) (p : Int) : Prop := 0 < p ∧ S short p = true ∧ S short (p - 1) = false
def code (t : List Int) (short : List Bool) (p : Int) : Int := 2 * rd t p + if S short p = true then 1 else 0
theorem code_no {t : List Int} {short : List Bool} {p : Int} (h : S short p = false) : code t short p = 2 * rd t p := by unfold code; rw [h]; simp
theorem code_yes {t : List Int} {short : List Bool} {p : Int} (h : S short p = true) : code t short p = 2 * rd t p + 1 := by unfold code; rw [h]; simp
/-- Two orders of places, told by lists: A of the long and the left ones, B of all. -/
structure Keys (t : List Int) (short : List Bool) (A B : Int → List Int) : Prop where
  An : A t.length = []
  AL : ∀ p : Int, 0 ≤ p → p < t.length → S short p = false → A p = code t short p :: A (p + 1)
  AM : ∀ p : Int, 0 ≤ p → p < t.length → Lf short p → ∃ r, A p = code t short p :: r
  BL : ∀ p : Int, 0 ≤ p → p < t.length → S short p = false → B p = A p
  BS : ∀ p : Int, 0 ≤ p → p < t.length → S short p = true → B p = code t short p :: B (p + 1)
def le (a b : List Int) : Prop := ¬ llt b a
theorem le_refl (a : List Int) : le a a := llt_irrefl a
theorem le_trans {a b c : List Int} (h : le a b) (k : le b c) : le a c := by
  intro hca
  rcases llt_tri a b with h1 | h1 | h1
  · exact k (llt_trans hca h1)
  · rw [← h1] at k; exact k hca
  · exact h h1
theorem le_nil (a : List Int) : le [] a := by unfold le; cases a <;> simp [llt]
theorem le_cons {x : Int} {a b : List Int} (h : le a b) : le (x :: a) (x :: b) := by unfold le at h ⊢; simp only [llt]; rintro (h1 | ⟨_, h1⟩); omega; exact h h1
theorem le_head {x y : Int} {a b : List Int} (h : x < y) : le (x :: a) (y :: b) := by unfold le; simp only [llt]; rintro (h1 | ⟨h1, _⟩) <;> omega
theorem le_of_llt {a b : List Int} (h : llt a b) : le a b := llt_asymm h
theorem le_total (a b : List Int) : le a b ∨ le b a := by
  rcases llt_tri a b with h | h | h
  · exact .inl (le_of_llt h)
  · rw [h]; exact .inl (le_refl b)
  · exact .inr (le_of_llt h)
end Go.Ab.Sai


/- Induced sorting: the three passes. Plain Lean, no program. -/
namespace Go.Ab.Sai
open Go.Ab.Wd Go.Ab.Bs
set_option linter.unusedVariables false
set_option linter.unusedSimpArgs false

/-! ### what the program does -/
abbrev St := List Int × List Int
/-- A place put at the end of its bucket, and the end moved down. -/
def down (t : List Int) (st : St) (p : Int) : Option St :=
  if 0 ≤ p ∧ p < t.length ∧ 0 ≤ rd t p ∧ rd t p < st.2.length ∧ 0 ≤ rd st.2 (rd t p) - 1 ∧ rd st.2 (rd t p) - 1 < st.1.length then
    some (st.1.set (rd st.2 (rd t p) - 1).toNat p, st.2.set (rd t p).toNat (rd st.2 (rd t p) - 1)) else none
/-- A place put at the head of its bucket, and the head moved up. -/
def upw (t : List Int) (st : St) (p : Int) : Option St :=
  if 0 ≤ p ∧ p < t.length ∧ 0 ≤ rd t p ∧ rd t p < st.2.length ∧ 0 ≤ rd st.2 (rd t p) ∧ rd st.2 (rd t p) < st.1.length then
    some (st.1.set (rd st.2 (rd t p)).toNat p, st.2.set (rd t p).toNat (rd st.2 (rd t p) + 1)) else none
def put (t : List Int) (short : List Bool) (st : St) (p : Int) : Option St :=
  if 0 ≤ p then (if p < short.length then (if S short p = true then some st else upw t st p) else none) else some st
def pass1 (t : List Int) : List Int → St → Option St
  | [], st => some st
  | p :: ps, st => (down t st p).bind (pass1 t ps)
def pass2 (t : List Int) (short : List Bool) : Nat → Int → St → Option St
  | 0, _, st => some st
  | m + 1, i, st => if 0 < rd st.1 i then (put t short st (rd st.1 i - 1)).bind (pass2 t short m (i + 1)) else pass2 t short m (i + 1) st
def pass3 (t : List Int) (short : List Bool) : Nat → Int → St → Option St
  | 0, _, st => some st
  | m + 1, i, st =>
    if 0 ≤ rd st.1 i - 1 then (if rd st.1 i - 1 < short.length then (if S short (rd st.1 i - 1) = true then (down t st (rd st.1 i - 1)).bind (pass3 t short m (i - 1)) else pass3 t short m (i - 1) st) else none)
    else pass3 t short m (i - 1) st
def heads (t : List Int) (k : Nat) : List Int := (List.range k).map fun c : Nat => hd t c
def tails (t : List Int) (k : Nat) : List Int := (List.range k).map fun c : Nat => hd t (c + 1)
def induce (t : List Int) (short : List Bool) (k : Nat) (some_ : List Int) : Option (List Int) :=
  (pass1 t some_.reverse (List.replicate t.length (-1), tails t k)).bind fun st =>
    (put t short (st.1, heads t k) (t.length - 1)).bind fun st =>
      (pass2 t short t.length 0 st).bind fun st =>
        (pass3 t short t.length (t.length - 1) (st.1, tails t k)).map (·.1)
theorem heads_length (t : List Int) (k : Nat) : (heads t k).length = k := by simp [heads]
theorem tails_length (t : List Int) (k : Nat) : (tails t k).length = k := by simp [tails]
theorem rd_heads (t : List Int) (k : Nat) {c : Int} (c0 : 0 ≤ c) (c1 : c < k) : rd (heads t k) c = hd t c := by
  obtain ⟨c, rfl⟩ := Int.eq_ofNat_of_zero_le c0
  rw [rd_getElem (by rw [heads_length]; omega)]
  simp [heads]
theorem rd_tails (t : List Int) (k : Nat) {c : Int} (c0 : 0 ≤ c) (c1 : c < k) : rd (tails t k) c = hd t (c + 1) := by
  obtain ⟨c, rfl⟩ := Int.eq_ofNat_of_zero_le c0
  rw [rd_getElem (by rw [tails_length]; omega)]
  simp [tails]

/-! ### the world of a list -/
structure Base (t : List Int) (short : List Bool) (k : Nat) (A B : Int → List Int) : Prop where
  pos : 0 < t.length
  rng : ∀ x ∈ t, 0 ≤ x ∧ x < k
  sh : Short t short
  keys : Keys t short A B
variable {t : List Int} {short : List Bool} {k : Nat} {A B : Int → List Int}
theorem Base.at_ (b : Base t short k A B) {p : Int} (p0 : 0 ≤ p) (p1 : p < t.length) : 0 ≤ rd t p ∧ rd t p < k := b.rng _ (rd_mem p0 p1)
theorem Base.bucket (b : Base t short k A B) {j : Int} (j0 : 0 ≤ j) (j1 : j < t.length) : ∃ c : Int, 0 ≤ c ∧ c < k ∧ hd t c ≤ j ∧ j < hd t (c + 1) :=
  bucket_of t j0 (fun x hx => (b.rng x hx).1) k (by rw [hd_all fun x hx => (b.rng x hx).2]; exact j1)
/-- Buckets lie one behind the other. -/
theorem hd_next (t : List Int) {c d : Int} (h : c < d) : hd t (c + 1) ≤ hd t d := hd_mono t (by omega)

/-! ### pass 1: the left places, from the last one on -/
/-- How many of some places have a number. -/
def cnt (t : List Int) (l : List Int) (c : Int) : Int := ((l.filter fun p => decide (rd t p = c)).length : Int)
theorem cnt_nonneg (t l : List Int) (c : Int) : 0 ≤ cnt t l c := by unfold cnt; omega
theorem cnt_cons (t : List Int) (p : Int) (l : List Int) (c : Int) : cnt t (p :: l) c = cnt t l c + if rd t p = c then 1 else 0 := by
  unfold cnt
  by_cases h : rd t p = c
  · rw [List.filter_cons_of_pos (by simpa using h), if_pos h]; simp only [List.length_cons]; omega
  · rw [List.filter_cons_of_neg (by simpa using h), if_neg h]; omega
/-- Behind pass 1: the places done stand at the buckets' ends, as they stood; all else is free. -/
structure Seeds (t : List Int) (k : Nat) (l : List Int) (st : St) : Prop where
  l1 : st.1.length = t.length
  l2 : st.2.length = k
  tl : ∀ c : Int, 0 ≤ c → c < k → rd st.2 c = hd t (c + 1) - cnt t l c
  there : ∀ p ∈ l, ∃ j : Int, hd t (rd t p + 1) - cnt t l (rd t p) ≤ j ∧ j < hd t (rd t p + 1) ∧ rd st.1 j = p
  seed : ∀ c : Int, 0 ≤ c → c < k → ∀ j : Int, hd t (c + 1) - cnt t l c ≤ j → j < hd t (c + 1) → rd st.1 j ∈ l ∧ rd t (rd st.1 j) = c
  ord : ∀ c : Int, 0 ≤ c → c < k → ∀ i j : Int, hd t (c + 1) - cnt t l c ≤ i → i < j → j < hd t (c + 1) → ∃ a b, l = a ++ rd st.1 i :: b ∧ rd st.1 j ∈ b
  free : ∀ j : Int, 0 ≤ j → j < t.length → (∀ c : Int, 0 ≤ c → c < k → hd t c ≤ j → j < hd t (c + 1) → j < hd t (c + 1) - cnt t l c) → rd st.1 j = -1
theorem cnt_le (b : Base t short k A B) {l : List Int} (hn : l.Nodup) (h : ∀ p ∈ l, 0 ≤ p ∧ p < t.length) (c : Int) : cnt t l c ≤ hd t (c + 1) - hd t c := by
  unfold cnt
  refine count_le (hn.filter _) fun p hp => ?_
  rw [List.mem_filter, decide_eq_true_iff] at hp
  exact ⟨h p hp.1, hp.2⟩
theorem pass1_spec (b : Base t short k A B) : ∀ (l done : List Int) (st : St), (l.reverse ++ done).Nodup → (∀ p ∈ l.reverse ++ done, 0 ≤ p ∧ p < t.length) → Seeds t k done st → ∃ st', pass1 t l st = some st' ∧ Seeds t k (l.reverse ++ done) st'
  | [], done, st, _, _, h => ⟨st, rfl, by simpa using h⟩
  | p :: l, done, st, hn, hr, h => by
    have hp := hr p (by simp)
    have e : (p :: l).reverse ++ done = l.reverse ++ (p :: done) := by simp
    rw [e] at hn hr ⊢
    have hn2 : (p :: done).Nodup := (List.nodup_append.1 hn).2.1
    have hr2 : ∀ q ∈ p :: done, 0 ≤ q ∧ q < t.length := fun q hq => hr q (List.mem_append_right _ hq)
    obtain ⟨c0, c1⟩ := b.at_ hp.1 hp.2
    obtain ⟨c, hc⟩ : ∃ c, rd t p = c := ⟨_, rfl⟩
    rw [hc] at c0 c1
    have hle := cnt_le b hn2 hr2 c
    rw [cnt_cons, if_pos hc] at hle
    have hnn := cnt_nonneg t done c
    have hh := hd_nonneg t c
    have ht := hd_le t (c + 1)
    have htl := h.tl c c0 c1
    have hJ : 0 ≤ rd st.2 c - 1 ∧ rd st.2 c - 1 < t.length := by omega
    have hd1 : down t st p = some (st.1.set (rd st.2 c - 1).toNat p, st.2.set c.toNat (rd st.2 c - 1)) := by
      unfold down
      rw [hc, if_pos ⟨hp.1, hp.2, c0, by rw [h.l2]; exact c1, hJ.1, by rw [h.l1]; exact hJ.2⟩]
    obtain ⟨J, hJe⟩ : ∃ J, rd st.2 c - 1 = J := ⟨_, rfl⟩
    rw [hJe] at hd1 hJ
    have hcc : ∀ d : Int, cnt t (p :: done) d = cnt t done d + if c = d then 1 else 0 := fun d => by rw [cnt_cons, hc]
    have hrd : ∀ j : Int, 0 ≤ j → rd (st.1.set J.toNat p) j = if J = j then p else rd st.1 j := fun j j0 => rd_set hJ.1 (by rw [h.l1]; exact hJ.2) j0
    have hpd : p ∉ done := (List.nodup_cons.1 hn2).1
    have hbk : ∀ d : Int, c ≠ d → 0 ≤ d → d < k → ∀ j : Int, hd t d ≤ j → j < hd t (d + 1) → J ≠ j := by
      intro d hne d0 d1 j j0 j1 e
      rcases Int.lt_trichotomy c d with hl | hl | hl
      · have := hd_next t hl; omega
      · exact hne hl
      · have := hd_next t hl; omega
    have h' : Seeds t k (p :: done) (st.1.set J.toNat p, st.2.set c.toNat J) := by
      refine ⟨by simpa using h.l1, by simpa using h.l2, ?_, ?_, ?_, ?_, ?_⟩
      · intro d d0 d1
        rw [rd_set c0 (by rw [h.l2]; exact c1) d0, hcc]
        by_cases e : c = d
        · subst e; rw [if_pos rfl, if_pos rfl]; omega
        · rw [if_neg e, if_neg e, h.tl d d0 d1]; omega
      · intro q hq
        rcases List.mem_cons.1 hq with rfl | hq
        · exact ⟨J, by rw [hc, hcc, if_pos rfl]; omega, by rw [hc]; omega, by rw [hrd J hJ.1, if_pos rfl]⟩
        · obtain ⟨j, j0, j1, e⟩ := h.there q hq
          have hq1 := hr2 q (List.mem_cons_of_mem _ hq)
          have hqc := b.at_ hq1.1 hq1.2
          have hqn := cnt_nonneg t done (rd t q)
          have hlq := cnt_le b (List.nodup_cons.1 hn2).2 (fun x hx => hr2 x (List.mem_cons_of_mem _ hx)) (rd t q)
          have hh0 := hd_nonneg t (rd t q)
          refine ⟨j, by rw [hcc]; split <;> omega, j1, ?_⟩
          rw [hrd j (by omega), if_neg ?_, e]
          intro e'
          by_cases ec : c = rd t q
          · rw [← ec] at j0; omega
          · exact hbk _ ec hqc.1 hqc.2 j (by omega) j1 e'
      · intro d d0 d1 j j0 j1
        rw [hcc] at j0
        have hln := cnt_nonneg t done d
        have hld := cnt_le b (List.nodup_cons.1 hn2).2 (fun x hx => hr2 x (List.mem_cons_of_mem _ hx)) d
        have hh0 := hd_nonneg t d
        by_cases ej : J = j
        · have ed : c = d := by
            apply Classical.byContradiction
            intro hne
            rw [if_neg hne] at j0
            exact hbk d hne d0 d1 j (by omega) j1 ej
          subst ed
          show rd (st.1.set J.toNat p) j ∈ _ ∧ _
          rw [hrd j (by omega), if_pos ej]
          exact ⟨List.mem_cons_self .., hc⟩
        · have hj : hd t (d + 1) - cnt t done d ≤ j := by
            by_cases ed : c = d
            · subst ed; rw [if_pos rfl] at j0; omega
            · rw [if_neg ed] at j0; omega
          show rd (st.1.set J.toNat p) j ∈ _ ∧ rd t (rd (st.1.set J.toNat p) j) = d
          rw [hrd j (by omega), if_neg ej]
          have := h.seed d d0 d1 j hj j1
          exact ⟨List.mem_cons_of_mem _ this.1, this.2⟩
      · intro d d0 d1 i j i0 hij j1
        rw [hcc] at i0
        have hln := cnt_nonneg t done d
        have hld := cnt_le b (List.nodup_cons.1 hn2).2 (fun x hx => hr2 x (List.mem_cons_of_mem _ hx)) d
        have hh0 := hd_nonneg t d
        show ∃ a b, p :: done = a ++ rd (st.1.set J.toNat p) i :: b ∧ rd (st.1.set J.toNat p) j ∈ b
        have hlow : c = d → hd t (d + 1) - cnt t done d - 1 = J := fun ed => by subst ed; omega
        have hjn : J ≠ j := by
          intro e
          by_cases ed : c = d
          · have := hlow ed; rw [if_pos ed] at i0; omega
          · rw [if_neg ed] at i0; exact hbk d ed d0 d1 j (by omega) j1 e
        have hj2 : hd t (d + 1) - cnt t done d ≤ j := by
          by_cases ed : c = d
          · rw [if_pos ed] at i0; omega
          · rw [if_neg ed] at i0; omega
        rw [hrd i (by split at i0 <;> omega), hrd j (by omega), if_neg hjn]
        by_cases ei : J = i
        · rw [if_pos ei]
          exact ⟨[], done, rfl, (h.seed d d0 d1 j hj2 j1).1⟩
        · rw [if_neg ei]
          have hi2 : hd t (d + 1) - cnt t done d ≤ i := by
            by_cases ed : c = d
            · have := hlow ed; rw [if_pos ed] at i0; omega
            · rw [if_neg ed] at i0; omega
          obtain ⟨x, y, e1, e2⟩ := h.ord d d0 d1 i j hi2 hij j1
          exact ⟨p :: x, y, by rw [e1]; rfl, e2⟩
      · intro j j0 j1 hf
        show rd (st.1.set J.toNat p) j = -1
        have hne : J ≠ j := by
          intro e
          have := hf c c0 c1 (by omega) (by omega)
          rw [hcc, if_pos rfl] at this
          omega
        rw [hrd j j0, if_neg hne]
        refine h.free j j0 j1 fun d d0 d1 k0 k1 => ?_
        have := hf d d0 d1 k0 k1
        rw [hcc] at this
        split at this <;> omega
    obtain ⟨st', hs, hS⟩ := pass1_spec b l (p :: done) _ hn hr h'
    exact ⟨st', by simp only [pass1]; rw [hd1]; exact hs, hS⟩
theorem seeds_start : Seeds t k [] (List.replicate t.length (-1), tails t k) := by
  refine ⟨by simp, tails_length t k, fun c c0 c1 => ?_, fun p hp => by simp at hp, fun c c0 c1 j j0 j1 => ?_, fun c c0 c1 i j i0 hij j1 => ?_, fun j j0 j1 _ => ?_⟩
  · show rd (tails t k) c = _
    rw [rd_tails t k c0 c1]
    simp [cnt]
  · simp [cnt] at j0; omega
  · simp [cnt] at i0; omega
  · show rd (List.replicate t.length (-1)) j = -1
    obtain ⟨j, rfl⟩ := Int.eq_ofNat_of_zero_le j0
    rw [rd_getElem (by simp; omega)]
    simp
end Go.Ab.Sai


/- Induced sorting: pass 2. Plain Lean, no program. -/
namespace Go.Ab.Sai
open Go.Ab.Wd Go.Ab.Bs
set_option linter.unusedVariables false
set_option linter.unusedSimpArgs false
variable {t : List Int} {short : List Bool} {k : Nat} {A B : Int → List Int}

structure Q (t : List Int) (short : List Bool) (k : Nat) (A : Int → List Int) (l : List Int) (st : St) : Prop where
  l1 : st.1.length = t.length
  l2 : st.2.length = k
  hlo : ∀ c : Int, 0 ≤ c → c < k → hd t c ≤ rd st.2 c ∧ rd st.2 c ≤ hd t (c + 1) - cnt t l c
  low : ∀ c : Int, 0 ≤ c → c < k → ∀ j : Int, hd t c ≤ j → j < rd st.2 c → (0 ≤ rd st.1 j ∧ rd st.1 j < t.length) ∧ S short (rd st.1 j) = false ∧ rd t (rd st.1 j) = c
  seed : ∀ c : Int, 0 ≤ c → c < k → ∀ j : Int, hd t (c + 1) - cnt t l c ≤ j → j < hd t (c + 1) → rd st.1 j ∈ l ∧ rd t (rd st.1 j) = c
  there : ∀ p ∈ l, ∃ j : Int, 0 ≤ j ∧ j < t.length ∧ rd st.1 j = p
  free : ∀ c : Int, 0 ≤ c → c < k → ∀ j : Int, rd st.2 c ≤ j → j < hd t (c + 1) - cnt t l c → rd st.1 j = -1
  inj : ∀ i j : Int, 0 ≤ i → i < j → j < t.length → 0 ≤ rd st.1 i → rd st.1 i ≠ rd st.1 j
  ord : ∀ i j : Int, 0 ≤ i → i < j → j < t.length → 0 ≤ rd st.1 i → 0 ≤ rd st.1 j → le (A (rd st.1 i)) (A (rd st.1 j))
/-- The left places: all of them, each once. -/
structure Lefts (t : List Int) (short : List Bool) (l : List Int) : Prop where
  nd : l.Nodup
  mem : ∀ p : Int, p ∈ l ↔ (0 ≤ p ∧ p < t.length) ∧ Lf short p
/-- Where a place that stands in the array stands. -/
theorem Q.loc (b : Base t short k A B) {l : List Int} (hl : Lefts t short l) {st : St} (q : Q t short k A l st) {j : Int} (j0 : 0 ≤ j) (j1 : j < t.length) (hv : 0 ≤ rd st.1 j) :
    ∃ c : Int, 0 ≤ c ∧ c < k ∧ hd t c ≤ j ∧ j < hd t (c + 1) ∧ rd t (rd st.1 j) = c ∧ rd st.1 j < t.length ∧ ((S short (rd st.1 j) = false ∧ j < rd st.2 c) ∨ (rd st.1 j ∈ l ∧ rd st.2 c ≤ j ∧ S short (rd st.1 j) = true)) := by
  obtain ⟨c, c0, c1, h0, h1⟩ := b.bucket j0 j1
  have hh := q.hlo c c0 c1
  refine ⟨c, c0, c1, h0, h1, ?_⟩
  by_cases e1 : j < rd st.2 c
  · have := q.low c c0 c1 j h0 e1
    exact ⟨this.2.2, this.1.2, .inl ⟨this.2.1, e1⟩⟩
  by_cases e2 : j < hd t (c + 1) - cnt t l c
  · have := q.free c c0 c1 j (by omega) e2
    omega
  have := q.seed c c0 c1 j (by omega) h1
  have hm := (hl.mem _).1 this.1
  exact ⟨this.2, hm.1.2, .inr ⟨this.1, by omega, hm.2.2.1⟩⟩
theorem key_head (b : Base t short k A B) {l : List Int} (hl : Lefts t short l) {p : Int} (p0 : 0 ≤ p) (p1 : p < t.length) (h : S short p = false ∨ p ∈ l) : ∃ r, A p = code t short p :: r := by
  rcases h with h | h
  · exact ⟨_, b.keys.AL p p0 p1 h⟩
  · exact b.keys.AM p p0 p1 ((hl.mem p).1 h).2
/-- A long place that isn't there yet is put at its bucket's head. -/
theorem Q.add (b : Base t short k A B) {l : List Int} (hl : Lefts t short l) {st : St} (q : Q t short k A l st) {p : Int} (p0 : 0 ≤ p) (p1 : p < t.length) (hs : S short p = false)
    (hnew : ∀ j : Int, 0 ≤ j → j < t.length → rd st.1 j ≠ p)
    (hord : ∀ j : Int, 0 ≤ j → j < t.length → 0 ≤ rd st.1 j → S short (rd st.1 j) = false → rd t (rd st.1 j) = rd t p → le (A (rd st.1 j + 1)) (A (p + 1))) :
    ∃ J : Int, rd st.2 (rd t p) = J ∧ 0 ≤ J ∧ J < t.length ∧ rd st.1 J = -1 ∧ upw t st p = some (st.1.set J.toNat p, st.2.set (rd t p).toNat (J + 1)) ∧ Q t short k A l (st.1.set J.toNat p, st.2.set (rd t p).toNat (J + 1)) := by
  obtain ⟨c0, c1⟩ := b.at_ p0 p1
  obtain ⟨c, hc⟩ : ∃ c, rd t p = c := ⟨_, rfl⟩
  rw [hc] at c0 c1 ⊢
  obtain ⟨J, hJ⟩ : ∃ J, rd st.2 c = J := ⟨_, rfl⟩
  have hh := q.hlo c c0 c1
  rw [hJ] at hh
  have hn0 := hd_nonneg t c
  have hn1 := hd_le t (c + 1)
  have hcn := cnt_nonneg t l c
  -- there is room
  have hroom : J < hd t (c + 1) - cnt t l c := by
    have hcount := count_le (t := t) (c := c) (l := (seg st.1 (hd t c) J ++ seg st.1 (hd t (c + 1) - cnt t l c) (hd t (c + 1))) ++ [p]) ?_ ?_
    · simp only [List.length_append, seg_length, List.length_cons, List.length_nil] at hcount
      omega
    · refine List.nodup_append.2 ⟨List.nodup_append.2 ⟨seg_nodup fun i j i0 hij j1 => ?_, seg_nodup fun i j i0 hij j1 => ?_, ?_⟩, by simp, ?_⟩
      · exact q.inj i j (by omega) hij (by omega) (q.low c c0 c1 i i0 (by omega)).1.1
      · have := (hl.mem _).1 (q.seed c c0 c1 i i0 (by omega)).1
        exact q.inj i j (by omega) hij (by omega) this.1.1
      · intro x hx y hy e
        obtain ⟨i, i0, i1, rfl⟩ := mem_seg.1 hx
        obtain ⟨j, j0, j1, rfl⟩ := mem_seg.1 hy
        exact q.inj i j (by omega) (by omega) (by omega) (q.low c c0 c1 i i0 (by omega)).1.1 e
      · intro x hx y hy e
        rw [List.mem_singleton] at hy
        rw [hy] at e
        rcases List.mem_append.1 hx with hx | hx
        · obtain ⟨i, i0, i1, rfl⟩ := mem_seg.1 hx
          exact hnew i (by omega) (by omega) e
        · obtain ⟨i, i0, i1, rfl⟩ := mem_seg.1 hx
          exact hnew i (by omega) (by omega) e
    · intro x hx
      rcases List.mem_append.1 hx with hx | hx
      · rcases List.mem_append.1 hx with hx | hx
        · obtain ⟨i, i0, i1, rfl⟩ := mem_seg.1 hx
          have := q.low c c0 c1 i i0 (by omega)
          exact ⟨this.1, this.2.2⟩
        · obtain ⟨i, i0, i1, rfl⟩ := mem_seg.1 hx
          have := q.seed c c0 c1 i i0 (by omega)
          exact ⟨((hl.mem _).1 this.1).1, this.2⟩
      · rw [List.mem_singleton] at hx
        rw [hx]
        exact ⟨⟨p0, p1⟩, hc⟩
  have J0 : 0 ≤ J := by omega
  have J1 : J < t.length := by omega
  have hfree := q.free c c0 c1 J (by omega) hroom
  have hrd : ∀ j : Int, 0 ≤ j → rd (st.1.set J.toNat p) j = if J = j then p else rd st.1 j := fun j j0 => rd_set J0 (by rw [q.l1]; exact J1) j0
  have hrh : ∀ d : Int, 0 ≤ d → rd (st.2.set c.toNat (J + 1)) d = if c = d then J + 1 else rd st.2 d := fun d d0 => rd_set c0 (by rw [q.l2]; exact c1) d0
  have hbk : ∀ d : Int, c ≠ d → ∀ j : Int, hd t d ≤ j → j < hd t (d + 1) → J ≠ j := by
    intro d hne j j0 j1 e
    rcases Int.lt_trichotomy c d with hlt | hlt | hlt
    · have := hd_next t hlt; omega
    · exact hne hlt
    · have := hd_next t hlt; omega
  refine ⟨J, hJ, J0, J1, hfree, ?_, ?_⟩
  · unfold upw
    rw [hc, hJ, if_pos ⟨p0, p1, c0, by rw [q.l2]; exact c1, J0, by rw [q.l1]; exact J1⟩]
  -- the order with all others
  have hall : ∀ j : Int, 0 ≤ j → j < t.length → 0 ≤ rd st.1 j → (j < J → le (A (rd st.1 j)) (A p)) ∧ (J < j → le (A p) (A (rd st.1 j))) := by
    intro j j0 j1 hv
    obtain ⟨d, d0, d1, b0, b1, ht, hlt, hcase⟩ := q.loc b hl j0 j1 hv
    have hk1 := key_head b hl hv hlt (hcase.elim (fun h => .inl h.1) (fun h => .inr h.1))
    have hk2 := b.keys.AL p p0 p1 hs
    obtain ⟨r, hr⟩ := hk1
    have hcp := code_no (t := t) hs
    have hcj : 2 * d ≤ code t short (rd st.1 j) ∧ code t short (rd st.1 j) ≤ 2 * d + 1 := by
      unfold code; rw [ht]; split <;> omega
    constructor
    · intro hj
      rcases Int.lt_trichotomy d c with hdc | hdc | hdc
      · rw [hr, hk2]
        exact le_head (by rw [hcp, hc]; omega)
      · subst hdc
        rcases hcase with ⟨h1, h2⟩ | ⟨h1, h2, h3⟩
        · rw [b.keys.AL _ hv hlt h1, hk2, code_no h1, hcp, ht, hc]
          exact le_cons (hord j j0 j1 hv h1 (by rw [ht, hc]))
        · omega
      · have := hd_next t hdc
        omega
    · intro hj
      rcases Int.lt_trichotomy d c with hdc | hdc | hdc
      · have := hd_next t hdc
        omega
      · subst hdc
        rcases hcase with ⟨h1, h2⟩ | ⟨h1, h2, h3⟩
        · omega
        · rw [hr, hk2]
          exact le_head (by rw [hcp, hc, code_yes h3, ht]; omega)
      · rw [hr, hk2]
        exact le_head (by rw [hcp, hc]; omega)
  refine ⟨by simpa using q.l1, by simpa using q.l2, ?_, ?_, ?_, ?_, ?_, ?_, ?_⟩
  · intro d d0 d1
    show hd t d ≤ rd (st.2.set c.toNat (J + 1)) d ∧ _
    rw [hrh d d0]
    by_cases e : c = d
    · subst e; rw [if_pos rfl]; omega
    · rw [if_neg e]; exact q.hlo d d0 d1
  · intro d d0 d1 j j0 j1
    show (0 ≤ rd (st.1.set J.toNat p) j ∧ rd (st.1.set J.toNat p) j < t.length) ∧ S short (rd (st.1.set J.toNat p) j) = false ∧ rd t (rd (st.1.set J.toNat p) j) = d
    have hd0 := hd_nonneg t d
    rw [hrd j (by omega)]
    have j1' : j < rd (st.2.set c.toNat (J + 1)) d := j1
    rw [hrh d d0] at j1'
    by_cases ej : J = j
    · have e : c = d := by
        apply Classical.byContradiction
        intro hne
        rw [if_neg hne] at j1'
        have := q.hlo d d0 d1
        have := cnt_nonneg t l d
        exact hbk d hne j j0 (by omega) ej
      rw [if_pos ej]
      exact ⟨⟨p0, p1⟩, hs, by rw [hc, e]⟩
    · rw [if_neg ej]
      by_cases e : c = d
      · subst e; rw [if_pos rfl] at j1'; exact q.low c d0 d1 j j0 (by omega)
      · rw [if_neg e] at j1'; exact q.low d d0 d1 j j0 j1'
  · intro d d0 d1 j j0 j1
    show rd (st.1.set J.toNat p) j ∈ l ∧ rd t (rd (st.1.set J.toNat p) j) = d
    have hh2 := q.hlo d d0 d1
    have hd0 := hd_nonneg t d
    rw [hrd j (by omega), if_neg ?_]
    · exact q.seed d d0 d1 j j0 j1
    · intro e
      by_cases ed : c = d
      · subst ed; omega
      · exact hbk d ed j (by omega) j1 e
  · intro x hx
    obtain ⟨j, j0, j1, e⟩ := q.there x hx
    refine ⟨j, j0, j1, ?_⟩
    show rd (st.1.set J.toNat p) j = x
    rw [hrd j j0, if_neg ?_]
    · exact e
    · intro e'
      have := ((hl.mem x).1 hx).1
      rw [← e', hfree] at e
      omega
  · intro d d0 d1 j j0 j1
    show rd (st.1.set J.toNat p) j = -1
    have j0' : rd (st.2.set c.toNat (J + 1)) d ≤ j := j0
    rw [hrh d d0] at j0'
    have hh2 := q.hlo d d0 d1
    have hd0 := hd_nonneg t d
    have hcd := cnt_nonneg t l d
    by_cases e : c = d
    · subst e
      rw [if_pos rfl] at j0'
      rw [hrd j (by omega), if_neg (by omega)]
      exact q.free c d0 d1 j (by omega) j1
    · rw [if_neg e] at j0'
      rw [hrd j (by omega), if_neg fun e' => hbk d e j (by omega) (by omega) e']
      exact q.free d d0 d1 j j0' j1
  · intro i j i0 hij j1 hv
    show rd (st.1.set J.toNat p) i ≠ rd (st.1.set J.toNat p) j
    have hv' : 0 ≤ rd (st.1.set J.toNat p) i := hv
    rw [hrd i i0] at hv' ⊢
    rw [hrd j (by omega)]
    by_cases e1 : J = i
    · rw [if_pos e1, if_neg (by omega)]
      exact fun e => hnew j (by omega) j1 e.symm
    · rw [if_neg e1] at hv' ⊢
      by_cases e2 : J = j
      · rw [if_pos e2]
        exact hnew i i0 (by omega)
      · rw [if_neg e2]
        exact q.inj i j i0 hij j1 hv'
  · intro i j i0 hij j1 hv hw
    show le (A (rd (st.1.set J.toNat p) i)) (A (rd (st.1.set J.toNat p) j))
    have hv' : 0 ≤ rd (st.1.set J.toNat p) i := hv
    have hw' : 0 ≤ rd (st.1.set J.toNat p) j := hw
    rw [hrd i i0] at hv' ⊢
    rw [hrd j (by omega)] at hw' ⊢
    by_cases e1 : J = i
    · rw [if_neg (show ¬ J = j by omega)] at hw' ⊢
      rw [if_pos e1]
      exact (hall j (by omega) j1 hw').2 (by omega)
    · rw [if_neg e1] at hv' ⊢
      by_cases e2 : J = j
      · rw [if_pos e2]
        exact (hall i i0 (by omega) hv').1 (by omega)
      · rw [if_neg e2] at hw' ⊢
        exact q.ord i j i0 hij j1 hv' hw'
/-- The long places that are there: the last one, and those ahead of what has been looked at. -/
def From (t : List Int) (short : List Bool) (i : Int) (st : St) : Prop :=
  ∀ p : Int, 0 ≤ p → p < t.length → S short p = false → ((∃ j : Int, 0 ≤ j ∧ j < t.length ∧ rd st.1 j = p) ↔ (p = t.length - 1 ∨ ∃ j : Int, 0 ≤ j ∧ j < i ∧ rd st.1 j = p + 1))
theorem pass2_spec (b : Base t short k A B) {l : List Int} (hl : Lefts t short l) (m : Nat) : ∀ (i : Int) (st : St), 0 ≤ i → i + m = t.length → Q t short k A l st → From t short i st →
    ∃ st', pass2 t short m i st = some st' ∧ Q t short k A l st' ∧ From t short t.length st' := by
  induction m with
  | zero =>
    intro i st i0 i1 q f
    have e : i = t.length := by omega
    exact ⟨st, rfl, q, e ▸ f⟩
  | succ m ih =>
    intro i st i0 i1 q f
    have ilt : i < t.length := by omega
    have stay : (∀ p : Int, 0 ≤ p → p < t.length → S short p = false → rd st.1 i ≠ p + 1) → From t short (i + 1) st := by
      intro hne p p0 p1 hs
      rw [f p p0 p1 hs]
      constructor
      · rintro (h | ⟨j, j0, j1, e⟩)
        · exact .inl h
        · exact .inr ⟨j, j0, by omega, e⟩
      · rintro (h | ⟨j, j0, j1, e⟩)
        · exact .inl h
        · by_cases e' : j = i
          · rw [e'] at e; exact absurd e (hne p p0 p1 hs)
          · exact .inr ⟨j, j0, by omega, e⟩
    simp only [pass2]
    by_cases hv : 0 < rd st.1 i
    · rw [if_pos hv]
      obtain ⟨d, d0, d1, b0, b1, ht, hlt, hcase⟩ := q.loc b hl i0 ilt (by omega)
      obtain ⟨p, hp⟩ : ∃ p, rd st.1 i - 1 = p := ⟨_, rfl⟩
      rw [hp]
      have p0 : 0 ≤ p := by omega
      have p1 : p + 1 < t.length := by omega
      have hpi : rd st.1 i = p + 1 := by omega
      by_cases hs : S short p = true
      · have e : put t short st p = some st := by
          unfold put
          rw [if_pos p0, if_pos (by rw [b.sh.len]; omega), if_pos hs]
        rw [e, Option.bind_some]
        refine ih (i + 1) st (by omega) (by omega) q (stay fun x x0 x1 hx e => ?_)
        have : x = p := by omega
        rw [this, hs] at hx
        exact absurd hx (by simp)
      · have hs' : S short p = false := by simpa using hs
        have e : put t short st p = upw t st p := by
          unfold put
          rw [if_pos p0, if_pos (by rw [b.sh.len]; omega), if_neg hs]
        have hnew : ∀ j : Int, 0 ≤ j → j < t.length → rd st.1 j ≠ p := by
          intro j j0 j1 ej
          rcases (f p p0 (by omega) hs').1 ⟨j, j0, j1, ej⟩ with h | ⟨x, x0, x1, ex⟩
          · omega
          · exact q.inj x i x0 x1 ilt (by omega) (by omega)
        have hord : ∀ j : Int, 0 ≤ j → j < t.length → 0 ≤ rd st.1 j → S short (rd st.1 j) = false → rd t (rd st.1 j) = rd t p → le (A (rd st.1 j + 1)) (A (p + 1)) := by
          intro j j0 j1 hj hsj _
          obtain ⟨_, _, _, _, _, _, hlt2, _⟩ := q.loc b hl j0 j1 hj
          rcases (f _ hj hlt2 hsj).1 ⟨j, j0, j1, rfl⟩ with h | ⟨x, x0, x1, ex⟩
          · rw [show rd st.1 j + 1 = t.length by omega, b.keys.An]
            exact le_nil _
          · rw [← ex, ← hpi]
            exact q.ord x i x0 x1 ilt (by omega) (by omega)
        obtain ⟨J, hJ, J0, J1, hfree, hup, hq⟩ := q.add b hl p0 (by omega) hs' hnew hord
        rw [e, hup, Option.bind_some]
        have hJi : i < J := by
          have hbp := b.at_ p0 (show p < t.length by omega)
          rcases b.sh.no p0 p1 hs' with h | ⟨h1, h2⟩
          · have := q.hlo (rd t p) hbp.1 hbp.2
            have := hd_next t h
            rw [← hpi, ht] at this
            omega
          · rw [← hpi] at h1 h2
            rcases hcase with ⟨_, h3⟩ | ⟨_, _, h3⟩
            · rw [← ht, ← h1, hJ] at h3; exact h3
            · rw [h2] at h3; simp at h3
        have hrd : ∀ j : Int, 0 ≤ j → rd (st.1.set J.toNat p) j = if J = j then p else rd st.1 j := fun j j0 => rd_set J0 (by rw [q.l1]; exact J1) j0
        refine ih (i + 1) _ (by omega) (by omega) hq ?_
        intro x x0 x1 hx
        have h1 : (∃ j : Int, 0 ≤ j ∧ j < t.length ∧ rd (st.1.set J.toNat p) j = x) ↔ (x = p ∨ ∃ j : Int, 0 ≤ j ∧ j < t.length ∧ rd st.1 j = x) := by
          constructor
          · rintro ⟨j, j0, j1, ej⟩
            rw [hrd j j0] at ej
            by_cases e' : J = j
            · rw [if_pos e'] at ej; exact .inl ej.symm
            · rw [if_neg e'] at ej; exact .inr ⟨j, j0, j1, ej⟩
          · rintro (ex | ⟨j, j0, j1, ej⟩)
            · exact ⟨J, J0, J1, by rw [hrd J J0, if_pos rfl, ex]⟩
            · refine ⟨j, j0, j1, ?_⟩
              rw [hrd j j0, if_neg ?_]
              · exact ej
              · intro e'; rw [← e', hfree] at ej; omega
        have h2 : (∃ j : Int, 0 ≤ j ∧ j < i + 1 ∧ rd (st.1.set J.toNat p) j = x + 1) ↔ (x = p ∨ ∃ j : Int, 0 ≤ j ∧ j < i ∧ rd st.1 j = x + 1) := by
          constructor
          · rintro ⟨j, j0, j1, ej⟩
            rw [hrd j j0, if_neg (by omega)] at ej
            by_cases e' : j = i
            · rw [e', hpi] at ej; exact .inl (by omega)
            · exact .inr ⟨j, j0, by omega, ej⟩
          · rintro (ex | ⟨j, j0, j1, ej⟩)
            · exact ⟨i, i0, by omega, by rw [hrd i i0, if_neg (by omega), hpi, ex]⟩
            · exact ⟨j, j0, by omega, by rw [hrd j j0, if_neg (by omega)]; exact ej⟩
        have h3 := f x x0 x1 hx
        show (∃ j : Int, 0 ≤ j ∧ j < t.length ∧ rd (st.1.set J.toNat p) j = x) ↔ (x = t.length - 1 ∨ ∃ j : Int, 0 ≤ j ∧ j < i + 1 ∧ rd (st.1.set J.toNat p) j = x + 1)
        rw [h1, h2, h3]
        constructor
        · rintro (h | h | h)
          · exact .inr (.inl h)
          · exact .inl h
          · exact .inr (.inr h)
        · rintro (h | h | h)
          · exact .inr (.inl h)
          · exact .inl h
          · exact .inr (.inr h)
    · rw [if_neg hv]
      exact ih (i + 1) st (by omega) (by omega) q (stay fun x x0 x1 _ e => by omega)
/-- Behind pass 2 all long places are there. -/
theorem all_long (b : Base t short k A B) {l : List Int} (hl : Lefts t short l) {st : St} (q : Q t short k A l st) (f : From t short t.length st) (d : Nat) : ∀ p : Int, 0 ≤ p → p < t.length → (t.length : Int) - 1 - p = d → S short p = false →
    ∃ j : Int, 0 ≤ j ∧ j < t.length ∧ rd st.1 j = p := by
  induction d with
  | zero => intro p p0 p1 hd hs; exact (f p p0 p1 hs).2 (.inl (by omega))
  | succ d ih =>
    intro p p0 p1 hd hs
    refine (f p p0 p1 hs).2 (.inr ?_)
    by_cases h : S short (p + 1) = true
    · have : p + 1 ∈ l := (hl.mem _).2 ⟨⟨by omega, by omega⟩, by omega, h, by rw [show p + 1 - 1 = p by omega]; exact hs⟩
      obtain ⟨j, j0, j1, e⟩ := q.there _ this
      exact ⟨j, j0, j1, e⟩
    · obtain ⟨j, j0, j1, e⟩ := ih (p + 1) (by omega) (by omega) (by omega) (by simpa using h)
      exact ⟨j, j0, j1, e⟩
/-- From pass 1 to pass 2: the seeds, and the last place. -/
theorem q_start (b : Base t short k A B) {l : List Int} (hl : Lefts t short l) (ho : l.Pairwise fun p q => rd t p = rd t q → le (A p) (A q)) {st : St} (h : Seeds t k l st) : Q t short k A l (st.1, heads t k) := by
  have hle : ∀ c, cnt t l c ≤ hd t (c + 1) - hd t c := fun c => cnt_le b hl.nd (fun p hp => ((hl.mem p).1 hp).1) c
  have hlt : ∀ i j : Int, 0 ≤ i → i < j → j < t.length → 0 ≤ rd st.1 i → 0 ≤ rd st.1 j → ∃ c d : Int, (0 ≤ c ∧ c < k) ∧ (0 ≤ d ∧ d < k) ∧ (hd t (c + 1) - cnt t l c ≤ i ∧ i < hd t (c + 1)) ∧ (hd t (d + 1) - cnt t l d ≤ j ∧ j < hd t (d + 1)) ∧ c ≤ d := by
    intro i j i0 hij j1 hi hj
    have key : ∀ x : Int, 0 ≤ x → x < t.length → 0 ≤ rd st.1 x → ∃ c : Int, 0 ≤ c ∧ c < k ∧ hd t (c + 1) - cnt t l c ≤ x ∧ x < hd t (c + 1) := by
      intro x x0 x1 hx
      obtain ⟨c, c0, c1, b0, b1⟩ := b.bucket x0 x1
      refine ⟨c, c0, c1, ?_, b1⟩
      apply Classical.byContradiction
      intro hn
      have := h.free x x0 x1 fun d d0 d1 e0 e1 => by
        rcases Int.lt_trichotomy c d with hcd | hcd | hcd
        · have := hd_next t hcd; omega
        · subst hcd; omega
        · have := hd_next t hcd; omega
      omega
    obtain ⟨c, c0, c1, b0, b1⟩ := key i i0 (by omega) hi
    obtain ⟨d, d0, d1, e0, e1⟩ := key j (by omega) j1 hj
    refine ⟨c, d, ⟨c0, c1⟩, ⟨d0, d1⟩, ⟨b0, b1⟩, ⟨e0, e1⟩, ?_⟩
    apply Classical.byContradiction
    intro hn
    have := hd_next t (show d < c by omega)
    have := hle c
    omega
  refine ⟨h.l1, heads_length t k, ?_, ?_, h.seed, ?_, ?_, ?_, ?_⟩
  · intro c c0 c1
    show hd t c ≤ rd (heads t k) c ∧ rd (heads t k) c ≤ _
    rw [rd_heads t k c0 c1]
    have := hle c
    omega
  · intro c c0 c1 j j0 j1
    have j1' : j < rd (heads t k) c := j1
    rw [rd_heads t k c0 c1] at j1'
    omega
  · intro p hp
    obtain ⟨j, j0, j1, e⟩ := h.there p hp
    have := hle (rd t p)
    have := hd_nonneg t (rd t p)
    have := hd_le t (rd t p + 1)
    exact ⟨j, by omega, by omega, e⟩
  · intro c c0 c1 j j0 j1
    have j0' : rd (heads t k) c ≤ j := j0
    rw [rd_heads t k c0 c1] at j0'
    have h0 := hd_nonneg t c
    have h1 := hd_le t (c + 1)
    have h2 := cnt_nonneg t l c
    refine h.free j (by omega) (by omega) fun d d0 d1 e0 e1 => ?_
    rcases Int.lt_trichotomy c d with hcd | hcd | hcd
    · have := hd_next t hcd; omega
    · subst hcd; exact j1
    · have := hd_next t hcd; omega
  · intro i j i0 hij j1 hi e
    have hi' : 0 ≤ rd st.1 i := hi
    have e' : rd st.1 i = rd st.1 j := e
    obtain ⟨c, d, hc, hd', b0, b1, hcd⟩ := hlt i j i0 hij j1 hi' (by omega)
    have s1 := h.seed c hc.1 hc.2 i b0.1 b0.2
    have s2 := h.seed d hd'.1 hd'.2 j b1.1 b1.2
    have ecd : c = d := by rw [← s1.2, ← s2.2, e']
    subst ecd
    obtain ⟨x, y, e1, e2⟩ := h.ord c hc.1 hc.2 i j b0.1 hij b1.2
    have hnd := hl.nd
    rw [e1] at hnd
    have := (List.nodup_append.1 hnd).2.1
    rw [List.nodup_cons] at this
    exact this.1 (e' ▸ e2)
  · intro i j i0 hij j1 hi hj
    have hi' : 0 ≤ rd st.1 i := hi
    have hj' : 0 ≤ rd st.1 j := hj
    show le (A (rd st.1 i)) (A (rd st.1 j))
    obtain ⟨c, d, hc, hd', b0, b1, hcd⟩ := hlt i j i0 hij j1 hi' hj'
    have s1 := h.seed c hc.1 hc.2 i b0.1 b0.2
    have s2 := h.seed d hd'.1 hd'.2 j b1.1 b1.2
    by_cases ecd : c = d
    · subst ecd
      obtain ⟨x, y, e1, e2⟩ := h.ord c hc.1 hc.2 i j b0.1 hij b1.2
      rw [e1] at ho
      exact (List.pairwise_cons.1 (List.pairwise_append.1 ho).2.1).1 _ e2 (by rw [s1.2, s2.2])
    · have m1 := (hl.mem _).1 s1.1
      have m2 := (hl.mem _).1 s2.1
      obtain ⟨r1, h1⟩ := b.keys.AM _ m1.1.1 m1.1.2 m1.2
      obtain ⟨r2, h2⟩ := b.keys.AM _ m2.1.1 m2.1.2 m2.2
      rw [h1, h2]
      exact le_head (by rw [code_yes m1.2.2.1, code_yes m2.2.2.1, s1.2, s2.2]; omega)
theorem q_last (b : Base t short k A B) {l : List Int} (hl : Lefts t short l) (ho : l.Pairwise fun p q => rd t p = rd t q → le (A p) (A q)) {st : St} (h : Seeds t k l st) :
    ∃ st', put t short (st.1, heads t k) (t.length - 1) = some st' ∧ Q t short k A l st' ∧ From t short 0 st' := by
  have q := q_start b hl ho h
  have hpos := b.pos
  have none_ : ∀ j : Int, 0 ≤ j → j < t.length → 0 ≤ rd st.1 j → S short (rd st.1 j) = true := by
    intro j j0 j1 hv
    obtain ⟨c, c0, c1, b0, b1, _, _, hcase⟩ := q.loc b hl j0 j1 hv
    rcases hcase with ⟨_, h2⟩ | ⟨_, _, h3⟩
    · have h2' : j < rd (heads t k) c := h2
      rw [rd_heads t k c0 c1] at h2'
      omega
    · exact h3
  obtain ⟨J, hJ, J0, J1, hfree, hup, hq⟩ := q.add b hl (p := t.length - 1) (by omega) (by omega) b.sh.last
    (fun j j0 j1 e => by
      have e' : rd st.1 j = t.length - 1 := e
      have := none_ j j0 j1 (by omega)
      rw [e', b.sh.last] at this
      simp at this)
    (fun j j0 j1 hv hs _ => by
      have hv' : 0 ≤ rd st.1 j := hv
      have := none_ j j0 j1 hv'
      have hs' : S short (rd st.1 j) = false := hs
      rw [hs'] at this
      simp at this)
  refine ⟨_, by unfold put; rw [if_pos (by omega), if_pos (by rw [b.sh.len]; omega), if_neg (by rw [b.sh.last]; simp)]; exact hup, hq, ?_⟩
  intro p p0 p1 hs
  have hrd : ∀ j : Int, 0 ≤ j → rd (st.1.set J.toNat (t.length - 1)) j = if J = j then (t.length : Int) - 1 else rd st.1 j := fun j j0 => rd_set J0 (by rw [h.l1]; exact J1) j0
  constructor
  · rintro ⟨j, j0, j1, e⟩
    have e' : rd (st.1.set J.toNat (t.length - 1)) j = p := e
    rw [hrd j j0] at e'
    by_cases ej : J = j
    · rw [if_pos ej] at e'; exact .inl e'.symm
    · rw [if_neg ej] at e'
      have := none_ j j0 j1 (by omega)
      rw [e', hs] at this
      simp at this
  · rintro (e | ⟨j, j0, j1, _⟩)
    · exact ⟨J, J0, J1, by show rd (st.1.set J.toNat (t.length - 1)) J = p; rw [hrd J J0, if_pos rfl, e]⟩
    · omega
end Go.Ab.Sai


/- Induced sorting: pass 3, and the whole. Plain Lean, no program. -/
namespace Go.Ab.Sai
open Go.Ab.Wd Go.Ab.Bs
set_option linter.unusedVariables false
set_option linter.unusedSimpArgs false
variable {t : List Int} {short : List Bool} {k : Nat} {A B : Int → List Int}

/-- The long places, at their buckets' heads: up to H c. -/
structure Long (t : List Int) (short : List Bool) (k : Nat) (B : Int → List Int) (H : Int → Int) (sa : List Int) : Prop where
  l1 : sa.length = t.length
  hlo : ∀ c : Int, 0 ≤ c → c < k → hd t c ≤ H c ∧ H c ≤ hd t (c + 1)
  low : ∀ c : Int, 0 ≤ c → c < k → ∀ j : Int, hd t c ≤ j → j < H c → (0 ≤ rd sa j ∧ rd sa j < t.length) ∧ S short (rd sa j) = false ∧ rd t (rd sa j) = c
  all : ∀ p : Int, 0 ≤ p → p < t.length → S short p = false → ∃ j : Int, hd t (rd t p) ≤ j ∧ j < H (rd t p) ∧ rd sa j = p
  inj : ∀ c : Int, 0 ≤ c → c < k → ∀ i j : Int, hd t c ≤ i → i < j → j < H c → rd sa i ≠ rd sa j
  ord : ∀ c : Int, 0 ≤ c → c < k → ∀ i j : Int, hd t c ≤ i → i < j → j < H c → le (B (rd sa i)) (B (rd sa j))
theorem long_of (b : Base t short k A B) {l : List Int} (hl : Lefts t short l) {st : St} (q : Q t short k A l st) (f : From t short t.length st) : Long t short k B (rd st.2) st.1 := by
  refine ⟨q.l1, fun c c0 c1 => ?_, q.low, fun p p0 p1 hs => ?_, fun c c0 c1 i j i0 hij j1 => ?_, fun c c0 c1 i j i0 hij j1 => ?_⟩
  · have := q.hlo c c0 c1
    have := cnt_nonneg t l c
    omega
  · obtain ⟨j, j0, j1, e⟩ := all_long b hl q f (t.length - 1 - p).toNat p p0 p1 (by omega) hs
    obtain ⟨c, c0, c1, b0, b1, ht, _, hcase⟩ := q.loc b hl j0 j1 (by omega)
    rw [e] at ht hcase
    rw [ht]
    rcases hcase with ⟨_, h⟩ | ⟨_, _, h⟩
    · exact ⟨j, b0, h, e⟩
    · rw [hs] at h; simp at h
  · have h1 := q.low c c0 c1 i i0 (by omega)
    have hh := q.hlo c c0 c1
    have := hd_nonneg t c
    have := hd_le t (c + 1)
    have := cnt_nonneg t l c
    exact q.inj i j (by omega) hij (by omega) h1.1.1
  · have h1 := q.low c c0 c1 i i0 (by omega)
    have h2 := q.low c c0 c1 j (by omega) j1
    have hh := q.hlo c c0 c1
    have := hd_nonneg t c
    have := hd_le t (c + 1)
    have := cnt_nonneg t l c
    rw [b.keys.BL _ h1.1.1 h1.1.2 h1.2.1, b.keys.BL _ h2.1.1 h2.1.2 h2.2.1]
    exact q.ord i j (by omega) hij (by omega) h1.1.1 h2.1.1
/-- What stands where it will stay: the long ones, and the short ones that have been put. -/
def Fin (t : List Int) (k : Nat) (H : Int → Int) (st : St) (j : Int) : Prop := ∃ c : Int, 0 ≤ c ∧ c < k ∧ ((hd t c ≤ j ∧ j < H c) ∨ (rd st.2 c ≤ j ∧ j < hd t (c + 1)))
structure R (t : List Int) (short : List Bool) (k : Nat) (B : Int → List Int) (H : Int → Int) (st : St) : Prop where
  long : Long t short k B H st.1
  l2 : st.2.length = k
  hlo : ∀ c : Int, 0 ≤ c → c < k → H c ≤ rd st.2 c ∧ rd st.2 c ≤ hd t (c + 1)
  high : ∀ c : Int, 0 ≤ c → c < k → ∀ j : Int, rd st.2 c ≤ j → j < hd t (c + 1) → (0 ≤ rd st.1 j ∧ rd st.1 j < t.length) ∧ S short (rd st.1 j) = true ∧ rd t (rd st.1 j) = c
  inj : ∀ i j : Int, i < j → Fin t k H st i → Fin t k H st j → rd st.1 i ≠ rd st.1 j
  ord : ∀ i j : Int, i < j → Fin t k H st i → Fin t k H st j → le (B (rd st.1 i)) (B (rd st.1 j))
theorem R.loc (b : Base t short k A B) {H : Int → Int} {st : St} (r : R t short k B H st) {j : Int} (hf : Fin t k H st j) :
    ∃ c : Int, 0 ≤ c ∧ c < k ∧ hd t c ≤ j ∧ j < hd t (c + 1) ∧ rd t (rd st.1 j) = c ∧ (0 ≤ rd st.1 j ∧ rd st.1 j < t.length) ∧ ((S short (rd st.1 j) = false ∧ j < H c) ∨ (S short (rd st.1 j) = true ∧ rd st.2 c ≤ j)) := by
  obtain ⟨c, c0, c1, h | h⟩ := hf
  · have h1 := r.long.low c c0 c1 j h.1 h.2
    have h2 := r.long.hlo c c0 c1
    exact ⟨c, c0, c1, h.1, by omega, h1.2.2, h1.1, .inl ⟨h1.2.1, h.2⟩⟩
  · have h1 := r.high c c0 c1 j h.1 h.2
    have h2 := r.long.hlo c c0 c1
    have h3 := r.hlo c c0 c1
    exact ⟨c, c0, c1, by omega, h.2, h1.2.2, h1.1, .inr ⟨h1.2.1, h.1⟩⟩
theorem Fin.rng {H : Int → Int} {st : St} (r : R t short k B H st) {j : Int} (hf : Fin t k H st j) : 0 ≤ j ∧ j < t.length := by
  obtain ⟨c, c0, c1, h⟩ := hf
  have h1 := r.long.hlo c c0 c1
  have h2 := r.hlo c c0 c1
  have h3 := hd_nonneg t c
  have h4 := hd_le t (c + 1)
  omega
/-- A short place that isn't there yet is put at its bucket's end. -/
theorem R.add (b : Base t short k A B) {H : Int → Int} {st : St} (r : R t short k B H st) {p : Int} (p0 : 0 ≤ p) (p1 : p < t.length) (hs : S short p = true)
    (hnew : ∀ j : Int, Fin t k H st j → rd st.1 j ≠ p)
    (hord : ∀ j : Int, Fin t k H st j → S short (rd st.1 j) = true → rd t (rd st.1 j) = rd t p → le (B (p + 1)) (B (rd st.1 j + 1))) :
    ∃ J : Int, rd st.2 (rd t p) - 1 = J ∧ 0 ≤ J ∧ J < t.length ∧ H (rd t p) ≤ J ∧ down t st p = some (st.1.set J.toNat p, st.2.set (rd t p).toNat J) ∧ R t short k B H (st.1.set J.toNat p, st.2.set (rd t p).toNat J) ∧
      (∀ j, Fin t k H (st.1.set J.toNat p, st.2.set (rd t p).toNat J) j ↔ j = J ∨ Fin t k H st j) := by
  obtain ⟨c0, c1⟩ := b.at_ p0 p1
  obtain ⟨c, hc⟩ : ∃ c, rd t p = c := ⟨_, rfl⟩
  rw [hc] at c0 c1 ⊢
  obtain ⟨J, hJ⟩ : ∃ J, rd st.2 c - 1 = J := ⟨_, rfl⟩
  have hh := r.hlo c c0 c1
  have hg := r.long.hlo c c0 c1
  have hn0 := hd_nonneg t c
  have hn1 := hd_le t (c + 1)
  have fin_lo : ∀ j, hd t c ≤ j → j < H c → Fin t k H st j := fun j h1 h2 => ⟨c, c0, c1, .inl ⟨h1, h2⟩⟩
  have fin_hi : ∀ j, rd st.2 c ≤ j → j < hd t (c + 1) → Fin t k H st j := fun j h1 h2 => ⟨c, c0, c1, .inr ⟨h1, h2⟩⟩
  have hroom : H c ≤ J := by
    have hcount := count_le (t := t) (c := c) (l := (seg st.1 (hd t c) (H c) ++ seg st.1 (rd st.2 c) (hd t (c + 1))) ++ [p]) ?_ ?_
    · simp only [List.length_append, seg_length, List.length_cons, List.length_nil] at hcount
      omega
    · refine List.nodup_append.2 ⟨List.nodup_append.2 ⟨seg_nodup fun i j i0 hij j1 => ?_, seg_nodup fun i j i0 hij j1 => ?_, ?_⟩, by simp, ?_⟩
      · exact r.inj i j hij (fin_lo i i0 (by omega)) (fin_lo j (by omega) j1)
      · exact r.inj i j hij (fin_hi i i0 (by omega)) (fin_hi j (by omega) j1)
      · intro x hx y hy e
        obtain ⟨i, i0, i1, rfl⟩ := mem_seg.1 hx
        obtain ⟨j, j0, j1, rfl⟩ := mem_seg.1 hy
        exact r.inj i j (by omega) (fin_lo i i0 i1) (fin_hi j j0 j1) e
      · intro x hx y hy e
        rw [List.mem_singleton] at hy
        rw [hy] at e
        rcases List.mem_append.1 hx with hx | hx
        · obtain ⟨i, i0, i1, rfl⟩ := mem_seg.1 hx
          exact hnew i (fin_lo i i0 i1) e
        · obtain ⟨i, i0, i1, rfl⟩ := mem_seg.1 hx
          exact hnew i (fin_hi i i0 i1) e
    · intro x hx
      rcases List.mem_append.1 hx with hx | hx
      · rcases List.mem_append.1 hx with hx | hx
        · obtain ⟨i, i0, i1, rfl⟩ := mem_seg.1 hx
          have := r.long.low c c0 c1 i i0 i1
          exact ⟨this.1, this.2.2⟩
        · obtain ⟨i, i0, i1, rfl⟩ := mem_seg.1 hx
          have := r.high c c0 c1 i i0 i1
          exact ⟨this.1, this.2.2⟩
      · rw [List.mem_singleton] at hx
        rw [hx]
        exact ⟨⟨p0, p1⟩, hc⟩
  have J0 : 0 ≤ J := by omega
  have J1 : J < t.length := by omega
  have hrd : ∀ j : Int, 0 ≤ j → rd (st.1.set J.toNat p) j = if J = j then p else rd st.1 j := fun j j0 => rd_set J0 (by rw [r.long.l1]; exact J1) j0
  have hrh : ∀ d : Int, 0 ≤ d → rd (st.2.set c.toNat J) d = if c = d then J else rd st.2 d := fun d d0 => rd_set c0 (by rw [r.l2]; exact c1) d0
  have hbk : ∀ d : Int, c ≠ d → ∀ j : Int, hd t d ≤ j → j < hd t (d + 1) → J ≠ j := by
    intro d hne j j0 j1 e
    rcases Int.lt_trichotomy c d with hlt | hlt | hlt
    · have := hd_next t hlt; omega
    · exact hne hlt
    · have := hd_next t hlt; omega
  have hfin : ∀ j, Fin t k H (st.1.set J.toNat p, st.2.set c.toNat J) j ↔ j = J ∨ Fin t k H st j := by
    intro j
    constructor
    · rintro ⟨d, d0, d1, h | ⟨h0, h1⟩⟩
      · exact .inr ⟨d, d0, d1, .inl h⟩
      · have h0' : rd (st.2.set c.toNat J) d ≤ j := h0
        rw [hrh d d0] at h0'
        by_cases e : c = d
        · subst e
          rw [if_pos rfl] at h0'
          by_cases ej : j = J
          · exact .inl ej
          · exact .inr ⟨c, d0, d1, .inr ⟨by omega, h1⟩⟩
        · rw [if_neg e] at h0'
          exact .inr ⟨d, d0, d1, .inr ⟨h0', h1⟩⟩
    · rintro (e | ⟨d, d0, d1, h | ⟨h0, h1⟩⟩)
      · exact ⟨c, c0, c1, .inr ⟨by show rd (st.2.set c.toNat J) c ≤ j; rw [hrh c c0, if_pos rfl]; omega, by omega⟩⟩
      · exact ⟨d, d0, d1, .inl h⟩
      · refine ⟨d, d0, d1, .inr ⟨?_, h1⟩⟩
        show rd (st.2.set c.toNat J) d ≤ j
        rw [hrh d d0]
        by_cases e : c = d
        · subst e; rw [if_pos rfl]; omega
        · rw [if_neg e]; exact h0
  have hJf : ¬ Fin t k H st J := by
    rintro ⟨d, d0, d1, h⟩
    have h1 := r.long.hlo d d0 d1
    have h2 := r.hlo d d0 d1
    by_cases e : c = d
    · subst e; omega
    · rcases h with h | h
      · exact hbk d e J h.1 (by omega) rfl
      · exact hbk d e J (by omega) h.2 rfl
  have hfj : ∀ j, Fin t k H st j → rd (st.1.set J.toNat p) j = rd st.1 j := by
    intro j hj
    rw [hrd j (hj.rng r).1, if_neg ?_]
    intro e; exact hJf (e ▸ hj)
  have hall : ∀ j : Int, Fin t k H st j → (j < J → le (B (rd st.1 j)) (B p)) ∧ (J < j → le (B p) (B (rd st.1 j))) := by
    intro j hj
    obtain ⟨d, d0, d1, b0, b1, ht, hrg, hcase⟩ := r.loc b hj
    have hk2 := b.keys.BS p p0 p1 hs
    have hcp := code_yes (t := t) hs
    have hkj : ∃ y, B (rd st.1 j) = code t short (rd st.1 j) :: y := by
      rcases hcase with ⟨h, _⟩ | ⟨h, _⟩
      · rw [b.keys.BL _ hrg.1 hrg.2 h]; exact ⟨_, b.keys.AL _ hrg.1 hrg.2 h⟩
      · exact ⟨_, b.keys.BS _ hrg.1 hrg.2 h⟩
    obtain ⟨y, hy⟩ := hkj
    have hcj : 2 * d ≤ code t short (rd st.1 j) ∧ code t short (rd st.1 j) ≤ 2 * d + 1 := by
      unfold code; rw [ht]; split <;> omega
    constructor
    · intro hlt
      rcases Int.lt_trichotomy d c with hdc | hdc | hdc
      · rw [hy, hk2]
        exact le_head (by rw [hcp, hc]; omega)
      · subst hdc
        rcases hcase with ⟨h1, h2⟩ | ⟨h1, h2⟩
        · rw [hy, hk2]
          exact le_head (by rw [hcp, hc, code_no h1, ht]; omega)
        · omega
      · have := hd_next t hdc
        omega
    · intro hlt
      rcases Int.lt_trichotomy d c with hdc | hdc | hdc
      · have := hd_next t hdc
        omega
      · subst hdc
        rcases hcase with ⟨h1, h2⟩ | ⟨h1, h2⟩
        · omega
        · rw [b.keys.BS _ hrg.1 hrg.2 h1, hk2, code_yes h1, hcp, ht, hc]
          exact le_cons (hord j hj h1 (by rw [ht, hc]))
      · rw [hy, hk2]
        exact le_head (by rw [hcp, hc]; omega)
  have hlow : ∀ d : Int, 0 ≤ d → d < k → ∀ j : Int, hd t d ≤ j → j < H d → rd (st.1.set J.toNat p) j = rd st.1 j := fun d d0 d1 j h0 h1 => hfj j ⟨d, d0, d1, .inl ⟨h0, h1⟩⟩
  refine ⟨J, hJ, J0, J1, hroom, ?_, ⟨⟨by simpa using r.long.l1, r.long.hlo, ?_, ?_, ?_, ?_⟩, by simpa using r.l2, ?_, ?_, ?_, ?_⟩, hfin⟩
  · unfold down
    rw [hc, hJ, if_pos ⟨p0, p1, c0, by rw [r.l2]; exact c1, J0, by rw [r.long.l1]; exact J1⟩]
  · intro d d0 d1 j j0 j1
    show (0 ≤ rd (st.1.set J.toNat p) j ∧ rd (st.1.set J.toNat p) j < t.length) ∧ S short (rd (st.1.set J.toNat p) j) = false ∧ rd t (rd (st.1.set J.toNat p) j) = d
    rw [hlow d d0 d1 j j0 j1]
    exact r.long.low d d0 d1 j j0 j1
  · intro x x0 x1 hx
    obtain ⟨j, j0, j1, e⟩ := r.long.all x x0 x1 hx
    have hb := b.at_ x0 x1
    exact ⟨j, j0, j1, by show rd (st.1.set J.toNat p) j = x; rw [hlow _ hb.1 hb.2 j j0 j1]; exact e⟩
  · intro d d0 d1 i j i0 hij j1
    show rd (st.1.set J.toNat p) i ≠ rd (st.1.set J.toNat p) j
    rw [hlow d d0 d1 i i0 (by omega), hlow d d0 d1 j (by omega) j1]
    exact r.long.inj d d0 d1 i j i0 hij j1
  · intro d d0 d1 i j i0 hij j1
    show le (B (rd (st.1.set J.toNat p) i)) (B (rd (st.1.set J.toNat p) j))
    rw [hlow d d0 d1 i i0 (by omega), hlow d d0 d1 j (by omega) j1]
    exact r.long.ord d d0 d1 i j i0 hij j1
  · intro d d0 d1
    show H d ≤ rd (st.2.set c.toNat J) d ∧ rd (st.2.set c.toNat J) d ≤ _
    rw [hrh d d0]
    by_cases e : c = d
    · subst e; rw [if_pos rfl]; omega
    · rw [if_neg e]; exact r.hlo d d0 d1
  · intro d d0 d1 j j0 j1
    show (0 ≤ rd (st.1.set J.toNat p) j ∧ rd (st.1.set J.toNat p) j < t.length) ∧ S short (rd (st.1.set J.toNat p) j) = true ∧ rd t (rd (st.1.set J.toNat p) j) = d
    rcases (hfin j).1 ⟨d, d0, d1, .inr ⟨j0, j1⟩⟩ with e | hf
    · have e' : c = d := by
        apply Classical.byContradiction
        intro hne
        have h2 := r.hlo d d0 d1
        have h3 := r.long.hlo d d0 d1
        have j0' : rd (st.2.set c.toNat J) d ≤ j := j0
        rw [hrh d d0, if_neg hne] at j0'
        exact hbk d hne j (by omega) j1 e.symm
      rw [e, hrd J J0, if_pos rfl]
      exact ⟨⟨p0, p1⟩, hs, by rw [hc, e']⟩
    · rw [hfj j hf]
      have j0' : rd (st.2.set c.toNat J) d ≤ j := j0
      rw [hrh d d0] at j0'
      by_cases e : c = d
      · subst e
        rw [if_pos rfl] at j0'
        have : j ≠ J := fun e => hJf (e ▸ hf)
        exact r.high c d0 d1 j (by omega) j1
      · rw [if_neg e] at j0'
        exact r.high d d0 d1 j j0' j1
  · intro i j hij hi hj
    show rd (st.1.set J.toNat p) i ≠ rd (st.1.set J.toNat p) j
    rcases (hfin i).1 hi with ei | fi
    · rcases (hfin j).1 hj with ej | fj
      · omega
      · rw [hfj j fj, ei, hrd J J0, if_pos rfl]
        exact fun e => hnew j fj e.symm
    · rcases (hfin j).1 hj with ej | fj
      · rw [hfj i fi, ej, hrd J J0, if_pos rfl]
        exact hnew i fi
      · rw [hfj i fi, hfj j fj]
        exact r.inj i j hij fi fj
  · intro i j hij hi hj
    show le (B (rd (st.1.set J.toNat p) i)) (B (rd (st.1.set J.toNat p) j))
    rcases (hfin i).1 hi with ei | fi
    · rcases (hfin j).1 hj with ej | fj
      · omega
      · rw [hfj j fj, ei, hrd J J0, if_pos rfl]
        exact (hall j fj).2 (by omega)
    · rcases (hfin j).1 hj with ej | fj
      · rw [hfj i fi, ej, hrd J J0, if_pos rfl]
        exact (hall i fi).1 (by omega)
      · rw [hfj i fi, hfj j fj]
        exact r.ord i j hij fi fj
/-- The short places that are there: those ahead of what has been looked at, from behind. -/
def Back (t : List Int) (short : List Bool) (k : Nat) (H : Int → Int) (i : Int) (st : St) : Prop :=
  ∀ p : Int, 0 ≤ p → p < t.length → S short p = true → ((∃ j : Int, Fin t k H st j ∧ rd st.1 j = p) ↔ ∃ j : Int, i < j ∧ Fin t k H st j ∧ rd st.1 j = p + 1)
/-- Where the row has been looked at from i + 1 on, the short places of what is behind are there. -/
theorem placed (b : Base t short k A B) {H : Int → Int} {st : St} (r : R t short k B H st) {i c : Int} (hi : i < hd t (c + 1)) (f : Back t short k H i st) (d : Nat) : ∀ p : Int, 0 ≤ p → p < t.length → (t.length : Int) - p = d → S short p = true → (c < rd t p ∨ (rd t p = c ∧ i < rd st.2 c)) →
    ∃ j : Int, Fin t k H st j ∧ rd st.1 j = p := by
  induction d with
  | zero => intro p p0 p1 hd _ _; omega
  | succ d ih =>
    intro p p0 p1 hd' hs hcase
    obtain ⟨p2, hlt⟩ := b.sh.yes p0 p1 hs
    have hb := b.at_ (p := p + 1) (by omega) p2
    refine (f p p0 p1 hs).2 ?_
    by_cases h : S short (p + 1) = true
    · have hcase' : c < rd t (p + 1) ∨ (rd t (p + 1) = c ∧ i < rd st.2 c) := by omega
      obtain ⟨j, hf, e⟩ := ih (p + 1) (by omega) p2 (by omega) h hcase'
      refine ⟨j, ?_, hf, e⟩
      obtain ⟨e0, _, _, b0, _, ht, _, hc⟩ := r.loc b hf
      rw [e] at ht hc
      rcases hc with ⟨h1, _⟩ | ⟨_, h1⟩
      · rw [h] at h1; simp at h1
      · rcases hcase' with h2 | ⟨h2, h3⟩
        · have := hd_next t h2
          rw [ht] at this
          omega
        · rw [← ht, h2] at h1; omega
    · have h' : S short (p + 1) = false := by simpa using h
      obtain ⟨j, j0, j1, e⟩ := r.long.all (p + 1) (by omega) p2 h'
      have hgt : rd t p < rd t (p + 1) := by
        rcases hlt with hlt | ⟨_, hlt⟩
        · exact hlt
        · rw [h'] at hlt; simp at hlt
      have := hd_next t (show c < rd t (p + 1) by omega)
      exact ⟨j, by omega, ⟨_, hb.1, hb.2, .inl ⟨j0, j1⟩⟩, e⟩
/-- What is looked at stands where it will stay. -/
theorem fin_now (b : Base t short k A B) {H : Int → Int} {st : St} (r : R t short k B H st) {i : Int} (i0 : 0 ≤ i) (i1 : i < t.length) (f : Back t short k H i st) : Fin t k H st i := by
  obtain ⟨c, c0, c1, b0, b1⟩ := b.bucket i0 i1
  apply Classical.byContradiction
  intro hn
  have hh := r.hlo c c0 c1
  have hg := r.long.hlo c c0 c1
  have h1 : H c ≤ i := by
    apply Classical.byContradiction
    intro h; exact hn ⟨c, c0, c1, .inl ⟨b0, by omega⟩⟩
  have h2 : i < rd st.2 c := by
    apply Classical.byContradiction
    intro h; exact hn ⟨c, c0, c1, .inr ⟨by omega, b1⟩⟩
  have hcount := count_ge (t := t) (c := c) (l := seg st.1 (hd t c) (H c) ++ seg st.1 (rd st.2 c) (hd t (c + 1))) ?_
  · simp only [List.length_append, seg_length] at hcount
    omega
  · intro p p0 p1 hp
    rw [List.mem_append]
    by_cases hs : S short p = true
    · obtain ⟨j, hf, e⟩ := placed b r b1 f (t.length - p).toNat p p0 p1 (by omega) hs (.inr ⟨hp, h2⟩)
      obtain ⟨d, d0, d1, e0, e1, ht, _, hc⟩ := r.loc b hf
      rw [e, hp] at ht
      subst ht
      rw [e] at hc
      rcases hc with ⟨h3, _⟩ | ⟨_, h3⟩
      · rw [hs] at h3; simp at h3
      · exact .inr (mem_seg.2 ⟨j, h3, e1, e⟩)
    · obtain ⟨j, j0, j1, e⟩ := r.long.all p p0 p1 (by simpa using hs)
      rw [hp] at j0 j1
      exact .inl (mem_seg.2 ⟨j, j0, j1, e⟩)
theorem pass3_spec (b : Base t short k A B) {H : Int → Int} (m : Nat) : ∀ (i : Int) (st : St), i + 1 = m → i < t.length → R t short k B H st → Back t short k H i st →
    ∃ st', pass3 t short m i st = some st' ∧ R t short k B H st' ∧ Back t short k H (-1) st' := by
  induction m with
  | zero =>
    intro i st hi _ r f
    have e : i = -1 := by omega
    exact ⟨st, rfl, r, e ▸ f⟩
  | succ m ih =>
    intro i st hi hilt r f
    have i0 : 0 ≤ i := by omega
    have hf := fin_now b r i0 hilt f
    obtain ⟨d, d0, d1, b0, b1, ht, hrg, hcase⟩ := r.loc b hf
    have stay : (∀ p : Int, 0 ≤ p → p < t.length → S short p = true → rd st.1 i ≠ p + 1) → Back t short k H (i - 1) st := by
      intro hne p p0 p1 hs
      rw [f p p0 p1 hs]
      constructor
      · rintro ⟨j, j0, j1, e⟩; exact ⟨j, by omega, j1, e⟩
      · rintro ⟨j, j0, j1, e⟩
        by_cases e' : j = i
        · rw [e'] at e; exact absurd e (hne p p0 p1 hs)
        · exact ⟨j, by omega, j1, e⟩
    simp only [pass3]
    obtain ⟨p, hp⟩ : ∃ p, rd st.1 i - 1 = p := ⟨_, rfl⟩
    have hpi : rd st.1 i = p + 1 := by omega
    rw [hp]
    by_cases p0 : 0 ≤ p
    · rw [if_pos p0, if_pos (by rw [b.sh.len]; omega)]
      by_cases hs : S short p = true
      · rw [if_pos hs]
        have p1 : p < t.length := by omega
        have hnew : ∀ j : Int, Fin t k H st j → rd st.1 j ≠ p := by
          intro j hj e
          obtain ⟨x, x0, x1, ex⟩ := (f p p0 p1 hs).1 ⟨j, hj, e⟩
          exact r.inj i x x0 hf x1 (by omega)
        have hord : ∀ j : Int, Fin t k H st j → S short (rd st.1 j) = true → rd t (rd st.1 j) = rd t p → le (B (p + 1)) (B (rd st.1 j + 1)) := by
          intro j hj hsj _
          obtain ⟨_, _, _, _, _, _, hrj, _⟩ := r.loc b hj
          obtain ⟨x, x0, x1, ex⟩ := (f _ hrj.1 hrj.2 hsj).1 ⟨j, hj, rfl⟩
          rw [← ex, ← hpi]
          exact r.ord i x x0 hf x1
        obtain ⟨J, hJ, J0, J1, hHJ, hdown, hr, hfin⟩ := r.add b p0 p1 hs hnew hord
        rw [hdown, Option.bind_some]
        have hJi : J < i := by
          obtain ⟨p2, hlt⟩ := b.sh.yes p0 p1 hs
          have hbp := b.at_ p0 p1
          have h2 := r.hlo _ hbp.1 hbp.2
          rw [← hpi, ht] at hlt
          rcases hlt with hlt | ⟨h3, h4⟩
          · have := hd_next t hlt
            omega
          · rcases hcase with ⟨h5, _⟩ | ⟨_, h5⟩
            · rw [h4] at h5; simp at h5
            · rw [← h3] at h5; omega
        have hrd : ∀ j : Int, 0 ≤ j → rd (st.1.set J.toNat p) j = if J = j then p else rd st.1 j := fun j j0 => rd_set J0 (by rw [r.long.l1]; exact J1) j0
        have hsame : ∀ j : Int, J < j → rd (st.1.set J.toNat p) j = rd st.1 j := fun j hj => by rw [hrd j (by omega), if_neg (by omega)]
        refine ih (i - 1) _ (by omega) (by omega) hr ?_
        intro x x0 x1 hx
        have hJf : ¬ Fin t k H st J := by
          intro hJf
          obtain ⟨e, e0, e1, e2, e3, hte, hre, hce⟩ := r.loc b hJf
          have hbp := b.at_ p0 p1
          have ec : e = rd t p := by
            have h2 := r.hlo _ hbp.1 hbp.2
            have h3 := r.long.hlo _ hbp.1 hbp.2
            rcases Int.lt_trichotomy e (rd t p) with h | h | h
            · have := hd_next t h; omega
            · exact h
            · have := hd_next t h; omega
          subst ec
          rcases hce with ⟨_, h⟩ | ⟨_, h⟩ <;> omega
        have hold : ∀ j, Fin t k H st j → rd (st.1.set J.toNat p) j = rd st.1 j := fun j hj => by
          have hne : ¬ J = j := by intro e; rw [← e] at hj; exact hJf hj
          rw [hrd j (hj.rng r).1, if_neg hne]
        have h1 : (∃ j : Int, Fin t k H (st.1.set J.toNat p, st.2.set (rd t p).toNat J) j ∧ rd (st.1.set J.toNat p) j = x) ↔ (x = p ∨ ∃ j : Int, Fin t k H st j ∧ rd st.1 j = x) := by
          constructor
          · rintro ⟨j, hj, e⟩
            rcases (hfin j).1 hj with ej | fj
            · rw [ej, hrd J J0, if_pos rfl] at e; exact .inl e.symm
            · rw [hold j fj] at e; exact .inr ⟨j, fj, e⟩
          · rintro (e | ⟨j, fj, e⟩)
            · exact ⟨J, (hfin J).2 (.inl rfl), by rw [hrd J J0, if_pos rfl, e]⟩
            · exact ⟨j, (hfin j).2 (.inr fj), by rw [hold j fj]; exact e⟩
        have h2 : (∃ j : Int, i - 1 < j ∧ Fin t k H (st.1.set J.toNat p, st.2.set (rd t p).toNat J) j ∧ rd (st.1.set J.toNat p) j = x + 1) ↔ (x = p ∨ ∃ j : Int, i < j ∧ Fin t k H st j ∧ rd st.1 j = x + 1) := by
          constructor
          · rintro ⟨j, j0, hj, e⟩
            rcases (hfin j).1 hj with ej | fj
            · omega
            · rw [hold j fj] at e
              by_cases ei : j = i
              · rw [ei, hpi] at e; exact .inl (by omega)
              · exact .inr ⟨j, by omega, fj, e⟩
          · rintro (e | ⟨j, j0, fj, e⟩)
            · exact ⟨i, by omega, (hfin i).2 (.inr hf), by rw [hold i hf, hpi, e]⟩
            · exact ⟨j, by omega, (hfin j).2 (.inr fj), by rw [hold j fj]; exact e⟩
        show (∃ j : Int, Fin t k H (st.1.set J.toNat p, st.2.set (rd t p).toNat J) j ∧ rd (st.1.set J.toNat p) j = x) ↔ ∃ j : Int, i - 1 < j ∧ Fin t k H (st.1.set J.toNat p, st.2.set (rd t p).toNat J) j ∧ rd (st.1.set J.toNat p) j = x + 1
        rw [h1, h2, f x x0 x1 hx]
      · rw [if_neg hs]
        refine ih (i - 1) st (by omega) (by omega) r (stay fun x x0 x1 hx e => ?_)
        have : x = p := by omega
        rw [this] at hx
        exact hs hx
    · rw [if_neg p0]
      exact ih (i - 1) st (by omega) (by omega) r (stay fun x x0 x1 hx e => by omega)
/-- **Induced sorting**: from the left places in A's order, all places in B's. -/
theorem induce_spec (b : Base t short k A B) {l : List Int} (hl : Lefts t short l) (ho : l.Pairwise fun p q => rd t p = rd t q → le (A p) (A q)) :
    ∃ sa, induce t short k l = some sa ∧ IsPerm t.length sa ∧ ∀ i j : Int, 0 ≤ i → i < j → j < t.length → le (B (rd sa i)) (B (rd sa j)) := by
  obtain ⟨st1, e1, s1⟩ := pass1_spec b l.reverse [] (List.replicate t.length (-1), tails t k) (by simpa using hl.nd) (by simpa using fun p hp => ((hl.mem p).1 hp).1) seeds_start
  rw [List.reverse_reverse, List.append_nil] at s1
  obtain ⟨st2, e2, q2, f2⟩ := q_last b hl ho s1
  obtain ⟨st3, e3, q3, f3⟩ := pass2_spec b hl t.length 0 st2 (by omega) (by omega) q2 f2
  have hlong := long_of b hl q3 f3
  have hr : R t short k B (rd st3.2) (st3.1, tails t k) := by
    have hfin : ∀ j, Fin t k (rd st3.2) (st3.1, tails t k) j → ∃ c : Int, 0 ≤ c ∧ c < k ∧ hd t c ≤ j ∧ j < rd st3.2 c := by
      rintro j ⟨c, c0, c1, h | ⟨h0, h1⟩⟩
      · exact ⟨c, c0, c1, h⟩
      · have h0' : rd (tails t k) c ≤ j := h0
        rw [rd_tails t k c0 c1] at h0'
        omega
    refine ⟨hlong, tails_length t k, fun c c0 c1 => ?_, fun c c0 c1 j j0 j1 => ?_, fun i j hij hi hj => ?_, fun i j hij hi hj => ?_⟩
    · show rd st3.2 c ≤ rd (tails t k) c ∧ rd (tails t k) c ≤ _
      rw [rd_tails t k c0 c1]
      have := hlong.hlo c c0 c1
      omega
    · have j0' : rd (tails t k) c ≤ j := j0
      rw [rd_tails t k c0 c1] at j0'
      omega
    · obtain ⟨c, c0, c1, h0, h1⟩ := hfin i hi
      obtain ⟨d, d0, d1, g0, g1⟩ := hfin j hj
      have m1 := hlong.low c c0 c1 i h0 h1
      have a1 := hd_nonneg t c
      have a2 := hd_le t (d + 1)
      have a3 := hlong.hlo d d0 d1
      exact q3.inj i j (by omega) hij (by omega) m1.1.1
    · obtain ⟨c, c0, c1, h0, h1⟩ := hfin i hi
      obtain ⟨d, d0, d1, g0, g1⟩ := hfin j hj
      have m1 := hlong.low c c0 c1 i h0 h1
      have m2 := hlong.low d d0 d1 j g0 g1
      have a1 := hd_nonneg t c
      have a2 := hd_le t (d + 1)
      have a3 := hlong.hlo d d0 d1
      show le (B (rd st3.1 i)) (B (rd st3.1 j))
      rw [b.keys.BL _ m1.1.1 m1.1.2 m1.2.1, b.keys.BL _ m2.1.1 m2.1.2 m2.2.1]
      exact q3.ord i j (by omega) hij (by omega) m1.1.1 m2.1.1
  have hback : Back t short k (rd st3.2) (t.length - 1) (st3.1, tails t k) := by
    intro p p0 p1 hs
    constructor
    · rintro ⟨j, hj, e⟩
      obtain ⟨c, c0, c1, b0, b1, ht, _, hcase⟩ := hr.loc b hj
      have e' : rd st3.1 j = p := e
      rw [show rd (st3.1, tails t k).1 j = p from e] at hcase
      rcases hcase with ⟨h, _⟩ | ⟨_, h⟩
      · rw [hs] at h; simp at h
      · have h' : rd (tails t k) c ≤ j := h
        rw [rd_tails t k c0 c1] at h'
        omega
    · rintro ⟨j, j0, hj, _⟩
      have := hj.rng hr
      omega
  obtain ⟨st4, e4, r4, f4⟩ := pass3_spec b t.length (t.length - 1) (st3.1, tails t k) (by omega) (by omega) hr hback
  have hall : ∀ j : Int, 0 ≤ j → j < t.length → Fin t k (rd st3.2) st4 j := by
    intro j j0 j1
    obtain ⟨c, c0, c1, b0, b1⟩ := b.bucket j0 j1
    have hh := r4.hlo c c0 c1
    have hg := r4.long.hlo c c0 c1
    apply Classical.byContradiction
    intro hn
    have h1 : rd st3.2 c ≤ j := by
      apply Classical.byContradiction
      intro h; exact hn ⟨c, c0, c1, .inl ⟨b0, by omega⟩⟩
    have h2 : j < rd st4.2 c := by
      apply Classical.byContradiction
      intro h; exact hn ⟨c, c0, c1, .inr ⟨by omega, b1⟩⟩
    have hcount := count_ge (t := t) (c := c) (l := seg st4.1 (hd t c) (rd st3.2 c) ++ seg st4.1 (rd st4.2 c) (hd t (c + 1))) ?_
    · simp only [List.length_append, seg_length] at hcount
      omega
    · intro p p0 p1 hp
      rw [List.mem_append]
      by_cases hs : S short p = true
      · obtain ⟨x, hf, e⟩ := placed b r4 (i := -1) (c := c) (by have := hd_nonneg t (c + 1); omega) f4 (t.length - p).toNat p p0 p1 (by omega) hs (.inr ⟨hp, by omega⟩)
        obtain ⟨d, d0, d1, e0, e1, ht, _, hc⟩ := r4.loc b hf
        rw [e, hp] at ht
        subst ht
        rw [e] at hc
        rcases hc with ⟨h3, _⟩ | ⟨_, h3⟩
        · rw [hs] at h3; simp at h3
        · exact .inr (mem_seg.2 ⟨x, h3, e1, e⟩)
      · obtain ⟨x, x0, x1, e⟩ := r4.long.all p p0 p1 (by simpa using hs)
        rw [hp] at x0 x1
        exact .inl (mem_seg.2 ⟨x, x0, x1, e⟩)
  refine ⟨st4.1, ?_, ⟨r4.long.l1, fun p hp => ?_, ?_⟩, fun i j i0 hij j1 => r4.ord i j hij (hall i i0 (by omega)) (hall j (by omega) j1)⟩
  · unfold induce
    rw [e1, Option.bind_some, e2, Option.bind_some, e3, Option.bind_some, e4]
    rfl
  · obtain ⟨i, i0, i1, rfl⟩ := mem_rd hp
    rw [r4.long.l1] at i1
    obtain ⟨_, _, _, _, _, _, h, _⟩ := r4.loc b (hall i i0 i1)
    exact h
  · unfold List.Nodup
    rw [List.pairwise_iff_getElem]
    intro i j hi hj hij e
    have l1 := r4.long.l1
    have := r4.inj i j (by omega) (hall i (by omega) (by omega)) (hall j (by omega) (by omega))
    rw [rd_getElem hi, rd_getElem hj] at this
    exact this e
end Go.Ab.Sai

