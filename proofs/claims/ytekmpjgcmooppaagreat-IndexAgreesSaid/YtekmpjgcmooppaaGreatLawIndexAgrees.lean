/- The law IndexAgrees returns true for every input; its arguments read behind the call as before. No conditions. -/
import Derived.Test.YtekmpjgcmooppaaGreatRows
import Derived.Test.YtekmpjgcmooppaaGreatAbIndexAgrees6
import Derived.Test.YtekmpjgcmooppaaGreatAbIndexAgrees1
import Derived.WalkKit
import Derived.ProofKit
import Derived.OpenShut
import Derived.ShutString
import Derived.ChangeOld
import Derived.Below
import Derived.SizedLaws
import Derived.Test.YtekmpjgcmooppaaGreatAbIndexAgrees7
namespace Go.Proofs.YtekmpjgcmooppaaGreat.indexAgrees
open Go.ChangeShapes Go.WideShapes Go.ChangeAt Go.RowKit
open Go.ChangeMaps (open_string shut_string)
open Go.Ab
set_option linter.unusedVariables false
theorem own : ownKnob Tryz.prog.godebug = none := by kernel_rfl
theorem laidOut : laidOutB Tryz.prog = true := by kernel_rfl
theorem follows : Tryz.prog.follows .mixedOrders = true := by kernel_rfl
theorem walk (W : World) (a0 : Option Addr) (len0 cap0 : Nat) (z0 : List (Option Addr × Nat × Nat × List Int)) (a1 : Option Addr) (len1 cap1 : Nat) (z1 : List Int) (a2 : Int) (w0 : IsRows .u8 W a0 len0 cap0 z0) (w1 : IsRow .u8 W a1 len1 cap1 z1) (y1 : len1 * 1 ≤ 140737488351232) (w2 : (Lit.int .i64 a2).wf = true) : Calls Tryz.prog 6 #[.slice a0 len0 cap0, .slice a1 len1 cap1, .int .i64 a2] W fun e w' => e = .returned (.bool true) ∧ Below W.heap.size W w' := by
  have I_0 := Inp.nil W
  obtain ⟨h0, μ0, σ0, l0, I0, M0, S0, E0, _, _⟩ := I_0.rws w0
  obtain ⟨h1, μ1, σ1, l1, I1, M1, S1, H1, L1, F1, _, _⟩ := I0.nums w1
  have I2 := I1.val (.int .i64 a2)
  obtain ⟨σ', r⟩ := law_IndexAgrees (S0.more M1) (S1) (H1) (by omega) (fun n hn => wf_int (F1 n hn)) (wf_int w2) (by rw [I2.pr]; exact Nat.le_refl _)
  exact law_calls follows (toldOk follows) (cargs := #[.slice a0 len0 cap0, .slice a1 len1 cap1, .int .i64 a2]) I2 r
set_option maxRecDepth 100000 in
theorem lifted (os : Os) (started : os.Started) (H : Type) (enc : TypeId × Value → H) :
    ReturnsInHanded {} Tryz.checked os 6 .any (Rows.indexAgreesSpec.pre6 enc Tryz.prog Tryz.f6 Rows.indexAgreesRow.domain false) (Rows.indexAgreesSpec.post enc Tryz.prog Tryz.f6 false true false false) := by
  refine returnsInHanded_of_change_sized (C := Tryz.checked) own started (by kernel_rfl) Tryz.func6
    (ChangeSpec.witness6 (enc := enc) (C := Tryz.checked) false ⟨#[], #[.slice none 0 0, .slice none 0 0, .int .i64 0], []⟩ 8 (by kernel_rfl) (by kernel_rfl) (by kernel_rfl) (by kernel_rfl)) ?_
  intro W base args ds gs before hval0 hW hcnd hsz0 _
  have hsz : (DataW.weightsEach Tryz.prog (Tryz.f6.params.toList ++ Rows.indexAgreesSpec.plain.varTypes Tryz.prog) (ds ++ gs)).all (· ≤ reachBytes) = true := hsz0
  have hval : ∀ (j : Nat) t v, Tryz.f6.params[j]? = some t → args[j]? = some v → Value.okWide Tryz.prog W .any base t v := hval0
  have hW' := hW
  obtain ⟨p, q, hA0, hV, rfl, hfz, hnd⟩ := hW
  have hA : DataW.TrodAll enc Tryz.prog W 0 (fun _ => true) true Tryz.f6.params.toList args.toList ds p := hA0
  rw [Tryz.params6] at hA hval hsz
  obtain ⟨v0, vs0, d0, ds0, p0, q0, hargs, rfl, rfl, h0, r0⟩ := trodAll_cons hA
  obtain ⟨v1, vs1, d1, ds1, p1, q1, rfl, rfl, rfl, h1, r1⟩ := trodAll_cons r0
  obtain ⟨v2, vs2, d2, ds2, p2, q2, rfl, rfl, rfl, h2, r2⟩ := trodAll_cons r1
  obtain ⟨rfl, rfl, rfl⟩ := trodAll_nil r2
  obtain rfl : args = #[v0, v1, v2] := by cases args; simp_all
  obtain ⟨rfl, rfl⟩ := trodVars_none hV
  obtain ⟨a0, len0, cap0, rfl⟩ := okWide_slice Tryz.underlying22 (hval 0 22 v0 rfl rfl)
  have k0 := h0
  have lt0 : ∀ x ∈ p0, x.block < W.heap.size := by obtain ⟨m, hm⟩ := k0; exact DataW.trod_lt m _ _ _ hm
  obtain ⟨z0, w0⟩ := open_numss Tryz.underlying22 Tryz.underlying23 Tryz.underlying5 (by kernel_rfl) (by kernel_rfl) h0
  obtain ⟨a1, len1, cap1, rfl⟩ := okWide_slice Tryz.underlying23 (hval 1 23 v1 rfl rfl)
  have k1 := h1
  have lt1 : ∀ x ∈ p1, x.block < W.heap.size := by obtain ⟨m, hm⟩ := k1; exact DataW.trod_lt m _ _ _ hm
  obtain ⟨⟨z1, w1⟩, y1⟩ := open_nums hsz (j := 1) (t := 23) rfl rfl Tryz.underlying23 Tryz.underlying5 (by kernel_rfl) (B := 1) (by kernel_rfl) h1
  obtain ⟨a2, rfl, rfl, rfl, w2⟩ := open_int Tryz.underlying3 (hval 2 3 v2 rfl rfl) h2
  clear hA0 hval0 hsz0 hsz
  refine (walk W a0 len0 cap0 z0 a1 len1 cap1 z1 a2 w0 w1 y1 w2).mono fun e W' ⟨he, bel⟩ => ?_
  subst he
  exact ⟨_, rfl, _, _, _, [], _, [], hW', trodAll_mk1 (shut_bool Tryz.underlying4 _), (trodAll_cons_mk (Below.trod laidOut (by kernel_rfl) (of_decide_eq_true (by kernel_rfl)) k0 bel lt0) (trodAll_cons_mk (Below.trod laidOut (by kernel_rfl) (of_decide_eq_true (by kernel_rfl)) k1 bel lt1) (trodAll_cons_mk (shut_int Tryz.underlying3 w2) trodAll_mk0))), rfl, bel.frame _, fun h => by cases h⟩
theorem over : Rows.indexAgreesRow.holds Tryz.pinned (OpenSpec.ofChange Rows.indexAgreesSpec) :=
  OpenClaim.holds_of_wide 6 Tryz.f6 rfl rfl rfl rfl rfl rfl rfl ⟨rfl, rfl, rfl, rfl, rfl⟩ rfl rfl rfl rfl rfl ov1 Tryz.func6 ov2 ov3 ov4
    (fun os started H enc _ => lifted os started H enc)
theorem proved : Rows.IndexAgreesSaid := over
#print axioms proved
end Go.Proofs.YtekmpjgcmooppaaGreat.indexAgrees
namespace Go.Proofs.YtekmpjgcmooppaaGreat
/-- The row, under a short name, for the claim. -/
theorem indexAgrees_holds : Rows.IndexAgreesSaid := indexAgrees.proved
end Go.Proofs.YtekmpjgcmooppaaGreat

