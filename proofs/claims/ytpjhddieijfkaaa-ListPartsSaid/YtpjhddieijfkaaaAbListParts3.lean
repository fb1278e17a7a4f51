/- A part of the proof of the law ListParts: lemmas alone; what each says stands at it. No conditions. -/
import Derived.Test.YtpjhddieijfkaaaAbListParts2
import Derived.Test.YtpjhddieijfkaaaAbListParts1
import Derived.Shelf.SortM.Plain
import Derived.Shelf.SortM.SortNone
import Derived.Ground.SlgmProg
import Derived.OpenShut
import Derived.WideShapes
/- A lister: New, Some, Docs. -/
namespace Go.Ab
open Go Go.Proofs Go.Ab.Wd Go.Ab.Bs Go.Ab.Sai
set_option linter.unusedVariables false
set_option linter.unusedSimpArgs false
theorem row_ptrL {σ : Store} {b es o : Nat} {l : List AV} {x : Ptr} (r : σ.Row b es l) (h : l[o]? = some (.ptr x)) : σ.ldPtr (Ptr.add (some (b, 0)) o) = some x := by
  have := r.cell (0 + o)
  simp only [Nat.zero_add] at this
  simp only [Store.ldPtr, Ptr.add, Option.map_some, Nat.zero_add, this, h]
structure Lst (σ : Store) (p : Ptr) (l : List Int) : Prop where
  ex : ∃ (b : Nat) (hd hb : Hdl) (pt : Ptr), p = some (b, 0) ∧ σ.Row b 3 [.slice hd, .slice hb, .ptr pt] ∧ σ.Ints hd l ∧ σ.Ints hb (bkIL l) ∧ Tab σ pt (bkIL l)
  small : l.length ≤ 4194304
theorem Lst.keep {σ σ' : Store} {p : Ptr} {l : List Int} (t : Lst σ p l) (k : ∀ x : Nat, x < σ.objs.length → σ'.objs[x]? = σ.objs[x]?) : Lst σ' p l := by
  obtain ⟨b, hd, hb, pt, e, R, D, B, T⟩ := t.ex
  have kk : ∀ {h : Hdl} {L : List AV}, σ.Sl h 1 L → σ'.Sl h 1 L := fun {h L} s => by
    refine ⟨s.len, ?_⟩
    rcases s.row with h1 | ⟨b, o, cs, rw, h1, h2, h3⟩
    · exact .inl h1
    · exact .inr ⟨b, o, cs, rw, h1, (k b (List.getElem?_eq_some_iff.1 h2).1).trans h2, h3⟩
  exact ⟨⟨b, hd, hb, pt, e, (k b R.lt).trans R, kk D, kk B, T.keep k⟩, t.small⟩
theorem Lst.kp {σ σ' : Store} {p : Ptr} {l : List Int} (t : Lst σ p l) (k : Kp σ.objs.length σ σ') : Lst σ' p l := t.keep k.keep
theorem listNew_run {σ : Store} {h : Hdl} {l : List Int} (hT : σ.Ints h l) (hp : σ.prot ≤ σ.objs.length) (hn : l.length ≤ 4194304) :
    ∃ p σ', Runs Try.prog 21 [.slice h] σ (.tuple [.ptr p, .int .i64 0]) σ' ∧ Kp σ.objs.length σ σ' ∧ (∀ σ'' : Store, (∀ x, σ.objs.length ≤ x → x < σ'.objs.length → σ''.objs[x]? = σ'.objs[x]?) → Lst σ'' p l) := by
  obtain ⟨h2, σ1, ⟨n1, r1⟩, K1, B1, b1_⟩ := docsBack_run hT hp (by omega)
  have b1 := fun x hx => (b1_ x hx).1
  have b1l := fun x hx => (b1_ x hx).2
  have hp1 : σ1.prot ≤ σ1.objs.length := by rw [K1.prot]; have := K1.len; omega
  obtain ⟨pt, σ2, ⟨n2, r2⟩, K2, T2⟩ := rmqNew_run B1 hp1 (by rw [bkIL_length]; exact hn)
  have hp2 : σ2.prot ≤ σ2.objs.length := by rw [K2.prot]; have := K2.len; omega
  have hT2 : σ2.Ints h l := Store.Sl.kp (Store.Sl.kp hT K1) K2
  obtain ⟨h3, σ3, ⟨n3, r3⟩, K3, G3⟩ := cloneI_run hT2 hp2 (by omega)
  obtain ⟨σ4, h4⟩ : ∃ s, s = σ3.push [.slice h3, .slice h2, .ptr pt] 3 := ⟨_, rfl⟩
  have K4 : Kp σ3.objs.length σ3 σ4 := by rw [h4]; exact Kp.push _ _ (Nat.le_refl _)
  have R4 : σ4.Row σ3.objs.length 3 [.slice h3, .slice h2, .ptr pt] := by rw [h4]; exact Store.Row.new
  have b1lt : ∀ x, h2.row = some x → x < σ4.objs.length := fun x hx => by
    have : x < σ1.objs.length := b1l x hx
    have := K2.len; have := K3.len; have := K4.len; omega
  have l1 := K1.len
  have l2 := K2.len
  have l3 := K3.len
  have K24 : Kp σ2.objs.length σ2 σ4 := K3.trans (K4.mono l3)
  have D4 : Grow σ4 σ2.objs.length h3 1 (intsL l) := Grow.kp G3 K4
  have B4 : σ4.Ints h2 (bkIL l) := Store.Sl.kp (Store.Sl.kp B1 K2) K24
  refine ⟨some (σ3.objs.length, 0), σ4, Runs.intro (fn := Try.f21) (by kernel_rfl) (by kernel_rfl) ⟨n1 + n2 + n3, fun k hk => ?_⟩, (K1.trans (K2.mono l1)).trans (K24.mono (by omega)), fun σ'' kq => ⟨⟨σ3.objs.length, h3, h2, pt, rfl, (kq _ (by omega) R4.lt).trans R4, ?_, ?_, ?_⟩, hn⟩⟩
  · have r1 := r1 k (by omega)
    have r2 := r2 k (by omega)
    have r3 := r3 k (by omega)
    simp only at r1 r2 r3
    simp only [f21_eq]
    simp only [Option.bind_some, decide_eq_true_eq, decide_eq_false_iff_not, Bool.not_eq_true', Bool.not_true, Bool.not_false, Bool.false_eq_true, Bool.true_eq_false, Bool.not_eq_eq_eq_not, beq_self_eq_true, beqFT, beqTF, decide_true, decide_false, not_false_eq_true, not_true_eq_false, ne_eq, true_and, and_true, false_and, and_false, and_self, if_true, if_false, ite_true, ite_false, Bool.and_true, Bool.and_false, Bool.true_and, Bool.false_and, Bool.or_true, Bool.true_or, Bool.or_false, Bool.false_or, or_true, true_or, or_false, false_or, or_self, AV.asInt, AV.asBool, AV.asSl, AV.asPtr, AV.asFn, AV.asStr, AV.asMap, AV.asIfc, AV.item, List.length_cons, List.length_nil, List.getElem?_cons_zero, List.getElem?_cons_succ, Nat.zero_add, r1, r2, r3, ← h4]
  · exact sl_keepX D4.sl fun x hx => kq x (by have := (hrow D4 x hx).1; omega) (hrow D4 x hx).2
  · exact sl_keepX B4 fun x hx => kq x (b1 x hx) (b1lt x hx)
  · exact T2 σ'' fun x hx hx2 => (kq x (by omega) (by have := K24.len; omega)).trans (K24.keep x hx2)
section
variable {σ : Store} {p : Ptr} {l : List Int}
theorem some_run (Ls : Lst σ p l) (hp : σ.prot ≤ σ.objs.length) (a b : Int) :
    ∃ ho σ', Runs Try.prog 43 [.ptr p, .int .i64 a, .int .i64 b, .int .i64 l.length] σ (.slice ho) σ' ∧ Kp σ.objs.length σ σ' ∧ GrowI σ' σ.objs.length ho (dOf [] (seg l a b)) := by
  obtain ⟨bb, hd, hb, pt, rfl, R, D, B, T⟩ := Ls.ex
  have sm := Ls.small
  obtain ⟨A, hA⟩ : ∃ A, A = max a 0 := ⟨_, rfl⟩
  obtain ⟨E, hE⟩ : ∃ E : Int, E = min b l.length := ⟨_, rfl⟩
  have ld := D.ilen
  have lb := B.ilen
  rw [bkIL_length] at lb
  have mA : mx2 a 0 = A := by rw [mx2_eq, hA]
  have mE : mn2 b hd.len = E := by rw [mn2_eq, hE, ld]
  have A0 : 0 ≤ A := by omega
  have En : E ≤ l.length := by omega
  have e0 := row_sl R (o := 0) rfl
  obtain ⟨m, hm⟩ : ∃ m, m = σ.objs.length := ⟨_, rfl⟩
  obtain ⟨todo0, ht0⟩ : ∃ h : Hdl, h = ⟨some (m, 0), 1, some 1⟩ := ⟨_, rfl⟩
  obtain ⟨σ1, h1⟩ : ∃ s, s = σ.push [.int .i64 A, .int .i64 E] 2 := ⟨_, rfl⟩
  have K1 : Kp m σ σ1 := by rw [h1, hm]; exact Kp.push _ _ (Nat.le_refl _)
  have R1 : σ1.Row m 2 [.int .i64 A, .int .i64 E] := by rw [h1, hm]; exact Store.Row.new
  have G1 : Grow σ1 m todo0 2 (pairsL [(A, E)]) := by
    rw [ht0]
    refine ⟨R1.sl (by simp), ⟨fun b' o' e => ?_, fun e => by simp at e⟩⟩
    simp only [Option.some.injEq, Prod.mk.injEq] at e
    obtain ⟨rfl, rfl⟩ := e
    exact ⟨Nat.le_refl _, _, R1, by simp, fun c hc => by simp at hc; subst hc; simp⟩
  obtain ⟨r, e, out, σ', I, rfl, K, GO, nd, hI⟩ := EvI.while (f := fun k s => stepF Try.prog (gm Try.prog k) drawn k Try.f43 [1, 1, 1, 1, 0, 1, 0] [10, 9, 3, 1, 0] s)
    (fun μ st => ∃ (I : List Int) (S : List (Int × Int)) (todo out : Hdl) (σ' : Store), μ = 2 * (l.length - I.length) + S.length ∧ st = ([.slice todo, .slice out, .int .i64 l.length, .int .i64 A, .ptr (some (bb, 0))], σ') ∧ Kp m σ σ' ∧ Grow σ' m todo 2 (pairsL S) ∧ GrowI σ' m out (I.map (rd l)) ∧ SomeI l A E I S ∧ S.length ≤ I.length + 1 ∧ ∀ x, out.row = some x → todo.row ≠ some x)
    (fun r => ∃ (out : Hdl) (σ' : Store) (I : List Int), r = (AX.exit 0, [(9, .slice out)], σ') ∧ Kp m σ σ' ∧ GrowI σ' m out (I.map (rd l)) ∧ I.Nodup ∧ ∀ i, fo l A E i ↔ i ∈ I)
    (by
      rintro μ st ⟨I, S, todo, out, σ', rfl, rfl, K, GT, GO, SI, sl, ap⟩
      have lt := pairs_len GT.sl
      have lo := GO.ints.ilen
      rw [List.length_map] at lo
      have lens := SI.len A0 En
      rw [List.length_append] at lens
      have lm := K.len
      have pr : σ'.prot ≤ m := by rw [K.prot, hm]; exact hp
      by_cases c1 : S = []
      · subst c1
        have x1 : ¬ (0 : Int) < todo.len := by rw [lt]; simp
        refine .inr ⟨_, Ev.of fun k => ?_, out, σ', I, rfl, K, GO, SI.done A0 En (.inl rfl)⟩
        simp only [f43_L1111010]
        simp only [decide_eq_true_eq, if_neg x1]
      obtain ⟨S', ⟨u, v⟩, hS⟩ : ∃ S' s, S = S' ++ [s] := ⟨S.dropLast, S.getLast c1, (List.dropLast_concat_getLast c1).symm⟩
      subst hS
      rw [List.length_append, List.length_singleton] at lt
      have x1 : (0 : Int) < todo.len := by omega
      by_cases c2 : l.length ≤ I.length
      · have x2 : ¬ (out.len : Int) < l.length := by omega
        refine .inr ⟨_, Ev.of fun k => ?_, out, σ', I, rfl, K, GO, SI.done A0 En (.inr c2)⟩
        simp only [f43_L1111010]
        simp only [decide_eq_true_eq, if_pos x1, if_neg x2]
      have x2 : (out.len : Int) < l.length := by omega
      have spv := SI.sp (u, v) (by simp)
      simp only at spv
      rw [List.length_append, List.length_singleton] at sl
      have w1 : IntKind.wrap .i64 ((todo.len : Int) - 1) = ((S'.length : Nat) : Int) := by rw [wrap64 (by omega) (by omega)]; omega
      have x3 : (0 : Int) ≤ ((S'.length : Nat) : Int) ∧ ((S'.length : Nat) : Int) < todo.len := by omega
      obtain ⟨d0, d1⟩ := pairs_rd GT.sl (i := S'.length) (u := u) (v := v) (by simp)
      obtain ⟨σ2, e2, k2, R2⟩ := take2 (σ := σ') (u := u) (v := v) (by omega)
      have f0 := row_int R2 (o := 0) rfl
      have f1 := row_int R2 (o := 1) rfl
      have GT2 := GT.kp k2
      have GO2 := Grow.kp GO k2
      have K2 : Kp m σ σ2 := K.trans (k2.mono (by omega))
      obtain ⟨todo', e3, GT3, tr⟩ := pairs_cut GT2 (m := S'.length) (by simp)
      rw [List.take_left] at GT3
      have k02 : Kp σ.objs.length σ σ2 := hm ▸ K2
      have Rc := R.kp k02 R.lt
      have g1 := row_sl Rc (o := 1) rfl
      have g0 := row_sl Rc (o := 0) rfl
      have g2 := row_ptrL Rc (o := 2) rfl
      have D2 : σ2.Ints hd l := Store.Sl.kp D k02
      have B2 : σ2.Ints hb (bkIL l) := Store.Sl.kp B k02
      obtain ⟨i, ⟨n1, r1⟩, hi⟩ := least14_run (T.kp k02) (x := u) (y := v)
      rw [bkIL_length, show max u 0 = u by omega, show min v (l.length : Int) = v by omega] at hi
      have ap2 : ∀ x, out.row = some x → todo'.row ≠ some x := fun x hx => by rw [tr]; exact ap x hx
      have low2 := k2.len
      rcases hi with ⟨q1, rfl⟩ | ⟨q1, q2, q3⟩
      · have SI' := SI.drop fun i h1 h2 => by omega
        refine .inl ⟨2 * (l.length - I.length) + S'.length, _, by rw [List.length_append, List.length_singleton]; omega, ⟨n1, fun k hk => ?_⟩, I, S', todo', out, σ2, rfl, rfl, K2, GT3, GO2, SI', by omega, ap2⟩
        have r1 := r1 k hk
        simp only at r1
        simp only [f43_L1111010]
        simp only [decide_eq_true_eq, if_pos x1, if_pos x2, w1, if_pos x3, d0, d1, Option.bind_some, e2, e3, g2, f0, f1, r1, AV.asInt, if_true, if_pos (show (-1 : Int) < 0 by omega)]
      · have x4 : ¬ i < 0 := by omega
        have x5 : (0 : Int) ≤ i ∧ i < hb.len := by omega
        have x6 : (0 : Int) ≤ i ∧ i < hd.len := by omega
        obtain ⟨j, hj⟩ : ∃ j : Nat, i = j := ⟨i.toNat, by omega⟩
        have rb := B2.rd (i := i) (by omega) (by rw [bkIL_length]; omega)
        have bv : rd (bkIL l) i = bkI l i.toNat := by rw [hj, Int.toNat_natCast]; exact rd_bkIL (by omega)
        rw [bv] at rb
        by_cases c3 : A ≤ bkI l i.toNat
        · have SI' := SI.drop fun t h1 h2 => fun hf => by
            have := q3 t h1 h2
            have e : rd (bkIL l) t = bkI l t.toNat := by
              have := rd_bkIL (l := l) (i := t.toNat) (by omega)
              rw [show ((t.toNat : Nat) : Int) = t by omega] at this; exact this
            rw [bv, e] at this
            have := hf.2.2
            omega
          refine .inl ⟨2 * (l.length - I.length) + S'.length, _, by rw [List.length_append, List.length_singleton]; omega, ⟨n1, fun k hk => ?_⟩, I, S', todo', out, σ2, rfl, rfl, K2, GT3, GO2, SI', by omega, ap2⟩
          have r1 := r1 k hk
          simp only at r1
          simp only [f43_L1111010]
          simp only [decide_eq_true_eq, if_pos x1, if_pos x2, w1, if_pos x3, d0, d1, Option.bind_some, e2, e3, g2, f0, f1, r1, AV.asInt, if_true, if_neg x4, g1, if_pos x5, rb, if_pos c3]
        · have fi : fo l A E i := ⟨by omega, by omega, by omega⟩
          have SI' := SI.take q1 q2 fi
          have rdd := D2.rd (i := i) (by omega) (by omega)
          obtain ⟨out', σ3, e4, k3, G3, fr3, hr3⟩ := Grow.app1X GO2 (by rw [K2.prot, hm]; exact hp) (by omega) (v := .int .i64 (rd l i)) rfl (bs := 8) (by omega) (by rw [intsL_length, List.length_map]; omega)
          have e5 : intsL (I.map (rd l)) ++ [AV.int .i64 (rd l i)] = intsL ((I ++ [i]).map (rd l)) := by simp [intsL]
          rw [e5] at G3
          have one : out.row ≠ some σ'.objs.length := fun e => by have := (hrow GO _ e).2; omega
          have R3 : σ3.Row σ'.objs.length 2 [.int .i64 u, .int .i64 v] := (fr3 _ R2.lt one).trans R2
          have h0 := row_int R3 (o := 0) rfl
          have h1 := row_int R3 (o := 1) rfl
          have GT4 : Grow σ3 m todo' 2 (pairsL S') := GT3.keepX fun x hx => fr3 x (hrow GT3 x hx).2 (fun e => ap2 x e hx)
          have K3 : Kp m σ σ3 := K2.trans k3
          have lm3 := K3.len
          have w2 : IntKind.wrap .i64 (i + 1) = i + 1 := wrap64 (by omega) (by omega)
          have rdp : Store.readSl (σ3.push [.int .i64 u, .int .i64 i, .int .i64 (i + 1), .int .i64 v] 2) ⟨some (σ3.objs.length, 0), 2, some 2⟩ 2 = some [.int .i64 u, .int .i64 i, .int .i64 (i + 1), .int .i64 v] :=
            (Store.Row.new.sl (by rfl)).read
          have GT5 := GT4.kp (Kp.push [.int .i64 u, .int .i64 i, .int .i64 (i + 1), .int .i64 v] 2 (Nat.le_refl _))
          have lt5 := pairs_len GT4.sl
          obtain ⟨todo'', σ4, e6, k4, S4, O4, _, fr4⟩ := app_spec (xs := [.int .i64 u, .int .i64 i, .int .i64 (i + 1), .int .i64 v]) (by_ := 16) (m := 2) GT5.sl GT5.own (by show σ3.prot ≤ m; rw [K3.prot, hm]; exact hp) (by simp; omega) (by omega) (by simp) rfl (by omega) (by omega)
          have e7 : pairsL S' ++ [AV.int .i64 u, .int .i64 i, .int .i64 (i + 1), .int .i64 v] = pairsL (S' ++ [(u, i), (i + 1, v)]) := by rw [pairsL_append]; rfl
          rw [e7] at S4
          have K4 : Kp m σ σ4 := (K3.trans (Kp.push _ _ (by omega))).trans k4
          have outlt : ∀ x, out'.row = some x → x < σ3.objs.length := fun x hx => (hrow G3 x hx).2
          have apo : ∀ x, out'.row = some x → todo'.row ≠ some x := fun x hx e => by
            rcases hr3 with r | r
            · exact ap2 x (r ▸ hx) e
            · have := r x hx; have := (hrow GT3 x e).2; omega
          have GO4 : Grow σ4 m out' 1 (intsL ((I ++ [i]).map (rd l))) := G3.keepX fun x hx => by
            rw [fr4 x (fun c o e' e2 => apo x hx (by simp [Hdl.row, e', e2])) (by have := outlt x hx; simp; omega)]
            simp only [Store.push]; rw [List.getElem?_append_left (outlt x hx)]
          have apo2 : ∀ x, out'.row = some x → todo''.row ≠ some x := fun x hx e => by
            rcases app_row e6 with r | r
            · exact apo x hx (r ▸ e)
            · rw [r] at e; injection e with e; have := outlt x hx; simp at e; omega
          refine .inl ⟨2 * (l.length - (I ++ [i]).length) + (S' ++ [(u, i), (i + 1, v)]).length, _, by simp; omega, ⟨n1, fun k hk => ?_⟩, I ++ [i], S' ++ [(u, i), (i + 1, v)], todo'', out', σ4, rfl, rfl, K4, ⟨S4, O4⟩, GO4, SI', by simp; omega, apo2⟩
          have r1 := r1 k hk
          simp only at r1
          simp only [f43_L1111010]
          simp only [decide_eq_true_eq, if_pos x1, if_pos x2, w1, if_pos x3, d0, d1, Option.bind_some, e2, e3, g2, f0, f1, r1, AV.asInt, if_true, if_neg x4, g1, if_pos x5, rb, if_neg c3, g0, if_pos x6, rdd, read1, e4, h0, h1, w2, rdp, e6])
    (2 * (l.length - 0) + 1) _ ⟨[], [(A, E)], todo0, Hdl.nil, σ1, rfl, rfl, K1, G1, Grow.nil _ _ _, SomeI.start l A E, by simp, fun x hx => by simp [Hdl.row, Hdl.nil] at hx⟩
  obtain ⟨n1, e⟩ := loopF_ev e
  have lI : I.length ≤ l.length := by
    have := nodup_sub_len (m := rngN 0 l.length) nd fun x hx => by
      rw [mem_rngN]; have := (hI x).2 hx; unfold fo at this; omega
    have len : ∀ (n : Nat) (u : Int), (rngN u n).length = n := fun n => by
      induction n with
      | zero => intro u; rfl
      | succ n ih => intro u; rw [rngN, List.length_cons, ih]
    rw [len] at this; exact this
  obtain ⟨σs, ⟨n2, r2⟩, Ks, Gs, _⟩ := slsortL_run GO (by rw [K.prot, hm]; exact hp) (by rw [List.length_map]; omega)
  have fin := some_docs A0 En nd hI
  have sg : seg l A E = seg l a b := by
    unfold seg segLo segHi
    rw [show max A 0 = max a 0 by omega, show max (max a 0) (min E (l.length : Int)) = max (max a 0) (min b l.length) by omega]
  rw [fin, sg] at Gs
  refine ⟨out, σs, Runs.intro (fn := Try.f43) (by kernel_rfl) (by kernel_rfl) ⟨n1 + n2, fun k hk => ?_⟩, hm ▸ (K.trans Ks), hm ▸ Gs⟩
  have e := e k (by omega)
  have r2 := r2 k (by omega)
  simp only at e r2
  simp only [f43_eq]
  simp only [Option.bind_some, decide_eq_true_eq, decide_eq_false_iff_not, Bool.not_eq_true', Bool.not_true, Bool.not_false, Bool.false_eq_true, Bool.true_eq_false, Bool.not_eq_eq_eq_not, beq_self_eq_true, beqFT, beqTF, decide_true, decide_false, not_false_eq_true, not_true_eq_false, ne_eq, true_and, and_true, false_and, and_false, and_self, if_true, if_false, ite_true, ite_false, Bool.and_true, Bool.and_false, Bool.true_and, Bool.false_and, Bool.or_true, Bool.true_or, Bool.or_false, Bool.false_or, or_true, true_or, or_false, false_or, or_self, AV.asInt, AV.asBool, AV.asSl, AV.asPtr, AV.asFn, AV.asStr, AV.asMap, AV.asIfc, AV.item, List.length_cons, List.length_nil, List.getElem?_cons_zero, List.getElem?_cons_succ, Nat.zero_add, Option.isNone_some, e0, mA, mE, ← hm, ← ht0, ← h1, e]
  rw [f43_X1111010_1]
  simp only [r2, Option.bind_some]
theorem docs17_run (Ls : Lst σ p l) (hp : σ.prot ≤ σ.objs.length) (a b : Int) :
    ∃ ho σ', Runs Try.prog 23 [.ptr p, .int .i64 a, .int .i64 b] σ (.slice ho) σ' ∧ Kp σ.objs.length σ σ' ∧ GrowI σ' σ.objs.length ho (dOf [] (seg l a b)) := by
  obtain ⟨ho, σ', ⟨n1, r1⟩, K, G⟩ := some_run Ls hp a b
  obtain ⟨bb, hd, hb, pt, rfl, R, D, B, T⟩ := Ls.ex
  have e0 := row_sl R (o := 0) rfl
  have ld := D.ilen
  refine ⟨ho, σ', Runs.intro (fn := Try.f23) (by kernel_rfl) (by kernel_rfl) ⟨n1, fun k hk => ?_⟩, K, G⟩
  have r1 := r1 k hk
  simp only at r1
  simp only [f23_eq]
  simp only [Option.bind_some, decide_eq_true_eq, decide_eq_false_iff_not, Bool.not_eq_true', Bool.not_true, Bool.not_false, Bool.false_eq_true, Bool.true_eq_false, Bool.not_eq_eq_eq_not, beq_self_eq_true, beqFT, beqTF, decide_true, decide_false, not_false_eq_true, not_true_eq_false, ne_eq, true_and, and_true, false_and, and_false, and_self, if_true, if_false, ite_true, ite_false, Bool.and_true, Bool.and_false, Bool.true_and, Bool.false_and, Bool.or_true, Bool.true_or, Bool.or_false, Bool.false_or, or_true, true_or, or_false, false_or, or_self, AV.asInt, AV.asBool, AV.asSl, AV.asPtr, AV.asFn, AV.asStr, AV.asMap, AV.asIfc, AV.item, List.length_cons, List.length_nil, List.getElem?_cons_zero, List.getElem?_cons_succ, Nat.zero_add, Option.isNone_some, e0, ld, r1]
end
end Go.Ab


/- The reference's documents. -/
namespace Go.Ab
open Go Go.Proofs Go.Ab.Wd Go.Ab.Bs Go.Ab.Sai
set_option linter.unusedVariables false
set_option linter.unusedSimpArgs false
theorem set_atPL {α : Type} {o : List α} {a : Nat} (h : a ≤ o.length) (x y : α) : (o.take a ++ y :: o.drop a).set a x = o.take a ++ x :: o.drop a := by
  have l : (o.take a).length = a := by simp; omega
  rw [List.set_append, if_neg (by omega), l, Nat.sub_self, List.set_cons_zero]
theorem set_midPL {α : Type} {o : List α} {m : Nat} {z : α} (h : o[m]? = some z) (x : α) : (o.take (m + 1) ++ x :: o.drop (m + 1)).set (m + 1) z = o.take m ++ z :: o.drop m := by
  have hm : m < o.length := (List.getElem?_eq_some_iff.1 h).1
  have hz : o[m] = z := (List.getElem?_eq_some_iff.1 h).2
  rw [set_atPL (by omega)]
  have e1 : o.take (m + 1) = o.take m ++ [z] := by rw [List.take_add_one, h]; rfl
  have e2 : o.drop m = z :: o.drop (m + 1) := by rw [List.drop_eq_getElem_cons hm, hz]
  rw [e1, e2, List.append_assoc]; rfl
theorem ltN_lt (x : Int) : ∀ (o : List Int) (i : Nat), i < ltN x o → ∃ h : i < o.length, o[i] < x
  | [], i, h => by simp [ltN] at h
  | y :: o, i, h => by
    unfold ltN at h
    split at h
    · rename_i c
      cases i with
      | zero => exact ⟨by simp, c⟩
      | succ i => obtain ⟨h1, h2⟩ := ltN_lt x o i (by omega); exact ⟨by simpa using h1, by simpa using h2⟩
    · omega
theorem ltN_stop (x : Int) : ∀ (o : List Int) (h : ltN x o < o.length), ¬ o[ltN x o] < x
  | [], h => by simp at h
  | y :: o, h => by
    by_cases c : y < x
    · have e : ltN x (y :: o) = ltN x o + 1 := by rw [ltN, if_pos c]
      have h' : ltN x o < o.length := by rw [e] at h; simpa using h
      have := ltN_stop x o h'
      simpa [e] using this
    · have e : ltN x (y :: o) = 0 := by rw [ltN, if_neg c]
      simp only [e, List.getElem_cons_zero]; exact c
theorem rd_get {o : List Int} {i : Nat} (h : i < o.length) : rd o (i : Nat) = o[i] := by unfold rd; simp [h]
theorem docs_find {σ : Store} {ho h : Hdl} {o : List Int} {a b x p q : Int} (hO : σ.Ints ho o) (hn : o.length < 2 ^ 40) :
    EvI (fun k s => stepF Try.prog (gm Try.prog k) drawn k Try.f24 [1, 1, 0, 1, 0, 0, 1, 1, 0, 0, 1, 1, 1, 0, 0] [14, 13, 12, 10, 9, 7, 2, 1] s)
      ([.int .i64 a, .int .i64 b, .slice h, .int .i64 0, .int .i64 x, .slice ho, .int .i64 p, .int .i64 q], σ) (AX.exit 2, [(14, .int .i64 a), (13, .int .i64 b), (12, .slice h), (10, .int .i64 (ltN x o : Nat)), (9, .int .i64 x), (7, .slice ho), (2, .int .i64 p), (1, .int .i64 q)], σ) := by
  have ll := hO.ilen
  have gl := (insD_eq x o).1
  obtain ⟨r, e, rfl⟩ := EvI.up (f := fun k s => stepF Try.prog (gm Try.prog k) drawn k Try.f24 [1, 1, 0, 1, 0, 0, 1, 1, 0, 0, 1, 1, 1, 0, 0] [14, 13, 12, 10, 9, 7, 2, 1] s) (ltN x o)
    (fun i s => s = ([.int .i64 a, .int .i64 b, .slice h, .int .i64 (i : Nat), .int .i64 x, .slice ho, .int .i64 p, .int .i64 q], σ))
    (fun r => r = (AX.exit 2, [(14, .int .i64 a), (13, .int .i64 b), (12, .slice h), (10, .int .i64 (ltN x o : Nat)), (9, .int .i64 x), (7, .slice ho), (2, .int .i64 p), (1, .int .i64 q)], σ))
    (by
      rintro i s hi rfl
      obtain ⟨h1, h2⟩ := ltN_lt x o i hi
      have i1 : (i : Int) < ho.len := by omega
      have i2 : (0 : Int) ≤ i ∧ (i : Int) < ho.len := by omega
      have w : IntKind.wrap .i64 ((i : Int) + 1) = ((i + 1 : Nat) : Int) := by rw [wrap64 (by omega) (by omega)]; omega
      have rx := hO.rd (i := (i : Int)) (by omega) (by omega)
      have hv : rd o (i : Nat) < x := by rw [rd_get h1]; exact h2
      refine ⟨_, Ev.of fun k => ?_, rfl⟩
      simp only [f24_L110100110011100]
      simp only [decide_eq_true_eq, if_pos i1, if_pos i2, rx, Option.bind_some, if_pos hv, w])
    (by
      rintro s rfl
      by_cases c : ltN x o < o.length
      · have i1 : ((ltN x o : Nat) : Int) < ho.len := by omega
        have i2 : (0 : Int) ≤ ((ltN x o : Nat) : Int) ∧ ((ltN x o : Nat) : Int) < ho.len := by omega
        have rx := hO.rd (i := ((ltN x o : Nat) : Int)) (by omega) (by omega)
        have hv : ¬ rd o (ltN x o : Nat) < x := by rw [rd_get c]; exact ltN_stop x o c
        refine ⟨_, Ev.of fun k => ?_, rfl⟩
        simp only [f24_L110100110011100]
        simp only [decide_eq_true_eq, if_pos i1, if_pos i2, rx, Option.bind_some, if_neg hv]
      · have i1 : ¬ ((ltN x o : Nat) : Int) < ho.len := by omega
        refine ⟨_, Ev.of fun k => ?_, rfl⟩
        simp only [f24_L110100110011100]
        simp only [decide_eq_true_eq, if_neg i1])
    (s := ([.int .i64 a, .int .i64 b, .slice h, .int .i64 0, .int .i64 x, .slice ho, .int .i64 p, .int .i64 q], σ)) rfl
  exact e
theorem docs_shift {σ : Store} {n : Nat} {h ho : Hdl} {o : List Int} {at_ : Nat} {a b x p q : Int} (hpr : σ.prot ≤ n) (hn : o.length < 2 ^ 40) (ha : at_ ≤ o.length) (m : Nat) : ∀ (σ1 : Store) (y : Int), at_ + m ≤ o.length → Kp n σ σ1 → GrowI σ1 n ho (o.take (at_ + m) ++ y :: o.drop (at_ + m)) →
    ∃ σ2 z, EvI (fun k s => stepF Try.prog (gm Try.prog k) drawn k Try.f24 [1, 1, 0, 1, 0, 0, 1, 1, 0, 0, 1, 1, 1, 1, 1, 1, 0, 1, 0] [14, 13, 12, 11, 10, 9, 7, 2, 1] s)
      ([.int .i64 a, .int .i64 b, .slice h, .int .i64 (at_ + m : Nat), .int .i64 at_, .int .i64 x, .slice ho, .int .i64 p, .int .i64 q], σ1) (AX.exit 4, [(14, .int .i64 a), (13, .int .i64 b), (12, .slice h), (10, .int .i64 at_), (9, .int .i64 x), (7, .slice ho), (2, .int .i64 p), (1, .int .i64 q)], σ2) ∧
      Kp n σ σ2 ∧ GrowI σ2 n ho (o.take at_ ++ z :: o.drop at_) := by
  induction m with
  | zero =>
    intro σ1 y hm k1 g
    exact ⟨σ1, y, EvI.done (Ev.of fun k => by simp only [f24_L1101001100111111010]; simp only [Option.bind_some, decide_eq_true_eq, decide_eq_false_iff_not, Bool.not_eq_true', Bool.not_true, Bool.not_false, Bool.false_eq_true, Bool.true_eq_false, Bool.not_eq_eq_eq_not, beq_self_eq_true, beqFT, beqTF, decide_true, decide_false, not_false_eq_true, not_true_eq_false, ne_eq, true_and, and_true, false_and, and_false, and_self, if_true, if_false, ite_true, ite_false, Bool.and_true, Bool.and_false, Bool.true_and, Bool.false_and, Bool.or_true, Bool.true_or, Bool.or_false, Bool.false_or, or_true, true_or, or_false, false_or, or_self, AV.asInt, AV.asBool, AV.asSl, AV.asPtr, AV.asFn, AV.asStr, AV.asMap, AV.asIfc, AV.item, List.length_cons, List.length_nil, List.getElem?_cons_zero, List.getElem?_cons_succ, Nat.zero_add, Nat.add_zero, Int.lt_irrefl]), k1, g⟩
  | succ m ih =>
    intro σ1 y hm k1 g
    have ll := g.ints.ilen
    have lL : (o.take (at_ + (m + 1)) ++ y :: o.drop (at_ + (m + 1))).length = o.length + 1 := by simp; omega
    have w : IntKind.wrap .i64 (((at_ + (m + 1) : Nat) : Int) - 1) = ((at_ + m : Nat) : Int) := by rw [wrap64 (by omega) (by omega)]; omega
    have c1 : (at_ : Int) < (at_ + (m + 1) : Nat) := by omega
    have c2 : (0 : Int) ≤ (at_ + m : Nat) ∧ ((at_ + m : Nat) : Int) < ho.len := by omega
    have c4 : (0 : Int) ≤ (at_ + (m + 1) : Nat) ∧ ((at_ + (m + 1) : Nat) : Int) < ho.len := by omega
    have r1 := g.ints.rd (i := ((at_ + m : Nat) : Int)) (by omega) (by omega)
    have rv : rd (o.take (at_ + (m + 1)) ++ y :: o.drop (at_ + (m + 1))) ((at_ + m : Nat) : Int) = o[at_ + m] := by
      rw [rd_get (by rw [lL]; omega)]
      rw [List.getElem_append_left (by simp; omega), List.getElem_take]
    rw [rv] at r1
    obtain ⟨σ2, e2, k2, g2, _⟩ := growN_st (k := .i64) g (by rw [k1.prot]; exact hpr) (i := ((at_ + (m + 1) : Nat) : Int)) (by omega) (by omega) (o[at_ + m])
    have sm := set_midPL (o := o) (m := at_ + m) (z := o[at_ + m]) (by rw [List.getElem?_eq_getElem (by omega)]) y
    rw [show ((at_ + (m + 1) : Nat) : Int).toNat = at_ + (m + 1) by omega, ← Nat.add_assoc, sm] at g2
    obtain ⟨σ3, z, e3, k3, g3⟩ := ih σ2 _ (by omega) (k1.trans k2) g2
    exact ⟨σ3, z, EvI.step (Ev.of fun k => by
      simp only [f24_L1101001100111111010]
      simp only [decide_eq_true_eq, if_pos c1, w, if_pos c2, if_pos c4, r1, Option.bind_some, e2]) e3, k3, g3⟩
end Go.Ab


/- The reference's documents run; the laws ListDocs, ListParts. -/
namespace Go.Ab
open Go Go.Proofs Go.Ab.Wd Go.Ab.Bs Go.Ab.Sai
set_option linter.unusedVariables false
set_option linter.unusedSimpArgs false
theorem docsRef_run {σ : Store} {h : Hdl} {l : List Int} (hT : σ.Ints h l) (hp : σ.prot ≤ σ.objs.length) (hn : l.length < 2 ^ 30) (a b : Int) :
    ∃ ho σ', Runs Try.prog 24 [.slice h, .int .i64 a, .int .i64 b] σ (.slice ho) σ' ∧ Kp σ.objs.length σ σ' ∧ GrowI σ' σ.objs.length ho (dOf [] (seg l a b)) := by
  have ll := hT.ilen
  obtain ⟨r, e, ho, σ', rfl, h1, h2⟩ := EvI.up (f := fun k s => stepF Try.prog (gm Try.prog k) drawn k Try.f24 [1, 1, 0, 1, 0] [14, 13, 12, 7, 2, 1] s) l.length
    (fun i s => ∃ ho s1, s = ([.int .i64 i, .int .i64 l.length, .slice h, .slice ho, .int .i64 b, .int .i64 a], s1) ∧ Kp σ.objs.length σ s1 ∧ GrowI s1 σ.objs.length ho (dOf [] (pt l a b i)))
    (fun r => ∃ ho s1, r = (AX.exit 0, [(7, .slice ho)], s1) ∧ Kp σ.objs.length σ s1 ∧ GrowI s1 σ.objs.length ho (dOf [] (pt l a b l.length)))
    (by
      rintro i s hi ⟨ho, s1, rfl, kk, g⟩
      have i1 : (i : Int) < l.length := by omega
      have i2 : (0 : Int) ≤ i ∧ (i : Int) < h.len := by omega
      have w := wsucc hi (by omega)
      have hTs : s1.Ints h l := Store.Sl.kp hT kk
      have rx := hTs.rd (i := (i : Int)) (by omega) i1
      by_cases c1 : (i : Int) < a
      · have e1 : pt l a b (i + 1) = pt l a b i := by
          unfold pt; rw [List.drop_eq_nil_iff.2 (by simp; omega), List.drop_eq_nil_iff.2 (by simp; omega)]
        refine ⟨_, Ev.of fun m => ?_, ho, s1, rfl, kk, by rw [e1]; exact g⟩
        simp only [f24_L11010]
        simp only [decide_eq_true_eq, if_pos i1, if_pos i2, rx, Option.bind_some, if_pos c1, w]
      by_cases c2 : b ≤ i
      · have e1 : pt l a b (i + 1) = pt l a b i := by unfold pt; rw [show min (i + 1) b.toNat = min i b.toNat by omega]
        refine ⟨_, Ev.of fun m => ?_, ho, s1, rfl, kk, by rw [e1]; exact g⟩
        simp only [f24_L11010]
        simp only [decide_eq_true_eq, if_pos i1, if_pos i2, rx, Option.bind_some, if_neg c1, if_pos c2, w]
      have e1 : pt l a b (i + 1) = pt l a b i ++ [rd l i] := by
        unfold pt
        rw [show min (i + 1) b.toNat = i + 1 by omega, show min i b.toNat = i by omega, take_rd hi, List.drop_append_of_le_length (by simp; omega)]
      rw [e1, dOf_app]
      obtain ⟨o, ho_⟩ : ∃ o, o = dOf [] (pt l a b i) := ⟨_, rfl⟩
      have lo : o.length ≤ l.length := by
        have := dOf_len (pt l a b i) []
        have q : (pt l a b i).length ≤ l.length := by unfold pt; simp; omega
        rw [ho_]; simp only [List.length_nil] at this; omega
      rw [← ho_] at g ⊢
      have lho := g.ints.ilen
      obtain ⟨x, hx⟩ : ∃ x, x = rd l (i : Nat) := ⟨_, rfl⟩
      rw [← hx] at rx ⊢
      obtain ⟨la, iq, ie⟩ := insD_eq x o
      have p1 : s1.prot ≤ σ.objs.length := by rw [kk.prot]; exact hp
      obtain ⟨n1, f1⟩ := loopF_ev (docs_find (h := h) (a := i) (b := l.length) (x := x) (p := b) (q := a) g.ints (by omega))
      by_cases c3 : ∃ hh : ltN x o < o.length, o[ltN x o] = x
      · obtain ⟨hh, he⟩ := c3
        rw [iq ⟨hh, he⟩]
        have j1 : ((ltN x o : Nat) : Int) < ho.len := by omega
        have j2 : (0 : Int) ≤ ((ltN x o : Nat) : Int) ∧ ((ltN x o : Nat) : Int) < ho.len := by omega
        have ry := g.ints.rd (i := ((ltN x o : Nat) : Int)) (by omega) (by omega)
        rw [rd_get hh, he] at ry
        refine ⟨_, ⟨n1, fun m hm => ?_⟩, ho, s1, rfl, kk, g⟩
        have f1 := f1 m hm
        simp only at f1
        simp only [f24_L11010]
        simp only [decide_eq_true_eq, if_pos i1, if_pos i2, rx, Option.bind_some, if_neg c1, if_neg c2, f1]
        rw [f24_X110100110011100_1]
        simp only [decide_eq_true_eq, if_pos j1, if_pos j2, ry, Option.bind_some, if_true, w]
      · obtain ⟨h', s2, e2, k2, g2⟩ := g.app p1 kk.len 0 (by omega)
        have lh2 := g2.ints.ilen
        rw [List.length_append] at lh2
        have g2' : GrowI s2 σ.objs.length h' (o.take (ltN x o + (o.length - ltN x o)) ++ 0 :: o.drop (ltN x o + (o.length - ltN x o))) := by
          rw [show ltN x o + (o.length - ltN x o) = o.length by omega, List.take_length, List.drop_length]; exact g2
        obtain ⟨s3, y, e3, k3, g3⟩ := docs_shift (h := h) (a := i) (b := l.length) (x := x) (p := b) (q := a) p1 (by omega) la _ s2 0 (by omega) k2 g2'
        obtain ⟨n3, e3⟩ := loopF_ev e3
        have lh3 := g3.ints.ilen
        rw [List.length_append, List.length_cons] at lh3
        have lt : (o.take (ltN x o)).length + ((o.drop (ltN x o)).length + 1) = o.length + 1 := by simp; omega
        obtain ⟨s4, e4, k4, g4, _⟩ := growN_st (k := .i64) g3 (by rw [k3.prot]; exact p1) (i := (ltN x o : Nat)) (by omega) (by rw [List.length_append, List.length_cons]; omega) x
        rw [Int.toNat_natCast, set_atPL la, ie c3] at g4
        have wm : IntKind.wrap .i64 ((h'.len : Int) - 1) = ((ltN x o + (o.length - ltN x o) : Nat) : Int) := by
          simp only [List.length_cons, List.length_nil] at lh2
          rw [wrap64 (by omega) (by omega)]; omega
        have d1 : (0 : Int) ≤ (ltN x o : Nat) ∧ ((ltN x o : Nat) : Int) < h'.len := by omega
        refine ⟨([.int .i64 (i + 1 : Nat), .int .i64 l.length, .slice h, .slice h', .int .i64 b, .int .i64 a], s4), ⟨n1 + n3, fun m hm => ?_⟩, h', s4, rfl, (kk.trans k3).trans k4, g4⟩
        have f1 := f1 m (by omega)
        have e3 := e3 m (by omega)
        simp only at f1 e3
        simp only [f24_L11010]
        simp only [decide_eq_true_eq, if_pos i1, if_pos i2, rx, Option.bind_some, if_neg c1, if_neg c2, f1]
        rw [f24_X110100110011100_1]
        by_cases c4 : ltN x o < o.length
        · have j1 : ((ltN x o : Nat) : Int) < ho.len := by omega
          have j2 : (0 : Int) ≤ ((ltN x o : Nat) : Int) ∧ ((ltN x o : Nat) : Int) < ho.len := by omega
          have ry := g.ints.rd (i := ((ltN x o : Nat) : Int)) (by omega) (by omega)
          have hne : ¬ rd o ((ltN x o : Nat) : Int) = x := fun e => c3 ⟨c4, by rw [rd_get c4] at e; exact e⟩
          simp only [decide_eq_true_eq, if_pos j1, if_pos j2, ry, Option.bind_some, if_neg hne, read1, e2, wm, e3]
          rw [f24_X1101001100111111010_1]
          simp only [if_pos d1, e4, Option.bind_some, w]
        · have j1 : ¬ ((ltN x o : Nat) : Int) < ho.len := by omega
          simp only [decide_eq_true_eq, if_neg j1, read1, Option.bind_some, e2, wm, e3]
          rw [f24_X1101001100111111010_1]
          simp only [if_pos d1, e4, Option.bind_some, w])
    (by
      rintro s ⟨ho, s1, rfl, kk, g⟩
      exact ⟨(AX.exit 0, [(7, .slice ho)], s1), Ev.of fun m => by simp only [f24_L11010]; simp only [Option.bind_some, decide_eq_true_eq, decide_eq_false_iff_not, Bool.not_eq_true', Bool.not_true, Bool.not_false, Bool.false_eq_true, Bool.true_eq_false, Bool.not_eq_eq_eq_not, beq_self_eq_true, beqFT, beqTF, decide_true, decide_false, not_false_eq_true, not_true_eq_false, ne_eq, true_and, and_true, false_and, and_false, and_self, if_true, if_false, ite_true, ite_false, Bool.and_true, Bool.and_false, Bool.true_and, Bool.false_and, Bool.or_true, Bool.true_or, Bool.or_false, Bool.false_or, or_true, true_or, or_false, false_or, or_self, AV.asInt, AV.asBool, AV.asSl, AV.asPtr, AV.asFn, AV.asStr, AV.asMap, AV.asIfc, AV.item, List.length_cons, List.length_nil, List.getElem?_cons_zero, List.getElem?_cons_succ, Nat.zero_add, Int.lt_irrefl], ho, s1, rfl, kk, g⟩)
    (s := ([.int .i64 0, .int .i64 l.length, .slice h, .slice Hdl.nil, .int .i64 b, .int .i64 a], σ)) ⟨Hdl.nil, σ, rfl, Kp.refl _ _, by rw [show pt l a b 0 = [] by simp [pt]]; exact Grow.nil _ _ _⟩
  rw [pt_end] at h2
  refine ⟨ho, σ', Runs.intro (fn := Try.f24) (by kernel_rfl) (by kernel_rfl) ?_, h1, h2⟩
  exact (Ev.bind (loopF_ev e) (Ev.of fun k => f24_X11010_1 (gm Try.prog k) k _ _)).congr fun k => by rw [f24_eq, ll]
theorem first17_told (σ : Store) : Runs Try.prog 20 [] σ (.bool true) σ := Runs.told (f := fun args σ => match args with | [] => some (.bool true, σ) | _ => none) (by kernel_rfl) rfl
end Go.Ab


/- The law ListParts. -/
namespace Go.Ab
open Go Go.Proofs Go.Ab.Wd Go.Ab.Bs Go.Ab.Sai
set_option linter.unusedVariables false
set_option linter.unusedSimpArgs false
theorem umodL {a : Int} {n : Nat} (hn : n < 2 ^ 40) : IntKind.wrap .u64 (IntKind.wrap .i64 ((n : Int) + 1)) = (n : Int) + 1 ∧ ∃ k : Nat, IntKind.wrap .i64 (Int.tmod (IntKind.wrap .u64 a) ((n : Int) + 1)) = (k : Int) ∧ k ≤ n := umod hn
theorem mem_seg {l : List Int} {a b x : Int} : x ∈ seg l a b ↔ ∃ j : Nat, a ≤ j ∧ (j : Int) < b ∧ l[j]? = some x := by
  unfold seg segLo segHi
  rw [List.mem_iff_getElem?]
  constructor
  · rintro ⟨m, hm⟩
    rw [List.getElem?_drop, List.getElem?_take] at hm
    split at hm
    · rename_i c
      have := (List.getElem?_eq_some_iff.1 hm).1
      exact ⟨_, by omega, by omega, hm⟩
    · cases hm
  · rintro ⟨j, h1, h2, h3⟩
    have jl := (List.getElem?_eq_some_iff.1 h3).1
    refine ⟨j - (max a 0).toNat, ?_⟩
    rw [List.getElem?_drop, List.getElem?_take, if_pos (by omega), show (max a 0).toNat + (j - (max a 0).toNat) = j by omega]
    exact h3
theorem parts_eq {l : List Int} {a b c : Int} (h1 : a ≤ b) (h2 : b ≤ c) {x : List Int} (hx : x = dOf [] (seg l a b) ++ dOf [] (seg l b c)) : dOf [] (seg l a c) = dOf [] (seg x 0 x.length) := by
  have e : seg x 0 x.length = x := by
    unfold seg segLo segHi
    rw [show (max (0 : Int) 0).toNat = 0 by omega, List.drop_zero, List.take_of_length_le (by omega)]
  rw [e]
  refine inc_uniq (dOf_inc _ _ (by simp)) (dOf_inc _ _ (by simp)) fun z => ?_
  rw [mem_dOf, mem_dOf, hx, List.mem_append, mem_dOf, mem_dOf, mem_seg, mem_seg, mem_seg]
  constructor
  · rintro (h | ⟨j, j1, j2, j3⟩)
    · cases h
    · right
      by_cases d : (j : Int) < b
      · exact .inl (.inr ⟨j, j1, d, j3⟩)
      · exact .inr (.inr ⟨j, by omega, j2, j3⟩)
  · rintro (h | (h | ⟨j, j1, j2, j3⟩) | (h | ⟨j, j1, j2, j3⟩))
    · cases h
    · cases h
    · exact .inr ⟨j, j1, by omega, j3⟩
    · cases h
    · exact .inr ⟨j, by omega, j2, j3⟩
theorem law_ListParts {σ : Store} {h : Hdl} {l : List Int} {a0 a1 a2 : Int} (hT : σ.Ints h l) (hH : σ.Has h) (hn : l.length < 2 ^ 44) (hw : ∀ n ∈ l, IntKind.min .i64 ≤ n ∧ n ≤ IntKind.max .i64)
    (ha0 : IntKind.min .i64 ≤ a0 ∧ a0 ≤ IntKind.max .i64) (ha1 : IntKind.min .i64 ≤ a1 ∧ a1 ≤ IntKind.max .i64) (ha2 : IntKind.min .i64 ≤ a2 ∧ a2 ≤ IntKind.max .i64) (hp : σ.prot ≤ σ.objs.length) :
    ∃ σ', Runs Try.prog 8 [.slice h, .agg [.int .i64 a0, .int .i64 a1, .int .i64 a2]] σ (.bool true) σ' := by
  have ll := hT.ilen
  obtain ⟨σ1, h1⟩ : ∃ s, s = σ.push [.int .i64 a0, .int .i64 a1, .int .i64 a2] 3 := ⟨_, rfl⟩
  have K1 : Kp σ.objs.length σ σ1 := by rw [h1]; exact Kp.push _ _ (Nat.le_refl _)
  have R1 : σ1.Row σ.objs.length 3 [.int .i64 a0, .int .i64 a1, .int .i64 a2] := by rw [h1]; exact Store.Row.new
  have hp1 : σ1.prot ≤ σ1.objs.length := by rw [K1.prot]; have := K1.len; omega
  have hT1 : σ1.Ints h l := Store.Sl.kp hT K1
  obtain ⟨k0, r0⟩ := first17_told σ1
  by_cases c0 : (500 : Int) < h.len
  · refine ⟨σ1, Runs.intro (fn := Try.f8) (by kernel_rfl) (by kernel_rfl) ⟨k0, fun k hk => ?_⟩⟩
    have r0 := r0 k hk
    simp only at r0
    simp only [f8_eq]
    simp only [Option.bind_some, decide_eq_true_eq, decide_eq_false_iff_not, Bool.not_eq_true', Bool.not_true, Bool.not_false, Bool.false_eq_true, Bool.true_eq_false, Bool.not_eq_eq_eq_not, beq_self_eq_true, beqFT, beqTF, decide_true, decide_false, not_false_eq_true, not_true_eq_false, ne_eq, true_and, and_true, false_and, and_false, and_self, if_true, if_false, ite_true, ite_false, Bool.and_true, Bool.and_false, Bool.true_and, Bool.false_and, Bool.or_true, Bool.true_or, Bool.or_false, Bool.false_or, or_true, true_or, or_false, false_or, or_self, AV.asInt, AV.asBool, AV.asSl, AV.asPtr, AV.asFn, AV.asStr, AV.asMap, AV.asIfc, AV.item, List.length_cons, List.length_nil, List.getElem?_cons_zero, List.getElem?_cons_succ, Nat.zero_add, ← h1, r0, c0]
  have ln : l.length ≤ 500 := by omega
  obtain ⟨p, σ2, ⟨n2, r2⟩, K2, L2⟩ := listNew_run hT1 hp1 (by omega)
  have l1 := K1.len
  have l2 := K2.len
  have R2 := R1.kp K2 R1.lt
  have e0 := row_int R2 (o := 0) rfl
  have e1 := row_int R2 (o := 1) rfl
  have e2 := row_int R2 (o := 2) rfl
  obtain ⟨wn, a, ea, la⟩ := umodL (a := a0) (n := l.length) (by omega)
  obtain ⟨_, b', eb, lb⟩ := umodL (a := a1) (n := l.length) (by omega)
  obtain ⟨_, c, ec, lc⟩ := umodL (a := a2) (n := l.length) (by omega)
  obtain ⟨A, hA⟩ : ∃ A : Int, A = min (a : Int) c := ⟨_, rfl⟩
  obtain ⟨C, hC⟩ : ∃ C : Int, C = max (a : Int) c := ⟨_, rfl⟩
  obtain ⟨B, hB⟩ : ∃ B : Int, B = max A (min (b' : Int) C) := ⟨_, rfl⟩
  have mA : mn2 (a : Int) c = A := by rw [mn2_eq, hA]
  have mC : mx2 (a : Int) c = C := by rw [mx2_eq, hC]
  have mB : mx2 A (mn2 (b' : Int) C) = B := by rw [mx2_eq, mn2_eq, hB]
  -- the row that is appended to
  obtain ⟨σ3, h3⟩ : ∃ s, s = σ2.push ([] : List AV) 1 := ⟨_, rfl⟩
  have K3 : Kp σ2.objs.length σ2 σ3 := by rw [h3]; exact Kp.push _ _ (Nat.le_refl _)
  have hp3 : σ3.prot ≤ σ3.objs.length := by rw [K3.prot, K2.prot]; have := K3.len; omega
  have L3 : Lst σ3 p l := L2 σ3 fun x hx hx2 => K3.keep x hx2
  have lz : σ3.objs.length = σ2.objs.length + 1 := by rw [h3]; simp
  obtain ⟨z, hz⟩ : ∃ h : Hdl, h = ⟨some (σ2.objs.length, 0), 0, some 0⟩ := ⟨_, rfl⟩
  have GZ : Grow σ3 σ2.objs.length z 1 [] := by
    rw [hz, h3]
    exact ⟨⟨by simp, .inl rfl⟩, ⟨fun b o e => by
      simp only [Option.some.injEq, Prod.mk.injEq] at e
      obtain ⟨rfl, rfl⟩ := e
      exact ⟨Nat.le_refl _, [], Store.Row.new, by simp, by simp⟩, by simp⟩⟩
  obtain ⟨hX, σ4, ⟨n4, r4⟩, K4, G4⟩ := docs17_run L3 hp3 A B
  have dlen : ∀ u v : Int, (dOf [] (seg l u v)).length ≤ 500 := fun u v => by
    have := dOf_len (seg l u v) []
    have q : (seg l u v).length ≤ l.length := by unfold seg; simp; omega
    simp only [List.length_nil] at this; omega
  have lX := G4.ints.ilen
  have d1 := dlen A B
  have l4 := K4.len
  have GZ4 := GZ.kp K4
  have pr4 : σ4.prot ≤ σ2.objs.length := by rw [K4.prot, K3.prot, K2.prot]; omega
  have rd4 : Store.readSl σ4 hX 1 = some (intsL (dOf [] (seg l A B))) := Store.Sl.read G4.ints
  have zl : z.len = 0 := by rw [hz]
  obtain ⟨hY, σ5, e5, k5, s5, o5, yl, fr5⟩ := app_spec (xs := intsL (dOf [] (seg l A B))) (by_ := 8) (m := hX.len) GZ4.sl GZ4.own pr4 (by omega) (by omega) (by simp; omega) (intsL_one _) (by omega) (by rw [zl]; omega)
  rw [List.nil_append] at s5
  have G5 : GrowI σ5 σ2.objs.length hY (dOf [] (seg l A B)) := ⟨s5, o5⟩
  have l5 := k5.len
  have KK5 : ∀ x, x < σ2.objs.length → σ5.objs[x]? = σ2.objs[x]? := fun x hx => (k5.keep x hx).trans ((K4.keep x (by omega)).trans (K3.keep x hx))
  have L5 : Lst σ5 p l := L2 σ5 fun x hx hx2 => KK5 x hx2
  have hp5 : σ5.prot ≤ σ5.objs.length := by rw [k5.prot]; omega
  obtain ⟨hW, σ6, ⟨n6, r6⟩, K6, G6⟩ := docs17_run L5 hp5 B C
  have lW := G6.ints.ilen
  have d2 := dlen B C
  have l6 := K6.len
  have G56 : GrowI σ6 σ2.objs.length hY (dOf [] (seg l A B)) := Grow.kp G5 K6
  have rd6 : Store.readSl σ6 hW 1 = some (intsL (dOf [] (seg l B C))) := Store.Sl.read G6.ints
  have pr6 : σ6.prot ≤ σ2.objs.length := by rw [K6.prot, k5.prot]; exact pr4
  have hYl := G5.ints.ilen
  obtain ⟨hV, σ7, e7, k7, s7, o7, vl, fr7⟩ := app_spec (xs := intsL (dOf [] (seg l B C))) (by_ := 8) (m := hW.len) (Grow.sl G56) (Grow.own G56) pr6 (by omega) (by omega) (by simp; omega) (intsL_one _) (by omega) (by omega)
  obtain ⟨x, hx⟩ : ∃ x, x = dOf [] (seg l A B) ++ dOf [] (seg l B C) := ⟨_, rfl⟩
  have e8 : intsL (dOf [] (seg l A B)) ++ intsL (dOf [] (seg l B C)) = intsL x := by rw [hx]; simp [intsL]
  rw [e8] at s7
  have T7 : σ7.Ints hV x := s7
  have lx := T7.ilen
  have l7 := k7.len
  have xl : x.length ≤ 1000 := by rw [hx, List.length_append]; omega
  have KK7 : ∀ y, y < σ2.objs.length → σ7.objs[y]? = σ2.objs[y]? := fun y hy => (k7.keep y hy).trans ((K6.keep y (by omega)).trans (KK5 y hy))
  have L7 : Lst σ7 p l := L2 σ7 fun y hy hy2 => KK7 y hy2
  have hp7 : σ7.prot ≤ σ7.objs.length := by rw [k7.prot]; omega
  obtain ⟨hU, σ8, ⟨n8, r8⟩, K8, G8⟩ := docs17_run L7 hp7 A C
  have hp8 : σ8.prot ≤ σ8.objs.length := by rw [K8.prot]; have := K8.len; omega
  have T8 : σ8.Ints hV x := Store.Sl.kp T7 K8
  obtain ⟨hR, σ9, ⟨n9, r9⟩, K9, G9⟩ := docsRef_run T8 hp8 (by omega) 0 x.length
  rw [parts_eq (by omega) (by omega) hx] at G8
  obtain ⟨n10, r10⟩ := same_self (Store.Sl.kp G8.ints K9) G9.ints (by
    have := dOf_len (seg x 0 x.length) []
    have q : (seg x 0 x.length).length ≤ x.length := by unfold seg; simp; omega
    simp only [List.length_nil] at this; omega)
  refine ⟨σ9, Runs.intro (fn := Try.f8) (by kernel_rfl) (by kernel_rfl) ⟨k0 + n2 + n4 + n6 + n8 + n9 + n10, fun k hk => ?_⟩⟩
  have r0 := r0 k (by omega)
  have r2 := r2 k (by omega)
  have r4 := r4 k (by omega)
  have r6 := r6 k (by omega)
  have r8 := r8 k (by omega)
  have r9 := r9 k (by omega)
  have r10 := r10 k (by omega)
  simp only at r0 r2 r4 r6 r8 r9 r10
  have wne : ¬ ((l.length : Int) + 1 = 0) := by omega
  have c0' : ¬ (500 : Int) < l.length := by omega
  simp only [f8_eq]
  simp only [Option.bind_some, decide_eq_true_eq, decide_eq_false_iff_not, Bool.not_eq_true', Bool.not_true, Bool.not_false, Bool.false_eq_true, Bool.true_eq_false, Bool.not_eq_eq_eq_not, beq_self_eq_true, beqFT, beqTF, decide_true, decide_false, not_false_eq_true, not_true_eq_false, ne_eq, true_and, and_true, false_and, and_false, and_self, if_true, if_false, ite_true, ite_false, Bool.and_true, Bool.and_false, Bool.true_and, Bool.false_and, Bool.or_true, Bool.true_or, Bool.or_false, Bool.false_or, or_true, true_or, or_false, false_or, or_self, AV.asInt, AV.asBool, AV.asSl, AV.asPtr, AV.asFn, AV.asStr, AV.asMap, AV.asIfc, AV.item, List.length_cons, List.length_nil, List.getElem?_cons_zero, List.getElem?_cons_succ, Nat.zero_add, ← h1, r0, c0', r2, e0, e1, e2, ll, wn, wne, ea, eb, ec, mA, mC, mB, ← h3, r4, rd4, ← hz, e5, r6, rd6, e7, r8, lx, r9, r10]
end Go.Ab


/- What is told of sorting holds: the library's contract. -/
namespace Go.Ab
open Go Go.Proofs Go.Sort
set_option linter.unusedVariables false
theorem sort_sound {P : Program} {s : Nat} {fn : Func} (hf : P.funcs[s]? = some fn) (hn : (fn.name == "runtime.NumGoroutine") = false) (hb : fn.body.isNone = false)
    (h1 : ∀ (blk off cap : Nat) (zs : List Int) (w : World), Holds (Value.int .i64) w blk off zs.toArray → blk < w.heap.size → zs.length < 4611686018427387904 →
      Calls P s #[.slice (some ⟨blk, off, none⟩) zs.length cap] w fun e w' => e = .returned (.tuple #[]) ∧ ∃ n os, w' = grow (putRow (Value.int .i64) (Sort.ahead w n) blk off (zs.mergeSort fun x y => decide (x ≤ y)).toArray) os)
    (h0 : ∀ (p : Option Addr) (cap : Nat) (w : World), Calls P s #[.slice p 0 cap] w fun e w' => e = .returned (.tuple #[]) ∧ w' = w) : SpS P (sortSp s) ∧ SpK (sortSp s) := by
  constructor
  · intro g f e args σ v σ' h
    obtain ⟨rfl, rfl⟩ := sortSp_inv e
    refine ⟨fun cargs w => callFunc_enter hf hn hb cargs w, fun μ w cargs hR hv => ?_⟩
    obtain ⟨hd, rfl, rfl, hc⟩ := sortT_inv h
    obtain ⟨c, hc1⟩ : ∃ c, cargs = #[c] := by
      have := hv.1
      simp at this
      obtain ⟨l⟩ := cargs
      match l, this with
      | [c], _ => exact ⟨c, rfl⟩
    subst hc1
    have hv1 : VR μ (.slice hd) c := hv.2 0 _ _ rfl rfl
    rcases hc with ⟨e0, rfl⟩ | ⟨b, o, cs, zs, ha, ho, hz, hp, hl, h62, hpos, rfl⟩
    · have : ∃ p cap, c = .slice p 0 cap := by
        cases hv1 with
        | slN h => exact ⟨_, _, rfl⟩
        | sl h hc hl hN => simp at e0; subst e0; exact ⟨_, _, rfl⟩
        | sl0 h => exact ⟨_, _, rfl⟩
      obtain ⟨p, cap, rfl⟩ := this
      refine (h0 p cap w).mono ?_
      rintro e w' ⟨rfl, rfl⟩
      exact ⟨μ, _, rfl, .tuple (by simp) (by simp), Ste.refl hR⟩
    · have : ∃ L cap, μ b = some L ∧ c = .slice (some ⟨L.blk, L.off + o, none⟩) hd.len cap := by
        cases hv1 with
        | slN h => cases ha
        | sl hm hc hl hN => simp at ha; obtain ⟨rfl, rfl⟩ := ha; exact ⟨_, _, hm, rfl⟩
        | sl0 h => simp at hpos
      obtain ⟨L, cap, hL, rfl⟩ := this
      have hzl : zs.length = hd.len := by
        have := congrArg List.length hz
        simp at this; omega
      obtain ⟨ce, ty, hblk, hsz⟩ := hR.rw b cs 1 L ho hL
      obtain ⟨_, hlN, hj⟩ := hR.cells b cs true 1 L ho hL
      have cellz : ∀ j, j < zs.length → w.cell? ⟨L.blk, L.off + o + j, none⟩ = some (.int .i64 (zs.getD j 0)) := fun j hj' => by
        have e1 : cs[o + j]? = some (.int .i64 (zs.getD j 0)) := by
          have := congrArg (fun l : List AV => l[j]?) hz
          simp only [List.getElem?_take, List.getElem?_drop, intsL, List.getElem?_map] at this
          rw [if_pos (by omega)] at this
          rw [this, List.getElem?_eq_getElem hj']; simp [hj']
        obtain ⟨x, hx, hvx⟩ := hj _ _ e1
        cases hvx
        rw [Nat.add_assoc]; exact hx
      have hH : Holds (Value.int .i64) w L.blk (L.off + o) zs.toArray := fun j hj' => by
        have hj' : j < zs.length := by simpa using hj'
        refine ⟨?_, by simp [World.frozen?, hblk]⟩
        rw [cellz j hj']; simp [hj']
      have hbl : L.blk < w.heap.size := hR.lt b L hL
      have := h1 L.blk (L.off + o) cap zs w hH hbl (by omega)
      rw [hzl] at this
      refine this.mono ?_
      rintro e w' ⟨rfl, n, os, rfl⟩
      rw [mergeSort_sortL]
      obtain ⟨d, hd'⟩ : ∃ d, d = sortL zs := ⟨_, rfl⟩
      rw [← hd']
      have hdl : d.length = hd.len := by rw [hd', sortL_length, hzl]
      obtain ⟨w1, hw1⟩ : ∃ w1, w1 = putRow (Value.int .i64) (Sort.ahead w n) L.blk (L.off + o) d.toArray := ⟨_, rfl⟩
      rw [← hw1]
      have s1 : w1.heap.size = w.heap.size := by rw [hw1]; simp [putRow, mapBlock, Sort.ahead]
      have far : ∀ c, c ≠ L.blk → w1.heap[c]? = w.heap[c]? := fun c hc => by
        rw [hw1]; simp [putRow, mapBlock, Sort.ahead, Array.getElem?_modify, Ne.symm hc]
      have near : w1.heap[L.blk]? = some (.cells (putCells (Value.int .i64) (L.off + o) d.toArray ce) ty (0, 0)) := by
        rw [hw1]; simp [putRow, mapBlock, Sort.ahead, Array.getElem?_modify, hblk, onCells]
      have hW : Ste μ σ w μ (σ.setO b (.cells (cs.take o ++ (intsL d ++ cs.drop (o + hd.len))) true 1)) w1 := by
        refine Ste.write hR ho hp hL s1 (by rw [hw1]; rfl) (by rw [hw1]; rfl) (by rw [hw1]; rfl) far ⟨_, _, near, by simp [putCells, hsz]⟩ ?_ ?_
        · simp only [List.length_append, List.length_take, intsL_length, List.length_drop]; omega
        · intro j v hjv
          have tk : (cs.take o).length = o := by simp; omega
          by_cases c1 : j < o
          · rw [List.getElem?_append_left (by omega), List.getElem?_take, if_pos c1] at hjv
            obtain ⟨x, hx, hvx⟩ := hj j v hjv
            refine ⟨x, ?_, hvx⟩
            simp only [World.cell?, hblk] at hx
            simp only [World.cell?, near]
            simp only [Option.isSome_none, Bool.false_eq_true, if_false] at hx ⊢
            rw [← hx]
            simp only [putCells, Array.getElem?_mapIdx]
            cases hce : ce[L.off + j]? with
            | none => rfl
            | some y => simp; omega
          · rw [List.getElem?_append_right (by omega), tk] at hjv
            by_cases c2 : j - o < hd.len
            · rw [List.getElem?_append_left (by simp; omega)] at hjv
              simp only [intsL, List.getElem?_map, Option.map_eq_some_iff] at hjv
              obtain ⟨z, hz1, rfl⟩ := hjv
              refine ⟨.int .i64 z, ?_, .int ..⟩
              simp only [World.cell?, near]
              simp only [Option.isSome_none, Bool.false_eq_true, if_false]
              simp only [putCells, Array.getElem?_mapIdx]
              have hlt : L.off + j < ce.size := by omega
              rw [Array.getElem?_eq_getElem hlt]
              simp only [Option.map_some, Option.some.injEq]
              rw [if_pos ⟨by omega, by simp; omega⟩]
              congr 1
              have e5 : L.off + j - (L.off + o) = j - o := by omega
              rw [e5]
              obtain ⟨hq, hq2⟩ := List.getElem?_eq_some_iff.1 hz1
              rw [getElem!_pos _ (j - o) (by simpa using hq)]
              simpa using hq2
            · rw [List.getElem?_append_right (by simp; omega), List.getElem?_drop] at hjv
              have e5 : o + hd.len + (j - o - (intsL d).length) = j := by simp; omega
              rw [e5] at hjv
              obtain ⟨x, hx, hvx⟩ := hj j v hjv
              refine ⟨x, ?_, hvx⟩
              simp only [World.cell?, hblk] at hx
              simp only [World.cell?, near]
              simp only [Option.isSome_none, Bool.false_eq_true, if_false] at hx ⊢
              rw [← hx]
              simp only [putCells, Array.getElem?_mapIdx]
              cases hce : ce[L.off + j]? with
              | none => rfl
              | some y => simp; omega
      have hG := Ste.same (w' := grow w1 os) hW.rel rfl rfl rfl (by simp [grow]) (fun c hc => by simp only [grow]; rw [Array.getElem?_append_left hc])
      exact ⟨μ, _, rfl, .tuple (by simp) (by simp), hW.trans hG⟩
  · intro g f e args σ v σ' h
    obtain ⟨rfl, rfl⟩ := sortSp_inv e
    obtain ⟨hd, rfl, rfl, hc⟩ := sortT_inv h
    rcases hc with ⟨e0, rfl⟩ | ⟨b, o, cs, zs, ha, ho, hz, hp, hl, h62, hpos, rfl⟩
    · exact Pre.refl _
    · exact Pre.set σ hp _
def FirstOkX (P : Program) (sp : FuncId → Option (List AV → Store → Option (AV × Store))) (g : FuncId) : Prop := ∃ fn k, P.funcs[g]? = some fn ∧ (fn.name == "runtime.NumGoroutine") = false ∧ fn.body.isNone = false ∧ okTrue (gam P drawn sp k (.fn g) [] ⟨[], 0⟩) = true
theorem tellX_sound {P : Program} (hm : P.follows .mixedOrders = true) {sp : FuncId → Option (List AV → Store → Option (AV × Store))} (h0 : SpS P sp ∧ SpK sp) {fs : List Nat} (h : ∀ g ∈ fs, FirstOkX P sp g) : SpS P (orTell sp fs) ∧ SpK (orTell sp fs) := by
  have shape : ∀ g f, tell fs g = some f → g ∈ fs ∧ ∀ args σ v σ', f args σ = some (v, σ') → args = [] ∧ v = .bool true ∧ σ' = σ := by
    intro g f e
    unfold tell at e
    split at e
    · rename_i ha
      injection e with e; subst e
      obtain ⟨x, hx, hb⟩ := List.any_eq_true.1 ha
      have : x = g := Nat.eq_of_beq_eq_true hb
      subst this
      refine ⟨hx, fun args σ v σ' h => ?_⟩
      cases args with
      | nil => simp at h; exact ⟨rfl, h.1.symm, h.2.symm⟩
      | cons => simp at h
    · cases e
  have parts : ∀ g f, orTell sp fs g = some f → sp g = some f ∨ tell fs g = some f := fun g f e => by
    unfold orTell at e
    split at e
    · rename_i f' e'
      injection e with e; subst e; exact .inl e'
    · exact .inr e
  constructor
  · intro g f e args σ v σ' hf
    rcases parts g f e with e | e
    · exact h0.1 g f e args σ v σ' hf
    obtain ⟨hg, hs⟩ := shape g f e
    obtain ⟨rfl, rfl, rfl⟩ := hs args σ v σ' hf
    obtain ⟨fn, k, k1, k2, k3, k4⟩ := h g hg
    refine ⟨fun cargs w => callFunc_enter k1 k2 k3 cargs w, fun μ w cargs hR hv => ?_⟩
    have hc : cargs.toList = [] := hv.inv_nil
    obtain ⟨σ1, hr⟩ : ∃ σ1, gam P drawn sp k (.fn g) [] ⟨[], 0⟩ = some (.bool true, σ1) := by
      cases hx : gam P drawn sp k (.fn g) [] ⟨[], 0⟩ with
      | none => rw [hx] at k4; cases k4
      | some r =>
        obtain ⟨v, s⟩ := r
        rw [hx] at k4
        cases v with
        | bool b => cases b with
          | true => exact ⟨s, rfl⟩
          | false => cases k4
        | _ => cases k4
    have hs := read_sound (P := P) hm h0.1 h0.2 k _ _ _ _ _ hr (fun _ => none) w cargs (Rel.empty w) (by rw [hc]; exact VL.nil _)
    refine hs.2.mono fun e w' ⟨μ', c, e1, e2, e3⟩ => ?_
    subst e1
    cases e2
    refine ⟨μ, _, rfl, .bool _, Ste.same hR e3.os e3.tape e3.output e3.size fun c hc => e3.pres c hc ?_⟩
    rintro ⟨b, o, L, h1, _⟩
    simp at h1
  · intro g f e args σ v σ' hf
    rcases parts g f e with e | e
    · exact h0.2 g f e args σ v σ' hf
    obtain ⟨_, hs⟩ := shape g f e
    obtain ⟨_, _, rfl⟩ := hs args σ v σ' hf
    exact Pre.refl _
end Go.Ab


/- What is told of sorting and of both firsts holds. -/
namespace Go.Ab
open Go Go.Proofs Go.Shelf
def Try.sortA_ren : Go.Shelf.Ren := ⟨fun | 5 => 60 | 8 => 66 | 7 => 67 | 19 => 68 | 20 => 47 | 10 => 69 | 11 => 70 | 12 => 71 | 13 => 72 | 14 => 73 | 15 => 74 | 16 => 75 | 17 => 76 | 18 => 77 | 30 => 78 | 31 => 79 | 32 => 80 | 33 => 81 | 34 => 82 | 35 => 83 | 40 => 84 | n => n, fun | 23 => 22 | 25 => 3 | 3 => 3 | 32 => 36 | 22 => 22 | 0 => 0 | 44 => 126 | 46 => 60 | 4 => 4 | 36 => 129 | 35 => 128 | 41 => 115 | 5 => 5 | 9 => 9 | 53 => 133 | 57 => 137 | 63 => 139 | 64 => 84 | n => n, fun | n => n⟩
theorem Try.sortA : Go.Proofs.SlLaysM.n5 Try.prog Try.sortA_ren := {
  mixed := by kernel_rfl,
  f5 := ⟨Try.f60.name, by decide, Try.func60.trans (congrArg some (by kernel_rfl))⟩,
  f7 := ⟨Try.f67.name, by decide, Try.func67.trans (congrArg some (by kernel_rfl))⟩,
  f8 := Try.func66.trans (congrArg some (by kernel_rfl)),
  f10 := ⟨Try.f69.name, by decide, Try.func69.trans (congrArg some (by kernel_rfl))⟩,
  f11 := ⟨Try.f70.name, by decide, Try.func70.trans (congrArg some (by kernel_rfl))⟩,
  f12 := ⟨Try.f71.name, by decide, Try.func71.trans (congrArg some (by kernel_rfl))⟩,
  f13 := ⟨Try.f72.name, by decide, Try.func72.trans (congrArg some (by kernel_rfl))⟩,
  f14 := ⟨Try.f73.name, by decide, Try.func73.trans (congrArg some (by kernel_rfl))⟩,
  f15 := ⟨Try.f74.name, by decide, Try.func74.trans (congrArg some (by kernel_rfl))⟩,
  f16 := ⟨Try.f75.name, by decide, Try.func75.trans (congrArg some (by kernel_rfl))⟩,
  f17 := ⟨Try.f76.name, by decide, Try.func76.trans (congrArg some (by kernel_rfl))⟩,
  f18 := ⟨Try.f77.name, by decide, Try.func77.trans (congrArg some (by kernel_rfl))⟩,
  f19 := Try.func68.trans (congrArg some (by kernel_rfl)),
  f20 := Try.func47.trans (congrArg some (by kernel_rfl)),
  f30 := ⟨Try.f78.name, by decide, Try.func78.trans (congrArg some (by kernel_rfl))⟩,
  f31 := Try.func79.trans (congrArg some (by kernel_rfl)),
  f32 := Try.func80.trans (congrArg some (by kernel_rfl)),
  f33 := ⟨Try.f81.name, by decide, Try.func81.trans (congrArg some (by kernel_rfl))⟩,
  f34 := ⟨Try.f82.name, by decide, Try.func82.trans (congrArg some (by kernel_rfl))⟩,
  f35 := ⟨Try.f83.name, by decide, Try.func83.trans (congrArg some (by kernel_rfl))⟩,
  f40 := ⟨Try.f84.name, by decide, Try.func84.trans (congrArg some (by kernel_rfl))⟩,
  t0 := Try.underlying0,
  a0 := Try.isAgg0,
  z0 := Try.sizeOf0,
  v0 := Try.zeroValue0,
  t3 := Try.underlying3,
  a3 := Try.isAgg3,
  z3 := Try.sizeOf3,
  v3 := Try.zeroValue3,
  t4 := Try.underlying4,
  a4 := Try.isAgg4,
  z4 := Try.sizeOf4,
  v4 := Try.zeroValue4,
  t5 := Try.underlying5,
  a5 := Try.isAgg5,
  z5 := Try.sizeOf5,
  v5 := Try.zeroValue5,
  t9 := Try.underlying9,
  a9 := Try.isAgg9,
  z9 := Try.sizeOf9,
  v9 := Try.zeroValue9,
  t22 := Try.underlying22,
  a22 := Try.isAgg22,
  z22 := Try.sizeOf22,
  v22 := Try.zeroValue22,
  t23 := Try.underlying22,
  a23 := Try.isAgg22,
  z23 := Try.sizeOf22,
  v23 := Try.zeroValue22,
  t25 := Try.underlying3,
  a25 := Try.isAgg3,
  z25 := Try.sizeOf3,
  v25 := Try.zeroValue3,
  t32 := Try.underlying36,
  a32 := Try.isAgg36,
  z32 := Try.sizeOf36,
  v32 := Try.zeroValue36,
  t35 := Try.underlying128,
  a35 := Try.isAgg128,
  z35 := Try.sizeOf128,
  v35 := Try.zeroValue128,
  t36 := Try.underlying129,
  a36 := Try.isAgg129,
  z36 := Try.sizeOf129,
  v36 := Try.zeroValue129,
  t41 := Try.underlying115,
  a41 := Try.isAgg115,
  z41 := Try.sizeOf115,
  v41 := Try.zeroValue115,
  t44 := Try.underlying126,
  a44 := Try.isAgg126,
  z44 := Try.sizeOf126,
  v44 := Try.zeroValue126,
  t46 := Try.underlying60,
  a46 := Try.isAgg60,
  z46 := Try.sizeOf60,
  v46 := Try.zeroValue60,
  t53 := Try.underlying133,
  a53 := Try.isAgg133,
  z53 := Try.sizeOf133,
  v53 := Try.zeroValue133,
  t57 := Try.underlying137,
  a57 := Try.isAgg137,
  z57 := Try.sizeOf137,
  v57 := Try.zeroValue137,
  t63 := Try.underlying139,
  a63 := Try.isAgg139,
  z63 := Try.sizeOf139,
  v63 := Try.zeroValue139,
  t64 := Try.underlying84,
  a64 := Try.isAgg84,
  z64 := Try.sizeOf84,
  v64 := Try.zeroValue84
}
theorem sortOk : SpS Try.prog (sortSp 60) ∧ SpK (sortSp 60) :=
  sort_sound (fn := Try.f60) (by kernel_rfl) (by kernel_rfl) (by kernel_rfl)
    (fun blk off cap zs w hH hb hl => AnyM.slices_Sort_int Try.sortA blk off cap zs w hH hb hl)
    (fun p cap w => AnyM.slices_Sort_int_none Try.sortA p cap w)
theorem toldOk (hm : Try.prog.follows .mixedOrders = true) : SpS Try.prog (Told.sp Try.prog) ∧ SpK (Told.sp Try.prog) :=
  tellX_sound hm sortOk fun g hg => by
    simp only [List.mem_cons, List.not_mem_nil, or_false] at hg
    rcases hg with rfl | rfl
    · exact ⟨Try.f9, 60, by kernel_rfl, by kernel_rfl, by kernel_rfl, by kernel_rfl⟩
    · exact ⟨Try.f20, 60, by kernel_rfl, by kernel_rfl, by kernel_rfl, by kernel_rfl⟩
end Go.Ab


/- An array of whole numbers that came in by value. -/
namespace Go.Ab
open Go
theorem vr_ints {μ : Mu} {k : IntKind} (zs : List Int) : VR μ (.agg (zs.map (AV.int k))) (.agg (zs.map (Value.int k)).toArray) := by
  refine .agg (by simp) fun i x y hx hy => ?_
  simp only [List.getElem?_map, List.getElem?_toArray] at hx hy
  cases h : zs[i]? with
  | none => rw [h] at hx; cases hx
  | some z => rw [h] at hx hy; injection hx with hx; injection hy with hy; subst hx hy; exact .int ..
section
variable {H : Type} {enc : TypeId × Value → H} {P : Program} {w : World} {base : Nat} {spare : Nat → Bool} {held : Bool}
theorem ints_of {k : IntKind} : ∀ {l : List Value}, (∀ i (h : i < l.length), ∃ z : Int, l[i] = .int k z ∧ (Lit.int k z).wf = true) → ∃ zs : List Int, l = zs.map (Value.int k) ∧ ∀ z ∈ zs, (Lit.int k z).wf = true
  | [], _ => ⟨[], rfl, by simp⟩
  | v :: l, h => by
    obtain ⟨z, hz, hw⟩ := h 0 (by simp)
    obtain ⟨zs, hzs, hws⟩ := ints_of (l := l) fun i hi => h (i + 1) (by simp; omega)
    refine ⟨z :: zs, ?_, ?_⟩
    · rw [List.map_cons, ← hzs]
      simp at hz
      rw [hz]
    · intro y hy
      rcases List.mem_cons.1 hy with rfl | hy
      · exact hw
      · exact hws y hy
theorem open_arr {n : Nat} {t e : TypeId} {k : IntKind} {r : Reach} {b0 : Nat} {v : Value} {d : DataW H} {p : List MemPlace} (ht : P.underlying t = some (.array n e)) (he : P.underlying e = some (.int k)) (hC : P.cellsOf e = 1 ∧ P.cellsOf t = n)
    (hv : Value.okWide P w r b0 t v) (h : DataW.Trod enc P w base spare held t v d p) :
    ∃ zs : List Int, zs.length = n ∧ v = .agg (zs.map (Value.int k)).toArray ∧ ∀ z ∈ zs, (Lit.int k z).wf = true := by
  simp only [Value.okWide, ht] at hv
  obtain ⟨cs, rfl, hsz, _⟩ := hv
  obtain ⟨fuel, hf⟩ := h
  obtain ⟨xs, m, rfl, _, hl, hn, hg⟩ := DataW.trod_array ht hf
  simp only [Value.cells] at hl hg
  have hlen : cs.toList.length = n := by simpa [hC.2] using hsz
  obtain ⟨zs, hzs, hws⟩ := ints_of (k := k) (l := cs.toList) fun i hi => by
    have := hg i (by omega)
    rw [hC.1, Nat.mul_one, List.getElem?_eq_getElem (by omega)] at this
    obtain ⟨z, hz, _, hw⟩ := DataW.trod_int he this
    refine ⟨z, ?_, hw⟩
    rw [List.drop_eq_getElem_cons hi] at hz
    simp at hz
    simpa using hz
  refine ⟨zs, by rw [← hlen, hzs]; simp, ?_, hws⟩
  rw [← hzs]
theorem list3 {l : List Int} (h : l.length = 3) : ∃ a b c, l = [a, b, c] := by match l, h with | [a, b, c], _ => exact ⟨a, b, c, rfl⟩
end
end Go.Ab

