import Derived.Test.YtjhiagelgleomaaMemK
namespace Go.Proofs.Ytjhiagelgleomaa
open Go.RowKit Go.TravelBase Go.TravelAbs
set_option linter.unusedVariables false
set_option linter.unusedSimpArgs false











/-! ### awake -/
def unA : AV → Wr
  | .agg [.lit (.int .i64 s), .lit (.int .i64 t), .by_ b] => ⟨s, t, b⟩
  | _ => default
theorem un_wr (x : Wr) : unA (wA x) = x := rfl
theorem un_map (ws : List Wr) : (ws.map wA).map unA = ws := by
  rw [List.map_map]
  exact (List.map_congr_left fun x _ => un_wr x).trans (List.map_id _)
def small (ws : List Wr) : Prop := bS ws ≤ 1000000000 ∧ ∀ x ∈ ws, -9223372036854775808 ≤ x.at_ ∧ x.at_ ≤ 9223372036854775807
instance (ws : List Wr) : Decidable (small ws) := inferInstanceAs (Decidable (_ ∧ _))
def sg9 : Sg := fun f args ls =>
  match f, args, ls with
  | 8, [.by_ rec], [] => some (.tup [.agg [.by_ (e0 rec), .by_ (e1 rec)], .lit (.int .i64 (eE rec))], [], True)
  | 10, [.agg [.by_ a, .by_ b]], [] => some (.tup [.by_ (lR a b), .lit (.int .i64 (lE a b))], [], True)
  | 12, [.agg [.by_ a, .by_ b], .by_ rec], [] => some (.tup [.li 3 ((pW a b rec).map wA), .lit (.int .i64 (pE a b rec))], [], True)
  | 23, [.agg [.by_ a, .by_ b], .li es xs, .lit (.int .i64 cut)], [] => some (.agg [.by_ (apR a b (xs.map unA) cut).1, .by_ (apR a b (xs.map unA) cut).2], [], (es = 3 ∧ xs = (xs.map unA).map wA) ∧ (a.length ≤ 1000000000 ∧ b.length ≤ 1000000000) ∧ small (xs.map unA))
  | 25, [.li es xs], [] => some (.lit (.int .i64 (bS (xs.map unA) : Nat)), [], (es = 3 ∧ xs = (xs.map unA).map wA) ∧ small (xs.map unA))
  | _, _, _ => none
theorem sg9_ok : SgOK Try.prog sg9 := by
  intro f args ls r ls' vc h hvc
  unfold sg9 at h
  split at h <;> first | (simp only [Option.some.injEq, Prod.mk.injEq] at h; obtain ⟨rfl, rfl, rfl⟩ := h) | cases h
  · exact ⟨fnOK Try.func8 (by decide) rfl, empty_s _⟩
  · exact ⟨fnOK Try.func10 (by decide) rfl, load_s _ _⟩
  · exact ⟨fnOK Try.func12 (by decide) rfl, plan_s _ _ _⟩
  · rename_i a b es xs cut
    obtain ⟨⟨rfl, h2⟩, ⟨h3, h4⟩, h5, h6⟩ := hvc
    refine ⟨fnOK Try.func23 (by decide) rfl, ?_⟩
    have := apply_s a b (xs.map unA) cut h3 h4 h5 h6
    rw [← h2] at this
    exact this
  · obtain ⟨⟨rfl, h2⟩, h5, h6⟩ := hvc
    refine ⟨fnOK Try.func25 (by decide) rfl, ?_⟩
    have := bytes_s _ h5
    rw [← h2] at this
    exact this
theorem aw1 : (e0 [1]).length = 265 ∧ (e1 [1]).length = 265 ∧ eE [1] = 0 := by decide +kernel
theorem aw2 : pE (e0 [1]) (e1 [1]) [2, 3] = 0 ∧ small (pW (e0 [1]) (e1 [1]) [2, 3]) ∧ bS (pW (e0 [1]) (e1 [1]) [2, 3]) = 266 := by decide +kernel
theorem aw3 : lE (apR (e0 [1]) (e1 [1]) (pW (e0 [1]) (e1 [1]) [2, 3]) (-1)).1 (apR (e0 [1]) (e1 [1]) (pW (e0 [1]) (e1 [1]) [2, 3]) (-1)).2 = 0 ∧
    lR (apR (e0 [1]) (e1 [1]) (pW (e0 [1]) (e1 [1]) [2, 3]) (-1)).1 (apR (e0 [1]) (e1 [1]) (pW (e0 [1]) (e1 [1]) [2, 3]) (-1)).2 = [2, 3] := by decide +kernel
theorem awake_s : FnS Try.prog 14 [] [] (.lit (.bool true)) [] := by
  have hs := sg9_ok
  refine FnS.of Try.func14 rfl (N := 51) rfl (by simp) (by simp) fun X hX => ?_
  simp only [tmArgs, lentH, Nat.reduceAdd]
  refine WA.regionK ty_ok hs fun K hK => ?_
  simp only [go_sem, Nat.reduceAdd, Nat.reduceLT, Nat.reduceLeDiff, Nat.reduceEqDiff, Nat.reduceSub, Nat.reduceMul, Nat.reduceBEq, Nat.reduceBNe, Nat.reducePow, Nat.reduceDiv, Int.reduceLE, Int.reduceLT, Int.reduceToNat, Int.reduceNeg, Int.reduceAdd, Int.reduceSub, Int.reduceEq, reduceIte, reduceCtorEq, UInt8.reduceOfNat, sg9]
  first
  | refine hK _ ?_
  | refine And.intro (by first | omega | (simp; done) | (simp; omega) | (simp +contextual; done) | (simp_all; done) | (simp_all; omega)) (hK _ ?_)
  clear hK K
  refine WA.regionK ty_ok hs fun K hK => ?_
  simp only [go_sem, Nat.reduceAdd, Nat.reduceLT, Nat.reduceLeDiff, Nat.reduceEqDiff, Nat.reduceSub, Nat.reduceMul, Nat.reduceBEq, Nat.reduceBNe, Nat.reducePow, Nat.reduceDiv, Int.reduceLE, Int.reduceLT, Int.reduceToNat, Int.reduceNeg, Int.reduceAdd, Int.reduceSub, Int.reduceEq, reduceIte, reduceCtorEq, UInt8.reduceOfNat, sg9]
  first
  | refine hK _ ?_
  | refine And.intro (by first | omega | (simp; done) | (simp; omega) | (simp +contextual; done) | (simp_all; done) | (simp_all; omega)) (hK _ ?_)
  clear hK K
  refine WA.regionK ty_ok hs fun K hK => ?_
  simp only [go_sem, Nat.reduceAdd, Nat.reduceLT, Nat.reduceLeDiff, Nat.reduceEqDiff, Nat.reduceSub, Nat.reduceMul, Nat.reduceBEq, Nat.reduceBNe, Nat.reducePow, Nat.reduceDiv, Int.reduceLE, Int.reduceLT, Int.reduceToNat, Int.reduceNeg, Int.reduceAdd, Int.reduceSub, Int.reduceEq, reduceIte, reduceCtorEq, UInt8.reduceOfNat, sg9, Tr_wr]
  first
  | refine hK _ ?_
  | refine And.intro (by first | omega | (simp; done) | (simp; omega) | (simp +contextual; done) | (simp_all; done) | (simp_all; omega)) (hK _ ?_)
  clear hK K
  refine WA.regionK ty_ok hs fun K hK => ?_
  simp only [go_sem, Nat.reduceAdd, Nat.reduceLT, Nat.reduceLeDiff, Nat.reduceEqDiff, Nat.reduceSub, Nat.reduceMul, Nat.reduceBEq, Nat.reduceBNe, Nat.reducePow, Nat.reduceDiv, Int.reduceLE, Int.reduceLT, Int.reduceToNat, Int.reduceNeg, Int.reduceAdd, Int.reduceSub, Int.reduceEq, reduceIte, reduceCtorEq, UInt8.reduceOfNat, sg9, Tr_wr, un_map, aw1.1, aw1.2.1, aw2.2.1]
  first
  | refine hK _ ?_
  | refine And.intro (by first | omega | (simp; done) | (simp; omega) | (simp +contextual; done) | (simp_all; done) | (simp_all; omega)) (hK _ ?_)
  clear hK K
  refine WA.regionK ty_ok hs fun K hK => ?_
  simp only [go_sem, Nat.reduceAdd, Nat.reduceLT, Nat.reduceLeDiff, Nat.reduceEqDiff, Nat.reduceSub, Nat.reduceMul, Nat.reduceBEq, Nat.reduceBNe, Nat.reducePow, Nat.reduceDiv, Int.reduceLE, Int.reduceLT, Int.reduceToNat, Int.reduceNeg, Int.reduceAdd, Int.reduceSub, Int.reduceEq, reduceIte, reduceCtorEq, UInt8.reduceOfNat, sg9, Tr_wr, un_map, aw1.1, aw1.2.1, aw1.2.2, aw2.1, aw2.2.1, aw2.2.2, aw3.1, aw3.2]
  first
  | refine hK _ ?_
  | refine And.intro (by first | omega | (simp; done) | (simp; omega) | (simp +contextual; done) | (simp_all; done) | (simp_all; omega)) (hK _ ?_)
  clear hK K
  refine WA.retE ty_ok (xs := [.lit (.bool true)]) (ls' := []) (rv := [.tmp 0]) rfl hX (by decide) (fun _ => rfl) (fun _ _ h => h) ?_
  simp only [go_sem, Nat.reduceAdd, Nat.reduceLT, Nat.reduceLeDiff, Nat.reduceEqDiff, Nat.reduceSub, Nat.reduceMul, Nat.reduceBEq, Nat.reduceBNe, Nat.reducePow, Nat.reduceDiv, Int.reduceLE, Int.reduceLT, Int.reduceToNat, Int.reduceNeg, Int.reduceAdd, Int.reduceSub, Int.reduceEq, reduceIte, reduceCtorEq, UInt8.reduceOfNat, sbT]
  decide
end Go.Proofs.Ytjhiagelgleomaa
