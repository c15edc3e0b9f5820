import Derived.Test.YtloihfflblgioaaBiD
import Derived.Test.YtloihfflblgioaaAbsSb
namespace Go.Proofs.Ytloihfflblgioaa
open Go.RowKit Go.TravelBase Go.TravelAbs
set_option linter.unusedVariables false
set_option linter.unusedSimpArgs false

















/-! ### The object of a template -/
theorem ownC {P : Program} {X : Cx} {c : Code} {Q : Exit → Act → World → Prop} {s : St} (k es off : Nat) (x c' : AV) (hb : lk s.H k = some ⟨.li es [x], 0, false⟩) (hx : x.cl[off]? = some (.lit (.slice none 0 0))) (hc : cN c' = 0) {x' : AV} (hx' : x'.cl = x.cl.set off (.sl s.ctr (cE c') 0 0)) (h : WA P X c Q ⟨s.tm, (k, ⟨.li es [x'], 0, false⟩) :: (s.ctr, ⟨c', 0, false⟩) :: s.H, s.ctr + 8, s.sz⟩) : WA P X c Q s := fun a w hR =>
  h a w (hR.own0c k es off x c' 0 false hb rfl hx hc hx')
/-- The numbers of a header, in order. -/
def numT (t : Tm) (i : Nat) : Int := [t.kind, t.part, t.fr, t.to, t.q, t.fmt].getD i 0
def headN (t : Tm) : List Nd := (List.range 6).map fun i => .mk (fldT i) (octL (numT t i) (fldS i)) []
def objN (t : Tm) : Nd := .mk 32608 [] [.mk 161 [] (headN t), .mk 24366 t.data []]
theorem headN_len (t : Tm) : (headN t).length = 6 := rfl
theorem headN_succ (t : Tm) {i : Nat} (h : i < 6) : (headN t).take (i + 1) = (headN t).take i ++ [.mk (fldT i) (octL (numT t i) (fldS i)) []] := by
  rw [List.take_add_one]
  congr 1
  simp [headN, List.getElem?_range h]
theorem num_at (t : Tm) {i : Nat} (h : i < 6) : [AV.lit (.int .i64 t.kind), .lit (.int .i64 t.part), .lit (.int .i64 t.fr), .lit (.int .i64 t.to), .lit (.int .i64 t.q), .lit (.int .i64 t.fmt)].getD i .any = .lit (.int .i64 (numT t i)) := by
  rcases (show i = 0 ∨ i = 1 ∨ i = 2 ∨ i = 3 ∨ i = 4 ∨ i = 5 by omega) with rfl | rfl | rfl | rfl | rfl | rfl <;> rfl
def sgOb : Sg := fun f args ls =>
  match f, args, ls with
  | 44, [.lit (.int .i64 n), .lit (.int .i64 k)], [] => some (.tup [.fr (.by_ (octL n k)), .lit (.int .i64 (octE n k))], [], (-9223372036854775808 ≤ n ∧ n ≤ 9223372036854775807) ∧ -9223372036854775808 ≤ k ∧ k ≤ 9223372036854775807)
  | 43, [], [] => some (.li 2 fldL, [], True)
  | 45, [.by_ bs], [] => some (.fr (.by_ bs), [], bs.length ≤ 140737488355328)
  | _, _, _ => none
theorem sgOb_ok : SgOK Try.prog sgOb := by
  intro f args ls r ls' vc h hvc
  unfold sgOb at h
  split at h <;> first | (simp only [Option.some.injEq, Prod.mk.injEq] at h; obtain ⟨rfl, rfl, rfl⟩ := h) | cases h
  · exact ⟨(fnOK Try.func44 (by decide) rfl), octets_s _ _ hvc.1 hvc.2⟩
  · exact ⟨(fnOK Try.func43 (by decide) rfl), fields_s⟩
  · exact ⟨(fnOK Try.func45 (by decide) rfl), sclone_s _ hvc⟩
theorem val0 {t : Tm} (h : valT t = 0) : PartT t.kind t.part ∧ DayT t ∧ RngT t ∧ SizT t := by
  unfold valT at h
  split at h
  · cases h
  split at h
  · cases h
  split at h
  · cases h
  split at h
  · cases h
  exact ⟨by simpa using ‹¬ ¬ PartT t.kind t.part›, by simpa using ‹¬ ¬ DayT t›, by simpa using ‹¬ ¬ RngT t›, by simpa using ‹¬ ¬ SizT t›⟩
theorem numT_rng {t : Tm} (h : valT t = 0) (i : Nat) : 0 ≤ numT t i ∧ numT t i ≤ 73048 := by
  obtain ⟨h1, h2, h3, h4⟩ := val0 h
  unfold PartT DayT RngT at *
  match i with
  | 0 => show 0 ≤ t.kind ∧ t.kind ≤ 73048; omega
  | 1 => show 0 ≤ t.part ∧ t.part ≤ 73048; omega
  | 2 => show 0 ≤ t.fr ∧ t.fr ≤ 73048; omega
  | 3 => show 0 ≤ t.to ∧ t.to ≤ 73048; omega
  | 4 => show 0 ≤ t.q ∧ t.q ≤ 73048; omega
  | 5 => show 0 ≤ t.fmt ∧ t.fmt ≤ 73048; omega
  | i + 6 => show (0 : Int) ≤ 0 ∧ (0 : Int) ≤ 73048; omega
theorem fldS_rng (i : Nat) : 0 ≤ fldS i ∧ fldS i ≤ 7 := by
  match i with
  | 0 | 1 | 2 | 3 | 4 | 5 => simp [fldS]
  | i + 6 => show (0 : Int) ≤ 0 ∧ (0 : Int) ≤ 7; omega
theorem tr_lit (v : Value) : Tr (.lit v) = True := eq_true (Tr.lit v)
theorem TrC_nds (l : List Nd) : TrC (.li 3 (ndsA l)) = True := eq_true (TrC.li (Tr_ndsE l))
theorem Tr_nd (n : Nd) : Tr (.agg [.lit (.int .i64 n.tag), .by_ n.val, .li 3 (ndsA n.kids)]) = True := eq_true (by
  refine Tr.agg fun x hx => ?_
  have := Tr_ndCl n x
  rw [ndA_eq] at this
  exact this hx)
theorem cvX_nd (n : Nd) (H : List (Nat × Blk)) : cvX H (ndA n) = some (ndA n, [], True) := by
  rw [ndA_eq]
  exact cvX_tr (fun H => by simp only [cvL, cv1, tr_lit, Tr_by, Tr_nds, List.nil_append, and_true]) H
theorem cvM_nds (l : List Nd) (post : List AV) (H : List (Nat × Blk)) : cvM H (ndsA l ++ post) = (cvM H post).map fun t => (ndsA l ++ t.1, t.2.1, t.2.2) := cvM_app (fun x hx H => by
  rw [ndsA_map] at hx
  obtain ⟨n, _, rfl⟩ := List.mem_map.1 hx
  exact cvX_nd n H) H
theorem wk_nd (t : Int) (v : List UInt8) : WkC [.lit (.int .i64 t), .by_ v, .lit (.slice none 0 0)] [.lit (.int .i64 t), .by_ v, .li 3 []] := ⟨Wk.rfl_ _, Wk.rfl_ _, Wk.li 3 (by omega), rfl⟩
theorem object_s (t : Tm) (hv : valT t = 0) : FnS Try.prog 28 [.agg [.lit (.int .i64 t.kind), .lit (.int .i64 t.part), .lit (.int .i64 t.fr), .lit (.int .i64 t.to), .lit (.int .i64 t.fmt), .lit (.int .i64 t.q), .by_ t.data]] [] (.agg [.lit (.int .i64 (objN t).tag), .by_ (objN t).val, .li 3 (ndsA (objN t).kids)]) [] := by
  have hs := sgOb_ok
  refine FnS.of Try.func28 rfl (N := 57) rfl (by simp) (by simp) fun X hX => ?_
  simp only [tmArgs, lentH, Nat.reduceAdd]
  refine WA.regionK ty_ok hs fun K hK => ?_
  simp only [go_sem, Nat.reduceAdd, Nat.reduceLT, Nat.reduceLeDiff, Nat.reduceEqDiff, Nat.reduceSub, Nat.reduceMul, Nat.reduceBEq, Nat.reduceBNe, Nat.reducePow, Nat.reduceDiv, Int.reduceLE, Int.reduceLT, Int.reduceToNat, Int.reduceNeg, Int.reduceAdd, Int.reduceSub, Int.reduceEq, reduceIte, reduceCtorEq, UInt8.reduceOfNat, true_and]
  repeat refine And.intro (by first | omega | assumption | (simp; done) | (simp; omega) | (simp +contextual; done) | (simp_all; done) | (simp_all; omega)) ?_
  refine hK _ ?_
  clear hK K
  refine WA.regionK ty_ok hs fun K hK => ?_
  simp only [go_sem, Nat.reduceAdd, Nat.reduceLT, Nat.reduceLeDiff, Nat.reduceEqDiff, Nat.reduceSub, Nat.reduceMul, Nat.reduceBEq, Nat.reduceBNe, Nat.reducePow, Nat.reduceDiv, Int.reduceLE, Int.reduceLT, Int.reduceToNat, Int.reduceNeg, Int.reduceAdd, Int.reduceSub, Int.reduceEq, reduceIte, reduceCtorEq, UInt8.reduceOfNat, true_and]
  repeat refine And.intro (by first | omega | assumption | (simp; done) | (simp; omega) | (simp +contextual; done) | (simp_all; done) | (simp_all; omega)) ?_
  refine hK _ ?_
  clear hK K
  refine ownC 2024 3 2 (.agg [.lit (.int .i64 161), .lit (.slice none 0 0), .lit (.slice none 0 0)]) (.li 3 []) rfl rfl rfl (x' := .agg [.lit (.int .i64 161), .lit (.slice none 0 0), .sl 2040 3 0 0]) rfl ?_
  refine WA.seq ?_
  refine WA.regionK ty_ok hs fun K hK => ?_
  simp only [go_sem, Nat.reduceAdd, Nat.reduceLT, Nat.reduceLeDiff, Nat.reduceEqDiff, Nat.reduceSub, Nat.reduceMul, Nat.reduceBEq, Nat.reduceBNe, Nat.reducePow, Nat.reduceDiv, Int.reduceLE, Int.reduceLT, Int.reduceToNat, Int.reduceNeg, Int.reduceAdd, Int.reduceSub, Int.reduceEq, reduceIte, reduceCtorEq, UInt8.reduceOfNat, true_and]
  repeat refine And.intro (by first | omega | assumption | (simp; done) | (simp; omega) | (simp +contextual; done) | (simp_all; done) | (simp_all; omega)) ?_
  refine hK _ ?_
  clear hK K
  refine WA.block ?_
  refine WA.loopW hX (fun k => if k = 3000 then 2040 else if k = 3008 then 2024 else k) ((fun (i : Nat) => ⟨[(2, .ptr 2008 0 0), (1, .ptr 2000 0 0), (3, .ptr 3008 0 0), (22, .sl 2144 1 0 6), (23, .lit (.int .i64 6)), (24, .lit (.int .i64 (i : Nat)))], [(2008, ⟨.li 3 [.agg [.lit (.int .i64 0), .lit (.slice none 0 0), .lit (.slice none 0 0)]], 0, false⟩), (2000, ⟨.li 7 [.agg [.lit (.int .i64 t.kind), .lit (.int .i64 t.part), .lit (.int .i64 t.fr), .lit (.int .i64 t.to), .lit (.int .i64 t.fmt), .lit (.int .i64 t.q), .by_ t.data]], 0, false⟩), (2144, ⟨.li 1 [.lit (.int .i64 t.kind), .lit (.int .i64 t.part), .lit (.int .i64 t.fr), .lit (.int .i64 t.to), .lit (.int .i64 t.q), .lit (.int .i64 t.fmt)], 0, false⟩), (3008, ⟨.li 3 [.agg [.lit (.int .i64 161), .lit (.slice none 0 0), .sl 3000 3 0 i]], 0, false⟩), (3000, ⟨.li 3 (ndsA ((headN t).take i)), 0, false⟩)], 4000, 57⟩ : _ → St)) (fun i => 6 - i) (fun i => i ≤ 6) (i0 := 0) (by omega) (by simp only [go_sem, Int.natCast_add, Nat.reduceAdd, Nat.reduceLT, Nat.reduceLeDiff, Nat.reduceEqDiff, Nat.reduceSub, Nat.reduceMul, Nat.reduceBEq, Nat.reduceBNe, Nat.reducePow, Nat.reduceDiv, Int.reduceLE, Int.reduceLT, Int.reduceToNat, Int.reduceNeg, Int.reduceAdd, Int.reduceSub, Int.reduceEq, reduceIte, reduceCtorEq, UInt8.reduceOfNat, ndsA, List.take_zero] <;> (try and_intros) <;> (try omega)) fun i hi => ?_
  refine WA.regionK ty_ok hs fun K hK => ?_
  simp only [go_sem, Nat.reduceAdd, Nat.reduceLT, Nat.reduceLeDiff, Nat.reduceEqDiff, Nat.reduceSub, Nat.reduceMul, Nat.reduceBEq, Nat.reduceBNe, Nat.reducePow, Nat.reduceDiv, Int.reduceLE, Int.reduceLT, Int.reduceToNat, Int.reduceNeg, Int.reduceAdd, Int.reduceSub, Int.reduceEq, reduceIte, reduceCtorEq, UInt8.reduceOfNat, true_and]
  repeat refine And.intro (by first | omega | assumption | (simp; done) | (simp; omega) | (simp +contextual; done) | (simp_all; done) | (simp_all; omega)) ?_
  refine hK _ ?_
  clear hK K
  refine WA.seq ?_
  refine WA.cond rfl (fun h => ?_) (fun h => ?_)
  ·
    with_reducible refine WA.skipN ?_
    repeat first | with_reducible refine WN.t ?_ | with_reducible refine WN.b ?_
    have h6 : i < 6 := by have := of_decide_eq_true h; omega
    clear h
    have g1 := num_at t h6
    have g2 := fld_at h6
    have g3 := numT_rng hv i
    have g4 := fldS_rng i
    have g5 : ((headN t).take i).length = i := by rw [List.length_take, headN_len]; omega
    refine WA.seq ?_
    refine WA.block ?_
    refine WA.regionK ty_ok hs fun K hK => ?_
    simp only [go_sem, Nat.reduceAdd, Nat.reduceLT, Nat.reduceLeDiff, Nat.reduceEqDiff, Nat.reduceSub, Nat.reduceMul, Nat.reduceBEq, Nat.reduceBNe, Nat.reducePow, Nat.reduceDiv, Int.reduceLE, Int.reduceLT, Int.reduceToNat, Int.reduceNeg, Int.reduceAdd, Int.reduceSub, Int.reduceEq, reduceIte, reduceCtorEq, UInt8.reduceOfNat, g1]
    repeat refine And.intro (by first | omega | assumption | (simp; done) | (simp; omega) | (simp +contextual; done) | (simp_all; done) | (simp_all; omega)) ?_
    refine hK _ ?_
    clear hK K
    have g6 : fldL.length = 6 := rfl
    refine WA.regionK ty_ok hs fun K hK => ?_
    simp only [go_sem, Nat.reduceAdd, Nat.reduceLT, Nat.reduceLeDiff, Nat.reduceEqDiff, Nat.reduceSub, Nat.reduceMul, Nat.reduceBEq, Nat.reduceBNe, Nat.reducePow, Nat.reduceDiv, Int.reduceLE, Int.reduceLT, Int.reduceToNat, Int.reduceNeg, Int.reduceAdd, Int.reduceSub, Int.reduceEq, reduceIte, reduceCtorEq, UInt8.reduceOfNat, sgOb, g2, g6, Tr_fld]
    repeat refine And.intro (by first | omega | assumption | (simp; done) | (simp; omega) | (simp +contextual; done) | (simp_all; done) | (simp_all; omega)) ?_
    refine hK _ ?_
    clear hK K
    refine WA.regionK ty_ok hs fun K hK => ?_
    simp only [go_sem, Nat.reduceAdd, Nat.reduceLT, Nat.reduceLeDiff, Nat.reduceEqDiff, Nat.reduceSub, Nat.reduceMul, Nat.reduceBEq, Nat.reduceBNe, Nat.reducePow, Nat.reduceDiv, Int.reduceLE, Int.reduceLT, Int.reduceToNat, Int.reduceNeg, Int.reduceAdd, Int.reduceSub, Int.reduceEq, reduceIte, reduceCtorEq, UInt8.reduceOfNat, sgOb, g2, Tr_fld]
    repeat refine And.intro (by first | omega | assumption | (simp; done) | (simp; omega) | (simp +contextual; done) | (simp_all; done) | (simp_all; omega)) ?_
    refine hK _ ?_
    clear hK K
    refine WA.regionE ty_ok hs fun K hK => ?_
    simp only [go_sem, Nat.reduceAdd, Nat.reduceLT, Nat.reduceLeDiff, Nat.reduceEqDiff, Nat.reduceSub, Nat.reduceMul, Nat.reduceBEq, Nat.reduceBNe, Nat.reducePow, Nat.reduceDiv, Int.reduceLE, Int.reduceLT, Int.reduceToNat, Int.reduceNeg, Int.reduceAdd, Int.reduceSub, Int.reduceEq, reduceIte, reduceCtorEq, UInt8.reduceOfNat, true_and, g5]
    repeat refine And.intro (by first | omega | assumption | (simp; done) | (simp; omega) | (simp +contextual; done) | (simp_all; done) | (simp_all; omega)) ?_
    with_reducible refine hK _ (WN.mk ?_)
    clear hK K
    repeat first | with_reducible refine WN.t ?_ | with_reducible refine WN.b ?_
    refine WA.norm 4224 fun K hK => ?_
    simp only [go_sem, Nat.reduceAdd, Nat.reduceLT, Nat.reduceLeDiff, Nat.reduceEqDiff, Nat.reduceSub, Nat.reduceMul, Nat.reduceBEq, Nat.reduceBNe, Nat.reducePow, Nat.reduceDiv, Int.reduceLE, Int.reduceLT, Int.reduceToNat, Int.reduceNeg, Int.reduceAdd, Int.reduceSub, Int.reduceEq, reduceIte, reduceCtorEq, UInt8.reduceOfNat, cvM_nds, Tr_nds]
    repeat refine And.intro (by first | omega | assumption | (simp; done) | (simp; omega) | (simp +contextual; done) | (simp_all; done) | (simp_all; omega)) ?_
    refine hK _ ?_
    clear hK K
    refine WA.sb 4224 (xs' := ndsA ((headN t).take (i + 1))) rfl (by rw [headN_succ t h6, ← nds_app]; exact WkL.app (WkL.rfl_ _) ⟨wk_nd _ _, rfl⟩) ?_
    refine WA.regionE ty_ok hs fun K hK => ?_
    simp only [go_sem, Nat.reduceAdd, Nat.reduceLT, Nat.reduceLeDiff, Nat.reduceEqDiff, Nat.reduceSub, Nat.reduceMul, Nat.reduceBEq, Nat.reduceBNe, Nat.reducePow, Nat.reduceDiv, Int.reduceLE, Int.reduceLT, Int.reduceToNat, Int.reduceNeg, Int.reduceAdd, Int.reduceSub, Int.reduceEq, reduceIte, reduceCtorEq, UInt8.reduceOfNat, true_and]
    repeat refine And.intro (by first | omega | assumption | (simp; done) | (simp; omega) | (simp +contextual; done) | (simp_all; done) | (simp_all; omega)) ?_
    refine hK _ (roundE hX (fun k => if k = 3000 then 4224 else k) (j := i + 1) (by omega) (by first | omega | (dsimp only; omega) | (simp; omega)) (by simp only [go_sem, Int.natCast_add, Nat.reduceAdd, Nat.reduceLT, Nat.reduceLeDiff, Nat.reduceEqDiff, Nat.reduceSub, Nat.reduceMul, Nat.reduceBEq, Nat.reduceBNe, Nat.reducePow, Nat.reduceDiv, Int.reduceLE, Int.reduceLT, Int.reduceToNat, Int.reduceNeg, Int.reduceAdd, Int.reduceSub, Int.reduceEq, reduceIte, reduceCtorEq, UInt8.reduceOfNat, TrC_nds, true_or] <;> (try and_intros) <;> (try omega)))
  ·
    have h6 : i = 6 := by have := of_decide_eq_false h; omega
    subst h6
    with_reducible refine WA.exitX ?_
    repeat first | with_reducible refine WX.b ?_ | with_reducible refine WX.t ?_ | (with_reducible refine WX.n ?hne ?_; case hne => rfl)
    have g5 : (headN t).take 6 = headN t := rfl
    have g6 := headN_len t
    rw [g5]
    have g7 := (val0 hv).2.2.2.2
    refine WA.drawnK mixed_ ty_ok hs (tbl := [[], [], [1], [1, 2], [1, 2, 3], [0, 1, 2, 3, 4], [0, 1, 2, 3, 4, 5], [0, 1, 2, 3, 4, 5, 6]]) (nb := [0, 2, 3, 7]) (by kernel_rfl) fun K hK => ?_
    simp only [go_sem, Nat.reduceAdd, Nat.reduceLT, Nat.reduceLeDiff, Nat.reduceEqDiff, Nat.reduceSub, Nat.reduceMul, Nat.reduceBEq, Nat.reduceBNe, Nat.reducePow, Nat.reduceDiv, Int.reduceLE, Int.reduceLT, Int.reduceToNat, Int.reduceNeg, Int.reduceAdd, Int.reduceSub, Int.reduceEq, reduceIte, reduceCtorEq, UInt8.reduceOfNat, sgOb, Tr_nds, g6]
    repeat refine And.intro (by first | omega | assumption | (simp; done) | (simp; omega) | (simp +contextual; done) | (simp_all; done) | (simp_all; omega)) ?_
    refine hK _ ?_
    clear hK K
    refine WA.norm 4048 fun K hK => ?_
    simp only [go_sem, Nat.reduceAdd, Nat.reduceLT, Nat.reduceLeDiff, Nat.reduceEqDiff, Nat.reduceSub, Nat.reduceMul, Nat.reduceBEq, Nat.reduceBNe, Nat.reducePow, Nat.reduceDiv, Int.reduceLE, Int.reduceLT, Int.reduceToNat, Int.reduceNeg, Int.reduceAdd, Int.reduceSub, Int.reduceEq, reduceIte, reduceCtorEq, UInt8.reduceOfNat, Tr_nds, TrC_nds]
    repeat refine And.intro (by first | omega | assumption | (simp; done) | (simp; omega) | (simp +contextual; done) | (simp_all; done) | (simp_all; omega)) ?_
    refine hK _ ?_
    clear hK K
    refine WA.sb 4048 (xs' := ndsA [.mk 161 [] (headN t), .mk 24366 t.data []]) rfl ⟨⟨Wk.rfl_ _, Wk.by_, Wk.rfl_ _, rfl⟩, wk_nd _ _, rfl⟩ ?_
    have g8 : List.take 2 (ndsA [.mk 161 [] (headN t), .mk 24366 t.data []]) = ndsA [.mk 161 [] (headN t), .mk 24366 t.data []] := rfl
    refine WA.norm 2008 fun K hK => ?_
    simp only [go_sem, Nat.reduceAdd, Nat.reduceLT, Nat.reduceLeDiff, Nat.reduceEqDiff, Nat.reduceSub, Nat.reduceMul, Nat.reduceBEq, Nat.reduceBNe, Nat.reducePow, Nat.reduceDiv, Int.reduceLE, Int.reduceLT, Int.reduceToNat, Int.reduceNeg, Int.reduceAdd, Int.reduceSub, Int.reduceEq, reduceIte, reduceCtorEq, UInt8.reduceOfNat, Tr_nds, TrC_nds, g8]
    repeat refine And.intro (by first | omega | assumption | (simp; done) | (simp; omega) | (simp +contextual; done) | (simp_all; done) | (simp_all; omega)) ?_
    refine hK _ ?_
    clear hK K
    refine WA.retE ty_ok (xs := [.agg [.lit (.int .i64 (objN t).tag), .by_ (objN t).val, .li 3 (ndsA (objN t).kids)]]) (ls' := []) (rv := [.cell 2 52]) rfl hX (by decide) (fun _ => rfl) (fun _ _ h => h) ?_
    simp only [go_sem, Nat.reduceAdd, Nat.reduceLT, Nat.reduceLeDiff, Nat.reduceEqDiff, Nat.reduceSub, Nat.reduceMul, Nat.reduceBEq, Nat.reduceBNe, Nat.reducePow, Nat.reduceDiv, Int.reduceLE, Int.reduceLT, Int.reduceToNat, Int.reduceNeg, Int.reduceAdd, Int.reduceSub, Int.reduceEq, reduceIte, reduceCtorEq, UInt8.reduceOfNat, sbT, Tr_nds, objN, Nd.tag, Nd.val, Nd.kids]
theorem headN_b {t : Tm} (hv : valT t = 0) : ndsA (headN t) = [.agg [.lit (.int .i64 129), .by_ [byt t.kind], .li 3 []], .agg [.lit (.int .i64 130), .by_ [byt t.part], .li 3 []], .agg [.lit (.int .i64 131), .by_ (fourL t.fr), .li 3 []],
    .agg [.lit (.int .i64 132), .by_ (fourL t.to), .li 3 []], .agg [.lit (.int .i64 133), .by_ [byt t.q], .li 3 []], .agg [.lit (.int .i64 136), .by_ [byt (t.fmt.fdiv 256), byt t.fmt], .li 3 []]] := by
  obtain ⟨h1, h2, h3, h4⟩ := val0 hv
  unfold PartT DayT RngT at *
  have e1 := (octL_1 (n := t.kind) (by omega) (by omega)).1
  have e2 := (octL_1 (n := t.part) (by omega) (by omega)).1
  have e3 := (octL_4 (n := t.fr) (by omega) (by omega)).1
  have e4 := (octL_4 (n := t.to) (by omega) (by omega)).1
  have e5 := (octL_1 (n := t.q) (by omega) (by omega)).1
  have e6 := (octL_2 (n := t.fmt) (by omega) (by omega)).1
  rw [← e1, ← e2, ← e3, ← e4, ← e5, ← e6]
  rfl
theorem bytF (n : Int) : UInt8.ofNat (IntKind.u8.wrap n).toNat = byt n := rfl
def sgRo : Sg := fun f args ls =>
  match f, args, ls with
  | 29, [.lit (.int .i64 t), .by_ v], [] => some (.agg [.lit (.int .i64 t), .by_ v, .li 3 []], [], v.length ≤ 140737488355328)
  | 31, [.lit (.int .i64 t), .li 3 xs], [] => some (.agg [.lit (.int .i64 t), .by_ [], .li 3 xs], [], Tr (.li 3 xs) = True)
  | 46, [.lit (.int .i64 n)], [] => some (.by_ (fourL n), [], True)
  | _, _, _ => none
theorem sgRo_ok : SgOK Try.prog sgRo := by
  intro f args ls r ls' vc h hvc
  unfold sgRo at h
  split at h <;> first | (simp only [Option.some.injEq, Prod.mk.injEq] at h; obtain ⟨rfl, rfl, rfl⟩ := h) | cases h
  · exact ⟨(fnOK Try.func29 (by decide) rfl), mprim_s _ _ hvc⟩
  · exact ⟨(fnOK Try.func31 (by decide) rfl), mcons_s _ _ hvc⟩
  · exact ⟨(fnOK Try.func46 (by decide) rfl), four_s _⟩
theorem robject_s (t : Tm) (hv : valT t = 0) : FnS Try.prog 30 [.agg [.lit (.int .i64 t.kind), .lit (.int .i64 t.part), .lit (.int .i64 t.fr), .lit (.int .i64 t.to), .lit (.int .i64 t.fmt), .lit (.int .i64 t.q), .by_ t.data]] [] (.agg [.lit (.int .i64 (objN t).tag), .by_ (objN t).val, .li 3 (ndsA (objN t).kids)]) [] := by
  have hs := sgRo_ok
  have g7 := (val0 hv).2.2.2.2
  have g4 : ∀ n, (fourL n).length = 4 := fun n => rfl
  have hb := headN_b hv
  have hT := Tr_nds (headN t)
  have hT2 := Tr_nds [.mk 161 [] (headN t), .mk 24366 t.data []]
  rw [hb] at hT
  simp only [ndsA, ndA, hb] at hT2
  refine FnS.of Try.func30 rfl (N := 44) rfl (by simp) (by simp) fun X hX => ?_
  simp only [tmArgs, lentH, Nat.reduceAdd]
  refine WA.regionK ty_ok hs fun K hK => ?_
  simp only [go_sem, Nat.reduceAdd, Nat.reduceLT, Nat.reduceLeDiff, Nat.reduceEqDiff, Nat.reduceSub, Nat.reduceMul, Nat.reduceBEq, Nat.reduceBNe, Nat.reducePow, Nat.reduceDiv, Int.reduceLE, Int.reduceLT, Int.reduceToNat, Int.reduceNeg, Int.reduceAdd, Int.reduceSub, Int.reduceEq, reduceIte, reduceCtorEq, UInt8.reduceOfNat, true_and]
  repeat refine And.intro (by first | omega | assumption | (simp; done) | (simp; omega) | (simp +contextual; done) | (simp_all; done) | (simp_all; omega)) ?_
  refine hK _ ?_
  clear hK K
  refine WA.drawnH mixed_ ty_ok hs (tbl := [[], [0], [0, 1], [0, 1, 2], [0, 1, 2, 3], [], [5], [5, 6], [5, 6, 7], [0, 1, 2, 3, 4, 5, 6, 7, 8], [], [10], [0, 1, 2, 3, 4, 5, 6, 7, 8, 9, 10, 11], [0, 1, 2, 3, 4, 5, 6, 7, 8, 9, 10, 11, 12], [], [14], [0, 1, 2, 3, 4, 5, 6, 7, 8, 9, 10, 11, 12, 13, 14, 15], [0, 1, 2, 3, 4, 5, 6, 7, 8, 9, 10, 11, 12, 13, 14, 15, 16], [], [18], [18, 19], [18, 19, 20], [0, 1, 2, 3, 4, 5, 6, 7, 8, 9, 10, 11, 12, 13, 14, 15, 16, 17, 18, 19, 20, 21], [], [23], [23, 24], [23, 24, 25], [], [27], [27, 28], [23, 24, 25, 26, 27, 28, 29], [0, 1, 2, 3, 4, 5, 6, 7, 8, 9, 10, 11, 12, 13, 14, 15, 16, 17, 18, 19, 20, 21, 22, 23, 24, 25, 26, 27, 28, 29, 30], [0, 1, 2, 3, 4, 5, 6, 7, 8, 9, 10, 11, 12, 13, 14, 15, 16, 17, 18, 19, 20, 21, 22, 23, 24, 25, 26, 27, 28, 29, 30, 31], [0, 1, 2, 3, 4, 5, 6, 7, 8, 9, 10, 11, 12, 13, 14, 15, 16, 17, 18, 19, 20, 21, 22, 23, 24, 25, 26, 27, 28, 29, 30, 31, 32]]) (nb := [1, 4, 6, 9, 11, 12, 13, 15, 16, 17, 19, 22, 24, 28, 31]) (hk := [[], [], [], [], [], [2040], [2040], [2040], [2040], [], [2040, 2080], [2040, 2080], [], [], [2040, 2080], [2040, 2080], [], [], [2040, 2080], [2040, 2080], [2040, 2080], [2040, 2080], [], [2040, 2080, 2184], [2040, 2080, 2184], [2040, 2080, 2184], [2040, 2080, 2184], [2040, 2080, 2184], [2040, 2080, 2184], [2040, 2080, 2184], [2040, 2080, 2184], [], [], []]) (by kernel_rfl) fun K hK => ?_
  simp only [go_sem, Nat.reduceAdd, Nat.reduceLT, Nat.reduceLeDiff, Nat.reduceEqDiff, Nat.reduceSub, Nat.reduceMul, Nat.reduceBEq, Nat.reduceBNe, Nat.reducePow, Nat.reduceDiv, Int.reduceLE, Int.reduceLT, Int.reduceToNat, Int.reduceNeg, Int.reduceAdd, Int.reduceSub, Int.reduceEq, reduceIte, reduceCtorEq, UInt8.reduceOfNat, sgRo, g4, bytF]
  repeat refine And.intro (by first | omega | assumption | (simp; done) | (simp; omega) | (simp +contextual; done) | (simp_all; done) | (simp_all; omega)) ?_
  refine hK _ ?_
  clear hK K
  refine WA.normT 3 fun K hK => ?_
  simp only [go_sem, Nat.reduceAdd, Nat.reduceLT, Nat.reduceLeDiff, Nat.reduceEqDiff, Nat.reduceSub, Nat.reduceMul, Nat.reduceBEq, Nat.reduceBNe, Nat.reducePow, Nat.reduceDiv, Int.reduceLE, Int.reduceLT, Int.reduceToNat, Int.reduceNeg, Int.reduceAdd, Int.reduceSub, Int.reduceEq, reduceIte, reduceCtorEq, UInt8.reduceOfNat, hT, bytF]
  repeat refine And.intro (by first | omega | assumption | (simp; done) | (simp; omega) | (simp +contextual; done) | (simp_all; done) | (simp_all; omega)) ?_
  refine hK _ ?_
  clear hK K
  refine WA.drawnK mixed_ ty_ok hs (tbl := [[], [0], [], [2], [0, 1, 2, 3], [0, 1, 2, 3, 4], [0, 1, 2, 3, 4, 5], [0, 1, 2, 3, 4, 5, 6]]) (nb := [1, 3, 4, 6, 7]) (by kernel_rfl) fun K hK => ?_
  simp only [go_sem, Nat.reduceAdd, Nat.reduceLT, Nat.reduceLeDiff, Nat.reduceEqDiff, Nat.reduceSub, Nat.reduceMul, Nat.reduceBEq, Nat.reduceBNe, Nat.reducePow, Nat.reduceDiv, Int.reduceLE, Int.reduceLT, Int.reduceToNat, Int.reduceNeg, Int.reduceAdd, Int.reduceSub, Int.reduceEq, reduceIte, reduceCtorEq, UInt8.reduceOfNat, sgRo, hT, hT2, bytF]
  repeat refine And.intro (by first | omega | assumption | (simp; done) | (simp; omega) | (simp +contextual; done) | (simp_all; done) | (simp_all; omega)) ?_
  refine hK _ ?_
  clear hK K
  refine WA.retE ty_ok (xs := [.agg [.lit (.int .i64 (objN t).tag), .by_ (objN t).val, .li 3 (ndsA (objN t).kids)]]) (ls' := []) (rv := [.cell 2 52]) rfl hX (by decide) (fun _ => rfl) (fun _ _ h => h) ?_
  simp only [go_sem, Nat.reduceAdd, Nat.reduceLT, Nat.reduceLeDiff, Nat.reduceEqDiff, Nat.reduceSub, Nat.reduceMul, Nat.reduceBEq, Nat.reduceBNe, Nat.reducePow, Nat.reduceDiv, Int.reduceLE, Int.reduceLT, Int.reduceToNat, Int.reduceNeg, Int.reduceAdd, Int.reduceSub, Int.reduceEq, reduceIte, reduceCtorEq, UInt8.reduceOfNat, sbT, hT2, objN, Nd.tag, Nd.val, Nd.kids, ndsA, ndA, hb]
  all_goals rfl
end Go.Proofs.Ytloihfflblgioaa
