import Derived.Test.YtgmmdijmlnehlaaDoorChC
namespace Go.Proofs.YtgmmdijmlnehlaaDoor
open Go.RowKit Go.TravelBase Go.TravelAbs
set_option linter.unusedVariables false
set_option linter.unusedSimpArgs false



















@[go_sem] theorem arr0 : (List.toArray ([] : List Operand)).isEmpty = true := rfl
/-! ### The first with a property -/
/-- The index of the first, -1 if there is none. -/
def fdx {T : Type} (p : T → Bool) (l : List T) : Int := if l.findIdx p < l.length then (l.findIdx p : Int) else -1
theorem fdx_yes {T : Type} {p : T → Bool} {l : List T} {i : Nat} (h : i < l.length) (h1 : p l[i] = true) (h2 : ∀ j (hj : j < i), p (l[j]'(by omega)) = false) : fdx p l = i := by
  have e : l.findIdx p = i := (List.findIdx_eq h).2 ⟨h1, h2⟩
  unfold fdx
  rw [e, if_pos h]
theorem fdx_no {T : Type} {p : T → Bool} {l : List T} (h2 : ∀ j (hj : j < l.length), p l[j] = false) : fdx p l = -1 := by
  have e : l.findIdx p = l.length := List.findIdx_eq_length.2 fun x hx => by
    obtain ⟨j, hj, rfl⟩ := List.getElem_of_mem hx
    exact h2 j hj
  unfold fdx
  rw [e, if_neg (Nat.lt_irrefl _)]
theorem fdx_any {T : Type} (p : T → Bool) (l : List T) : decide (fdx p l ≥ 0) = l.any p := by
  unfold fdx
  cases h : l.any p with
  | true =>
    have h1 : l.findIdx p < l.length := List.findIdx_lt_length.2 (by simpa using h)
    rw [if_pos h1]
    simp
  | false =>
    have h1 : ¬ l.findIdx p < l.length := fun h2 => by
      have := List.findIdx_lt_length.1 h2
      simp at h
      obtain ⟨x, hx, hp⟩ := this
      rw [h x hx] at hp
      cases hp
    rw [if_neg h1]
    rfl

def unT : AV → Pt
  | .agg [.lit (.string a), .lit (.int _ b), .lit (.int _ c), .lit (.int _ d), .lit (.int _ e)] => ⟨a.data.toList, b, c, d, e⟩
  | _ => ⟨[], 0, 0, 0, 0⟩
theorem un_pt (p : Pt) : unT (ptA p) = p := rfl
theorem un_pts (l : List Pt) : (l.map ptA).map unT = l := by
  rw [List.map_map]
  exact (List.map_congr_left fun x _ => un_pt x).trans (List.map_id _)
theorem Tr_ptA (p : Pt) : Tr (ptA p) := Tr.agg fun x hx => by
  simp only [List.mem_cons, List.not_mem_nil, or_false] at hx
  rcases hx with rfl | rfl | rfl | rfl | rfl <;> exact Tr.lit _
theorem Tr_pts (l : List Pt) : Tr (.li 5 (l.map ptA)) = True := eq_true (Tr.li fun x hx y hy => by
  obtain ⟨f, _, rfl⟩ := List.mem_map.1 hx
  simp only [ptA, AV.cl, List.mem_cons, List.not_mem_nil, or_false] at hy
  rcases hy with rfl | rfl | rfl | rfl | rfl <;> exact Tr.lit _)
theorem pt_at {l : List Pt} {i : Nat} (h : i < l.length) : (l.map ptA).getD i .any = .agg [.lit (.string (strB l[i].h)), .lit (.int .i64 l[i].key), .lit (.int .i64 l[i].rt), .lit (.int .i64 l[i].fr), .lit (.int .i64 l[i].til)] := by
  simp [List.getD, List.getElem?_eq_getElem h, ptA]
theorem Tr_eps (s : ByteArray) : Tr (.ep (.lit (.string s)) 0) = True := eq_true (Tr.ep fun y hy => by
  simp only [AV.cl, List.mem_cons, List.not_mem_nil, or_false] at hy
  subst hy
  exact Tr.lit _)
open Classical in
noncomputable def sg_idxT_s (g : FuncId) (y : AV) (p : Pt → Bool) : Sg := fun f args ls =>
  match args, ls with
  | [.agg [.lit (.string a), .lit (.int .i64 b), .lit (.int .i64 c), .lit (.int .i64 d), .lit (.int .i64 e)], z], [] => if f = g ∧ z = .ep y 0 then some (.lit (.bool (p ⟨a.data.toList, b, c, d, e⟩)), [], True) else none
  | _, _ => none
theorem sg_idxT_s_ok (g : FuncId) (y : AV) (p : Pt → Bool) (hok : FnOK Tryd.prog g) (hp : ∀ x, FnS Tryd.prog g [ptA x, .ep y 0] [] (.lit (.bool (p x))) []) : SgOK Tryd.prog (sg_idxT_s g y p) := by
  intro f args ls r ls' vc h hvc
  unfold sg_idxT_s at h
  split at h
  · split at h
    · rename_i hc
      obtain ⟨rfl, rfl⟩ := hc
      simp only [Option.some.injEq, Prod.mk.injEq] at h
      obtain ⟨rfl, rfl, rfl⟩ := h
      refine ⟨hok, ?_⟩
      exact hp ⟨_, _, _, _, _⟩
    · cases h
  · cases h
theorem idxT_s (g : FuncId) (y : AV) (p : Pt → Bool) (l : List Pt) (hok : FnOK Tryd.prog g) (hT : Tr (.ep y 0) = True) (hp : ∀ x, FnS Tryd.prog g [ptA x, .ep y 0] [] (.lit (.bool (p x))) []) : FnS Tryd.prog 65 [.li 5 (l.map ptA), .clo g [.ep y 0]] [] (.lit (.int .i64 (fdx p l))) [] := by
  have hs := sg_idxT_s_ok g y p hok hp
  refine FnS.len fun hL _ => ?_
  have hL := hL 0 5 _ rfl
  rw [List.length_map] at hL
  simp only [maxLen] at hL
  have hcT : Tr (.clo g [.ep y 0]) = True := eq_true (Tr.clo fun x hx => by
    simp only [List.mem_cons, List.not_mem_nil, or_false] at hx
    subst hx
    exact of_eq_true hT)
  refine FnS.of Tryd.func65 rfl (N := 19) rfl (by simp) (by simp) fun X hX => ?_
  simp only [tmArgs, lentH, Nat.reduceAdd]
  refine WA.regionK ty_ok hs fun K hK => ?_
  simp only [go_sem, Nat.reduceAdd, Nat.reduceLT, Nat.reduceLeDiff, Nat.reduceEqDiff, Nat.reduceSub, Nat.reduceMul, Nat.reduceBEq, Nat.reduceBNe, Nat.reducePow, Nat.reduceDiv, Int.reduceLE, Int.reduceLT, Int.reduceToNat, Int.reduceNeg, Int.reduceAdd, Int.reduceSub, Int.reduceEq, reduceIte, reduceCtorEq, UInt8.reduceOfNat, true_and]
  repeat refine And.intro (by first | omega | assumption | (simp; done) | (simp; omega) | (simp +contextual; done) | (simp_all; done) | (simp_all; omega)) ?_
  refine hK _ ?_
  clear hK K
  refine WA.seq ?_
  refine WA.regionK ty_ok hs fun K hK => ?_
  simp only [go_sem, Nat.reduceAdd, Nat.reduceLT, Nat.reduceLeDiff, Nat.reduceEqDiff, Nat.reduceSub, Nat.reduceMul, Nat.reduceBEq, Nat.reduceBNe, Nat.reducePow, Nat.reduceDiv, Int.reduceLE, Int.reduceLT, Int.reduceToNat, Int.reduceNeg, Int.reduceAdd, Int.reduceSub, Int.reduceEq, reduceIte, reduceCtorEq, UInt8.reduceOfNat, true_and]
  repeat refine And.intro (by first | omega | assumption | (simp; done) | (simp; omega) | (simp +contextual; done) | (simp_all; done) | (simp_all; omega)) ?_
  refine hK _ ?_
  clear hK K
  refine WA.block ?_
  refine WA.loopW hX (fun k => k) ((fun (i : Nat) => ⟨[(0, .li 5 (l.map ptA)), (1, .clo g [.ep y 0]), (7, .lit (.int .i64 (l.length : Nat))), (8, .lit (.int .i64 (i : Nat)))], [], 3000, 19⟩ : _ → St)) (fun i => l.length - i) (fun i => i ≤ l.length ∧ ∀ j (hj : j < i) (hl : j < l.length), p l[j] = false) (i0 := 0) (⟨by omega, fun j hj => by omega⟩) (by simp only [go_sem, Int.natCast_add, Nat.reduceAdd, Nat.reduceLT, Nat.reduceLeDiff, Nat.reduceEqDiff, Nat.reduceSub, Nat.reduceMul, Nat.reduceBEq, Nat.reduceBNe, Nat.reducePow, Nat.reduceDiv, Int.reduceLE, Int.reduceLT, Int.reduceToNat, Int.reduceNeg, Int.reduceAdd, Int.reduceSub, Int.reduceEq, reduceIte, reduceCtorEq, UInt8.reduceOfNat, Tr_pts, hcT] <;> (try and_intros) <;> (try omega)) fun i hi => ?_
  obtain ⟨hi, hno⟩ := hi
  refine WA.regionK ty_ok hs fun K hK => ?_
  simp only [go_sem, Nat.reduceAdd, Nat.reduceLT, Nat.reduceLeDiff, Nat.reduceEqDiff, Nat.reduceSub, Nat.reduceMul, Nat.reduceBEq, Nat.reduceBNe, Nat.reducePow, Nat.reduceDiv, Int.reduceLE, Int.reduceLT, Int.reduceToNat, Int.reduceNeg, Int.reduceAdd, Int.reduceSub, Int.reduceEq, reduceIte, reduceCtorEq, UInt8.reduceOfNat, true_and]
  repeat refine And.intro (by first | omega | assumption | (simp; done) | (simp; omega) | (simp +contextual; done) | (simp_all; done) | (simp_all; omega)) ?_
  refine hK _ ?_
  clear hK K
  refine WA.seq ?_
  refine WA.cond rfl (fun h => ?_) (fun h => ?_)
  ·
    with_reducible refine WA.skipN ?_
    repeat first | with_reducible refine WN.t ?_ | with_reducible refine WN.b ?_
    have h6 : i < l.length := by have := of_decide_eq_true h; omega
    have g1 := pt_at h6
    clear h
    refine WA.seq ?_
    refine WA.block ?_
    refine WA.regionK ty_ok hs fun K hK => ?_
    simp only [go_sem, Nat.reduceAdd, Nat.reduceLT, Nat.reduceLeDiff, Nat.reduceEqDiff, Nat.reduceSub, Nat.reduceMul, Nat.reduceBEq, Nat.reduceBNe, Nat.reducePow, Nat.reduceDiv, Int.reduceLE, Int.reduceLT, Int.reduceToNat, Int.reduceNeg, Int.reduceAdd, Int.reduceSub, Int.reduceEq, reduceIte, reduceCtorEq, UInt8.reduceOfNat, true_and]
    repeat refine And.intro (by first | omega | assumption | (simp; done) | (simp; omega) | (simp +contextual; done) | (simp_all; done) | (simp_all; omega)) ?_
    refine hK _ ?_
    clear hK K
    refine WA.regionK ty_ok hs fun K hK => ?_
    simp only [go_sem, Nat.reduceAdd, Nat.reduceLT, Nat.reduceLeDiff, Nat.reduceEqDiff, Nat.reduceSub, Nat.reduceMul, Nat.reduceBEq, Nat.reduceBNe, Nat.reducePow, Nat.reduceDiv, Int.reduceLE, Int.reduceLT, Int.reduceToNat, Int.reduceNeg, Int.reduceAdd, Int.reduceSub, Int.reduceEq, reduceIte, reduceCtorEq, UInt8.reduceOfNat, sg_idxT_s, g1, hT, Tr_pts, strB_list]
    repeat refine And.intro (by first | omega | assumption | (simp; done) | (simp; omega) | (simp +contextual; done) | (simp_all; done) | (simp_all; omega)) ?_
    refine hK _ ?_
    clear hK K
    refine WA.cond rfl (fun h => ?_) (fun h => ?_)
    ·
      have e : fdx p l = i := fdx_yes h6 h (fun j hj => hno j hj (by omega))
      refine WA.regionK ty_ok hs fun K hK => ?_
      simp only [go_sem, Nat.reduceAdd, Nat.reduceLT, Nat.reduceLeDiff, Nat.reduceEqDiff, Nat.reduceSub, Nat.reduceMul, Nat.reduceBEq, Nat.reduceBNe, Nat.reducePow, Nat.reduceDiv, Int.reduceLE, Int.reduceLT, Int.reduceToNat, Int.reduceNeg, Int.reduceAdd, Int.reduceSub, Int.reduceEq, reduceIte, reduceCtorEq, UInt8.reduceOfNat, true_and]
      repeat refine And.intro (by first | omega | assumption | (simp; done) | (simp; omega) | (simp +contextual; done) | (simp_all; done) | (simp_all; omega)) ?_
      refine hK _ ?_
      clear hK K
      refine WA.retE ty_ok (xs := [.lit (.int .i64 (fdx p l))]) (ls' := []) (rv := [.tmp 4]) rfl hX (by decide) (fun _ => rfl) (fun _ _ h => h) ?_
      simp only [go_sem, Nat.reduceAdd, Nat.reduceLT, Nat.reduceLeDiff, Nat.reduceEqDiff, Nat.reduceSub, Nat.reduceMul, Nat.reduceBEq, Nat.reduceBNe, Nat.reducePow, Nat.reduceDiv, Int.reduceLE, Int.reduceLT, Int.reduceToNat, Int.reduceNeg, Int.reduceAdd, Int.reduceSub, Int.reduceEq, reduceIte, reduceCtorEq, UInt8.reduceOfNat, sbT, e]
    ·
      with_reducible refine WA.skipN ?_
      repeat first | with_reducible refine WN.t ?_ | with_reducible refine WN.b ?_
      refine WA.regionE ty_ok hs fun K hK => ?_
      simp only [go_sem, Nat.reduceAdd, Nat.reduceLT, Nat.reduceLeDiff, Nat.reduceEqDiff, Nat.reduceSub, Nat.reduceMul, Nat.reduceBEq, Nat.reduceBNe, Nat.reducePow, Nat.reduceDiv, Int.reduceLE, Int.reduceLT, Int.reduceToNat, Int.reduceNeg, Int.reduceAdd, Int.reduceSub, Int.reduceEq, reduceIte, reduceCtorEq, UInt8.reduceOfNat, true_and]
      and_intros
      all_goals try omega
      refine hK _ (roundE hX (fun k => k) (j := i + 1) (⟨by omega, fun j hj hl => by rcases Nat.lt_succ_iff_lt_or_eq.1 hj with q | rfl; exact hno j q hl; exact h⟩) (by first | omega | (dsimp only; omega) | (simp; omega)) (by simp only [go_sem, Int.natCast_add, Nat.reduceAdd, Nat.reduceLT, Nat.reduceLeDiff, Nat.reduceEqDiff, Nat.reduceSub, Nat.reduceMul, Nat.reduceBEq, Nat.reduceBNe, Nat.reducePow, Nat.reduceDiv, Int.reduceLE, Int.reduceLT, Int.reduceToNat, Int.reduceNeg, Int.reduceAdd, Int.reduceSub, Int.reduceEq, reduceIte, reduceCtorEq, UInt8.reduceOfNat, Tr_pts, hcT] <;> (try and_intros) <;> (try omega)))
  ·
    have h6 : i = l.length := by have := of_decide_eq_false h; omega
    subst h6
    have e : fdx p l = -1 := fdx_no fun j hj => hno j hj hj
    with_reducible refine WA.exitX ?_
    repeat first | with_reducible refine WX.b ?_ | with_reducible refine WX.t ?_ | (with_reducible refine WX.n ?hne ?_; case hne => rfl)
    refine WA.regionK ty_ok hs fun K hK => ?_
    simp only [go_sem, Nat.reduceAdd, Nat.reduceLT, Nat.reduceLeDiff, Nat.reduceEqDiff, Nat.reduceSub, Nat.reduceMul, Nat.reduceBEq, Nat.reduceBNe, Nat.reducePow, Nat.reduceDiv, Int.reduceLE, Int.reduceLT, Int.reduceToNat, Int.reduceNeg, Int.reduceAdd, Int.reduceSub, Int.reduceEq, reduceIte, reduceCtorEq, UInt8.reduceOfNat, true_and]
    repeat refine And.intro (by first | omega | assumption | (simp; done) | (simp; omega) | (simp +contextual; done) | (simp_all; done) | (simp_all; omega)) ?_
    refine hK _ ?_
    clear hK K
    refine WA.retE ty_ok (xs := [.lit (.int .i64 (fdx p l))]) (ls' := []) (rv := [.tmp 4]) rfl hX (by decide) (fun _ => rfl) (fun _ _ h => h) ?_
    simp only [go_sem, Nat.reduceAdd, Nat.reduceLT, Nat.reduceLeDiff, Nat.reduceEqDiff, Nat.reduceSub, Nat.reduceMul, Nat.reduceBEq, Nat.reduceBNe, Nat.reducePow, Nat.reduceDiv, Int.reduceLE, Int.reduceLT, Int.reduceToNat, Int.reduceNeg, Int.reduceAdd, Int.reduceSub, Int.reduceEq, reduceIte, reduceCtorEq, UInt8.reduceOfNat, sbT, e]

open Classical in
noncomputable def sg_ctxT_s (g : FuncId) (y : AV) (p : Pt → Bool) : Sg := fun f args ls =>
  match f, args, ls with
  | 65, [.li es xs, .clo g' [.ep y' 0]], [] => if g' = g ∧ y' = y then some (.lit (.int .i64 (fdx p (xs.map unT))), [], es = 5 ∧ xs = (xs.map unT).map ptA) else none
  | _, _, _ => none
theorem ctxT_s (g : FuncId) (y : AV) (p : Pt → Bool) (l : List Pt) (hok : FnOK Tryd.prog g) (hT : Tr (.ep y 0) = True) (hp : ∀ x, FnS Tryd.prog g [ptA x, .ep y 0] [] (.lit (.bool (p x))) []) : FnS Tryd.prog 52 [.li 5 (l.map ptA), .clo g [.ep y 0]] [] (.lit (.bool (l.any p))) [] := by
  have hs : SgOK Tryd.prog (sg_ctxT_s g y p) := by
    intro f args ls r ls' vc h hvc
    unfold sg_ctxT_s at h
    split at h
    · split at h
      · rename_i hc
        obtain ⟨rfl, rfl⟩ := hc
        simp only [Option.some.injEq, Prod.mk.injEq] at h
        obtain ⟨rfl, rfl, rfl⟩ := h
        rename_i es xs g' y'
        obtain ⟨rfl, h2⟩ := hvc
        refine ⟨(fnOK Tryd.func65 (by decide) rfl), ?_⟩
        have := idxT_s g' y' p (xs.map unT) hok hT hp
        rw [← h2] at this
        exact this
      · cases h
    · cases h
  have hcT : Tr (.clo g [.ep y 0]) = True := eq_true (Tr.clo fun x hx => by
    simp only [List.mem_cons, List.not_mem_nil, or_false] at hx
    subst hx
    exact of_eq_true hT)
  have e := fdx_any p l
  refine FnS.of Tryd.func52 rfl (N := 9) rfl (by simp) (by simp) fun X hX => ?_
  simp only [tmArgs, lentH, Nat.reduceAdd]
  refine WA.regionK ty_ok hs fun K hK => ?_
  simp only [go_sem, Nat.reduceAdd, Nat.reduceLT, Nat.reduceLeDiff, Nat.reduceEqDiff, Nat.reduceSub, Nat.reduceMul, Nat.reduceBEq, Nat.reduceBNe, Nat.reducePow, Nat.reduceDiv, Int.reduceLE, Int.reduceLT, Int.reduceToNat, Int.reduceNeg, Int.reduceAdd, Int.reduceSub, Int.reduceEq, reduceIte, reduceCtorEq, UInt8.reduceOfNat, true_and]
  repeat refine And.intro (by first | omega | assumption | (simp; done) | (simp; omega) | (simp +contextual; done) | (simp_all; done) | (simp_all; omega)) ?_
  refine hK _ ?_
  clear hK K
  refine WA.regionK ty_ok hs fun K hK => ?_
  simp only [go_sem, Nat.reduceAdd, Nat.reduceLT, Nat.reduceLeDiff, Nat.reduceEqDiff, Nat.reduceSub, Nat.reduceMul, Nat.reduceBEq, Nat.reduceBNe, Nat.reducePow, Nat.reduceDiv, Int.reduceLE, Int.reduceLT, Int.reduceToNat, Int.reduceNeg, Int.reduceAdd, Int.reduceSub, Int.reduceEq, reduceIte, reduceCtorEq, UInt8.reduceOfNat, sg_ctxT_s, Tr_pts, hcT, hT, un_pts]
  repeat refine And.intro (by first | omega | assumption | (simp; done) | (simp; omega) | (simp +contextual; done) | (simp_all; done) | (simp_all; omega)) ?_
  refine hK _ ?_
  clear hK K
  refine WA.retE ty_ok (xs := [.lit (.bool (l.any p))]) (ls' := []) (rv := [.tmp 4]) rfl hX (by decide) (fun _ => rfl) (fun _ _ h => h) ?_
  simp only [go_sem, Nat.reduceAdd, Nat.reduceLT, Nat.reduceLeDiff, Nat.reduceEqDiff, Nat.reduceSub, Nat.reduceMul, Nat.reduceBEq, Nat.reduceBNe, Nat.reducePow, Nat.reduceDiv, Int.reduceLE, Int.reduceLT, Int.reduceToNat, Int.reduceNeg, Int.reduceAdd, Int.reduceSub, Int.reduceEq, reduceIte, reduceCtorEq, UInt8.reduceOfNat, sbT, e]

/-! ### has -/
def hasP (n : List UInt8) (p : Pt) : Bool := p.h == n
def hasB (l : List Pt) (n : List UInt8) : Bool := l.any (hasP n)
theorem has1_s (n : List UInt8) (p : Pt) : FnS Tryd.prog 53 [ptA p, .ep (.lit (.string (strB n))) 0] [] (.lit (.bool (hasP n p))) [] := by
  have hs := sg0_ok
  unfold ptA
  refine FnS.of Tryd.func53 rfl (N := 8) rfl (by simp) (by simp) fun X hX => ?_
  simp only [tmArgs, lentH, Nat.reduceAdd]
  refine WA.regionK ty_ok hs fun K hK => ?_
  simp only [go_sem, Nat.reduceAdd, Nat.reduceLT, Nat.reduceLeDiff, Nat.reduceEqDiff, Nat.reduceSub, Nat.reduceMul, Nat.reduceBEq, Nat.reduceBNe, Nat.reducePow, Nat.reduceDiv, Int.reduceLE, Int.reduceLT, Int.reduceToNat, Int.reduceNeg, Int.reduceAdd, Int.reduceSub, Int.reduceEq, reduceIte, reduceCtorEq, UInt8.reduceOfNat, Tr_eps]
  repeat refine And.intro (by first | omega | assumption | (simp; done) | (simp; omega) | (simp +contextual; done) | (simp_all; done) | (simp_all; omega)) ?_
  refine hK _ ?_
  clear hK K
  refine WA.regionK ty_ok hs fun K hK => ?_
  simp only [go_sem, Nat.reduceAdd, Nat.reduceLT, Nat.reduceLeDiff, Nat.reduceEqDiff, Nat.reduceSub, Nat.reduceMul, Nat.reduceBEq, Nat.reduceBNe, Nat.reducePow, Nat.reduceDiv, Int.reduceLE, Int.reduceLT, Int.reduceToNat, Int.reduceNeg, Int.reduceAdd, Int.reduceSub, Int.reduceEq, reduceIte, reduceCtorEq, UInt8.reduceOfNat, strB_toList, Tr_eps]
  repeat refine And.intro (by first | omega | assumption | (simp; done) | (simp; omega) | (simp +contextual; done) | (simp_all; done) | (simp_all; omega)) ?_
  refine hK _ ?_
  clear hK K
  refine WA.retE ty_ok (xs := [.lit (.bool (hasP n p))]) (ls' := []) (rv := [.tmp 3]) rfl hX (by decide) (fun _ => rfl) (fun _ _ h => h) ?_
  simp only [go_sem, Nat.reduceAdd, Nat.reduceLT, Nat.reduceLeDiff, Nat.reduceEqDiff, Nat.reduceSub, Nat.reduceMul, Nat.reduceBEq, Nat.reduceBNe, Nat.reducePow, Nat.reduceDiv, Int.reduceLE, Int.reduceLT, Int.reduceToNat, Int.reduceNeg, Int.reduceAdd, Int.reduceSub, Int.reduceEq, reduceIte, reduceCtorEq, UInt8.reduceOfNat, sbT, Tr_eps]
  all_goals rfl
def sgHs : Sg := fun f args ls =>
  match f, args, ls with
  | 52, [.li es xs, .clo 53 [.ep (.lit (.string s)) 0]], [] => some (.lit (.bool ((xs.map unT).any (hasP s.data.toList))), [], es = 5 ∧ xs = (xs.map unT).map ptA)
  | _, _, _ => none
theorem sgHs_ok : SgOK Tryd.prog sgHs := by
  intro f args ls r ls' vc h hvc
  unfold sgHs at h
  split at h <;> first | (simp only [Option.some.injEq, Prod.mk.injEq] at h; obtain ⟨rfl, rfl, rfl⟩ := h) | cases h
  obtain ⟨rfl, h2⟩ := hvc
  refine ⟨(fnOK Tryd.func52 (by decide) rfl), ?_⟩
  rename_i xs s
  have := ctxT_s 53 (.lit (.string s)) (hasP s.data.toList) (xs.map unT) (fnOK Tryd.func53 (by decide) rfl) (Tr_eps _) (fun p => has1_s s.data.toList p)
  rw [← h2] at this
  exact this
theorem has_s (l : List Pt) (n : List UInt8) : FnS Tryd.prog 27 [.li 5 (l.map ptA), .lit (.string (strB n))] [] (.lit (.bool (hasB l n))) [] := by
  have hs := sgHs_ok
  refine FnS.of Tryd.func27 rfl (N := 8) rfl (by simp) (by simp) fun X hX => ?_
  simp only [tmArgs, lentH, Nat.reduceAdd]
  refine WA.regionK ty_ok hs fun K hK => ?_
  simp only [go_sem, Nat.reduceAdd, Nat.reduceLT, Nat.reduceLeDiff, Nat.reduceEqDiff, Nat.reduceSub, Nat.reduceMul, Nat.reduceBEq, Nat.reduceBNe, Nat.reducePow, Nat.reduceDiv, Int.reduceLE, Int.reduceLT, Int.reduceToNat, Int.reduceNeg, Int.reduceAdd, Int.reduceSub, Int.reduceEq, reduceIte, reduceCtorEq, UInt8.reduceOfNat, Tr_pts]
  repeat refine And.intro (by first | omega | assumption | (simp; done) | (simp; omega) | (simp +contextual; done) | (simp_all; done) | (simp_all; omega)) ?_
  refine hK _ ?_
  clear hK K
  refine WA.regionK ty_ok hs fun K hK => ?_
  simp only [go_sem, Nat.reduceAdd, Nat.reduceLT, Nat.reduceLeDiff, Nat.reduceEqDiff, Nat.reduceSub, Nat.reduceMul, Nat.reduceBEq, Nat.reduceBNe, Nat.reducePow, Nat.reduceDiv, Int.reduceLE, Int.reduceLT, Int.reduceToNat, Int.reduceNeg, Int.reduceAdd, Int.reduceSub, Int.reduceEq, reduceIte, reduceCtorEq, UInt8.reduceOfNat, sgHs, Tr_pts, un_pts, strB_list, Tr_eps]
  repeat refine And.intro (by first | omega | assumption | (simp; done) | (simp; omega) | (simp +contextual; done) | (simp_all; done) | (simp_all; omega)) ?_
  refine hK _ ?_
  clear hK K
  refine WA.retE ty_ok (xs := [.lit (.bool (hasB l n))]) (ls' := []) (rv := [.tmp 4]) rfl hX (by decide) (fun _ => rfl) (fun _ _ h => h) ?_
  simp only [go_sem, Nat.reduceAdd, Nat.reduceLT, Nat.reduceLeDiff, Nat.reduceEqDiff, Nat.reduceSub, Nat.reduceMul, Nat.reduceBEq, Nat.reduceBNe, Nat.reducePow, Nat.reduceDiv, Int.reduceLE, Int.reduceLT, Int.reduceToNat, Int.reduceNeg, Int.reduceAdd, Int.reduceSub, Int.reduceEq, reduceIte, reduceCtorEq, UInt8.reduceOfNat, sbT, Tr_pts]
  all_goals rfl
end Go.Proofs.YtgmmdijmlnehlaaDoor
