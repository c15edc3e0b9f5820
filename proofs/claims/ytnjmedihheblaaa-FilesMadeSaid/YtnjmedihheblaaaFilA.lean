import Derived.Test.YtnjmedihheblaaaDiceA
import Derived.Test.YtnjmedihheblaaaClone
namespace Go.Proofs.Ytnjmedihheblaaa
open Go.RowKit Go.TravelBase Go.TravelAbs
set_option linter.unusedVariables false
set_option linter.unusedSimpArgs false












@[go_sem] theorem arr0 : (List.toArray ([] : List Operand)).isEmpty = true := rfl
/-! ### Files, applications -/
structure Fl where
  id : Int
  short : Int
  content : List UInt8
  level : Int
  right : Int
def flA (f : Fl) : AV := .agg [.lit (.int .i64 f.id), .lit (.int .i64 f.short), .by_ f.content, .lit (.int .i64 f.level), .lit (.int .i64 f.right)]
def unF : AV → Fl
  | .agg [.lit (.int _ a), .lit (.int _ b), .by_ c, .lit (.int _ d), .lit (.int _ e)] => ⟨a, b, c, d, e⟩
  | _ => ⟨0, 0, [], 0, 0⟩
theorem un_fl (f : Fl) : unF (flA f) = f := rfl
theorem un_fls (l : List Fl) : (l.map flA).map unF = l := by
  rw [List.map_map]
  exact (List.map_congr_left fun x _ => un_fl x).trans (List.map_id _)
theorem Tr_flA (f : Fl) : Tr (flA f) := Tr.agg fun x hx => by
  simp only [List.mem_cons, List.not_mem_nil, or_false] at hx
  rcases hx with rfl | rfl | rfl | rfl | rfl <;> first | exact Tr.lit _ | exact Tr.by_ _
theorem Tr_fls (l : List Fl) : Tr (.li 5 (l.map flA)) = True := eq_true (Tr.li fun x hx y hy => by
  obtain ⟨f, _, rfl⟩ := List.mem_map.1 hx
  simp only [flA, AV.cl, List.mem_cons, List.not_mem_nil, or_false] at hy
  rcases hy with rfl | rfl | rfl | rfl | rfl <;> first | exact Tr.lit _ | exact Tr.by_ _)
theorem fl_at {l : List Fl} {i : Nat} (h : i < l.length) : (l.map flA).getD i .any = .agg [.lit (.int .i64 l[i].id), .lit (.int .i64 l[i].short), .by_ l[i].content, .lit (.int .i64 l[i].level), .lit (.int .i64 l[i].right)] := by
  simp [List.getD, List.getElem?_eq_getElem h, flA]
structure Fap where
  name : List UInt8
  files : List Fl
def apA (a : Fap) : AV := .agg [.by_ a.name, .li 5 (a.files.map flA)]
def unP : AV → Fap
  | .agg [.by_ n, .li _ xs] => ⟨n, xs.map unF⟩
  | _ => ⟨[], []⟩
theorem un_ap (a : Fap) : unP (apA a) = a := by
  cases a
  simp only [apA, unP, un_fls]
theorem un_aps (l : List Fap) : (l.map apA).map unP = l := by
  rw [List.map_map]
  exact (List.map_congr_left fun x _ => un_ap x).trans (List.map_id _)
theorem Tr_apA (a : Fap) : Tr (apA a) := Tr.agg fun x hx => by
  simp only [List.mem_cons, List.not_mem_nil, or_false] at hx
  rcases hx with rfl | rfl
  · exact Tr.by_ _
  · exact of_eq_true (Tr_fls _)
theorem Tr_aps (l : List Fap) : Tr (.li 2 (l.map apA)) = True := eq_true (Tr.li fun x hx y hy => by
  obtain ⟨a, _, rfl⟩ := List.mem_map.1 hx
  simp only [apA, AV.cl, List.mem_cons, List.not_mem_nil, or_false] at hy
  rcases hy with rfl | rfl
  · exact Tr.by_ _
  · exact of_eq_true (Tr_fls _))
theorem ap_at {l : List Fap} {i : Nat} (h : i < l.length) : (l.map apA).getD i .any = .agg [.by_ l[i].name, .li 5 (l[i].files.map flA)] := by
  simp [List.getD, List.getElem?_eq_getElem h, apA]

/-! ### The first with a property -/
/-- The index of the first, -1 if there is none. -/
def fdx {T : Type} (p : T → Bool) (l : List T) : Int := if l.findIdx p < l.length then (l.findIdx p : Int) else -1
theorem fdx_yes {T : Type} {p : T → Bool} {l : List T} {i : Nat} (h : i < l.length) (h1 : p l[i] = true) (h2 : ∀ j (hj : j < i), p (l[j]'(by omega)) = false) : fdx p l = i := by
  have e : l.findIdx p = i := (List.findIdx_eq h).2 ⟨h1, h2⟩
  unfold fdx
  rw [e, if_pos h]
theorem fdx_no {T : Type} {p : T → Bool} {l : List T} (h2 : ∀ j (hj : j < l.length), p l[j] = false) : fdx p l = -1 := by
  have e : l.findIdx p = l.length := List.findIdx_eq_length.2 fun x hx => by
    obtain ⟨j, hj, rfl⟩ := List.getElem_of_mem hx
    exact h2 j hj
  unfold fdx
  rw [e, if_neg (Nat.lt_irrefl _)]
theorem fdx_any {T : Type} (p : T → Bool) (l : List T) : decide (fdx p l ≥ 0) = l.any p := by
  unfold fdx
  cases h : l.any p with
  | true =>
    have h1 : l.findIdx p < l.length := List.findIdx_lt_length.2 (by simpa using h)
    rw [if_pos h1]
    simp
  | false =>
    have h1 : ¬ l.findIdx p < l.length := fun h2 => by
      have := List.findIdx_lt_length.1 h2
      simp at h
      obtain ⟨x, hx, hp⟩ := this
      rw [h x hx] at hp
      cases hp
    rw [if_neg h1]
    rfl

open Classical in
noncomputable def sg_idxF_s (g : FuncId) (y : AV) (p : Fl → Bool) : Sg := fun f args ls =>
  match args, ls with
  | [.agg [.lit (.int .i64 a), .lit (.int .i64 b), .by_ c, .lit (.int .i64 d), .lit (.int .i64 e)], z], [] => if f = g ∧ z = .ep y 0 then some (.lit (.bool (p ⟨a, b, c, d, e⟩)), [], True) else none
  | _, _ => none
theorem sg_idxF_s_ok (g : FuncId) (y : AV) (p : Fl → Bool) (hok : FnOK Try.prog g) (hp : ∀ x, FnS Try.prog g [flA x, .ep y 0] [] (.lit (.bool (p x))) []) : SgOK Try.prog (sg_idxF_s g y p) := by
  intro f args ls r ls' vc h hvc
  unfold sg_idxF_s at h
  split at h
  · split at h
    · rename_i hc
      obtain ⟨rfl, rfl⟩ := hc
      simp only [Option.some.injEq, Prod.mk.injEq] at h
      obtain ⟨rfl, rfl, rfl⟩ := h
      refine ⟨hok, ?_⟩
      exact hp ⟨_, _, _, _, _⟩
    · cases h
  · cases h
theorem idxF_s (g : FuncId) (y : AV) (p : Fl → Bool) (l : List Fl) (hok : FnOK Try.prog g) (hT : Tr (.ep y 0) = True) (hp : ∀ x, FnS Try.prog g [flA x, .ep y 0] [] (.lit (.bool (p x))) []) : FnS Try.prog 48 [.li 5 (l.map flA), .clo g [.ep y 0]] [] (.lit (.int .i64 (fdx p l))) [] := by
  have hs := sg_idxF_s_ok g y p hok hp
  refine FnS.len fun hL _ => ?_
  have hL := hL 0 5 _ rfl
  rw [List.length_map] at hL
  simp only [maxLen] at hL
  have hcT : Tr (.clo g [.ep y 0]) = True := eq_true (Tr.clo fun x hx => by
    simp only [List.mem_cons, List.not_mem_nil, or_false] at hx
    subst hx
    exact of_eq_true hT)
  refine FnS.of Try.func48 rfl (N := 19) rfl (by simp) (by simp) fun X hX => ?_
  simp only [tmArgs, lentH, Nat.reduceAdd]
  refine WA.regionK ty_ok hs fun K hK => ?_
  simp only [go_sem, Nat.reduceAdd, Nat.reduceLT, Nat.reduceLeDiff, Nat.reduceEqDiff, Nat.reduceSub, Nat.reduceMul, Nat.reduceBEq, Nat.reduceBNe, Nat.reducePow, Nat.reduceDiv, Int.reduceLE, Int.reduceLT, Int.reduceToNat, Int.reduceNeg, Int.reduceAdd, Int.reduceSub, Int.reduceEq, reduceIte, reduceCtorEq, UInt8.reduceOfNat, true_and]
  first
  | refine hK _ ?_
  | refine And.intro (by first | omega | (simp; done) | (simp; omega) | (simp +contextual; done) | (simp_all; done) | (simp_all; omega)) (hK _ ?_)
  clear hK K
  refine WA.seq ?_
  refine WA.regionK ty_ok hs fun K hK => ?_
  simp only [go_sem, Nat.reduceAdd, Nat.reduceLT, Nat.reduceLeDiff, Nat.reduceEqDiff, Nat.reduceSub, Nat.reduceMul, Nat.reduceBEq, Nat.reduceBNe, Nat.reducePow, Nat.reduceDiv, Int.reduceLE, Int.reduceLT, Int.reduceToNat, Int.reduceNeg, Int.reduceAdd, Int.reduceSub, Int.reduceEq, reduceIte, reduceCtorEq, UInt8.reduceOfNat, true_and]
  first
  | refine hK _ ?_
  | refine And.intro (by first | omega | (simp; done) | (simp; omega) | (simp +contextual; done) | (simp_all; done) | (simp_all; omega)) (hK _ ?_)
  clear hK K
  refine WA.block ?_
  refine WA.loopW hX (fun k => k) ((fun (i : Nat) => ⟨[(0, .li 5 (l.map flA)), (1, .clo g [.ep y 0]), (7, .lit (.int .i64 (l.length : Nat))), (8, .lit (.int .i64 (i : Nat)))], [], 3000, 19⟩ : _ → St)) (fun i => l.length - i) (fun i => i ≤ l.length ∧ ∀ j (hj : j < i) (hl : j < l.length), p l[j] = false) (i0 := 0) (⟨by omega, fun j hj => by omega⟩) (by simp only [go_sem, Int.natCast_add, Nat.reduceAdd, Nat.reduceLT, Nat.reduceLeDiff, Nat.reduceEqDiff, Nat.reduceSub, Nat.reduceMul, Nat.reduceBEq, Nat.reduceBNe, Nat.reducePow, Nat.reduceDiv, Int.reduceLE, Int.reduceLT, Int.reduceToNat, Int.reduceNeg, Int.reduceAdd, Int.reduceSub, Int.reduceEq, reduceIte, reduceCtorEq, UInt8.reduceOfNat, Tr_fls, hcT] <;> (try and_intros) <;> (try omega)) fun i hi => ?_
  obtain ⟨hi, hno⟩ := hi
  refine WA.regionK ty_ok hs fun K hK => ?_
  simp only [go_sem, Nat.reduceAdd, Nat.reduceLT, Nat.reduceLeDiff, Nat.reduceEqDiff, Nat.reduceSub, Nat.reduceMul, Nat.reduceBEq, Nat.reduceBNe, Nat.reducePow, Nat.reduceDiv, Int.reduceLE, Int.reduceLT, Int.reduceToNat, Int.reduceNeg, Int.reduceAdd, Int.reduceSub, Int.reduceEq, reduceIte, reduceCtorEq, UInt8.reduceOfNat, true_and]
  first
  | refine hK _ ?_
  | refine And.intro (by first | omega | (simp; done) | (simp; omega) | (simp +contextual; done) | (simp_all; done) | (simp_all; omega)) (hK _ ?_)
  clear hK K
  refine WA.seq ?_
  refine WA.cond rfl (fun h => ?_) (fun h => ?_)
  ·
    with_reducible refine WA.skipN ?_
    repeat first | with_reducible refine WN.t ?_ | with_reducible refine WN.b ?_
    have h6 : i < l.length := by have := of_decide_eq_true h; omega
    have g1 := fl_at h6
    clear h
    refine WA.seq ?_
    refine WA.block ?_
    refine WA.regionK ty_ok hs fun K hK => ?_
    simp only [go_sem, Nat.reduceAdd, Nat.reduceLT, Nat.reduceLeDiff, Nat.reduceEqDiff, Nat.reduceSub, Nat.reduceMul, Nat.reduceBEq, Nat.reduceBNe, Nat.reducePow, Nat.reduceDiv, Int.reduceLE, Int.reduceLT, Int.reduceToNat, Int.reduceNeg, Int.reduceAdd, Int.reduceSub, Int.reduceEq, reduceIte, reduceCtorEq, UInt8.reduceOfNat, true_and]
    first
    | refine hK _ ?_
    | refine And.intro (by first | omega | (simp; done) | (simp; omega) | (simp +contextual; done) | (simp_all; done) | (simp_all; omega)) (hK _ ?_)
    clear hK K
    refine WA.regionK ty_ok hs fun K hK => ?_
    simp only [go_sem, Nat.reduceAdd, Nat.reduceLT, Nat.reduceLeDiff, Nat.reduceEqDiff, Nat.reduceSub, Nat.reduceMul, Nat.reduceBEq, Nat.reduceBNe, Nat.reducePow, Nat.reduceDiv, Int.reduceLE, Int.reduceLT, Int.reduceToNat, Int.reduceNeg, Int.reduceAdd, Int.reduceSub, Int.reduceEq, reduceIte, reduceCtorEq, UInt8.reduceOfNat, sg_idxF_s, g1, hT, Tr_fls, Tr_fls, un_fls]
    first
    | refine hK _ ?_
    | refine And.intro (by first | omega | (simp; done) | (simp; omega) | (simp +contextual; done) | (simp_all; done) | (simp_all; omega)) (hK _ ?_)
    clear hK K
    refine WA.cond rfl (fun h => ?_) (fun h => ?_)
    ·
      have e : fdx p l = i := fdx_yes h6 h (fun j hj => hno j hj (by omega))
      refine WA.regionK ty_ok hs fun K hK => ?_
      simp only [go_sem, Nat.reduceAdd, Nat.reduceLT, Nat.reduceLeDiff, Nat.reduceEqDiff, Nat.reduceSub, Nat.reduceMul, Nat.reduceBEq, Nat.reduceBNe, Nat.reducePow, Nat.reduceDiv, Int.reduceLE, Int.reduceLT, Int.reduceToNat, Int.reduceNeg, Int.reduceAdd, Int.reduceSub, Int.reduceEq, reduceIte, reduceCtorEq, UInt8.reduceOfNat, true_and]
      first
      | refine hK _ ?_
      | refine And.intro (by first | omega | (simp; done) | (simp; omega) | (simp +contextual; done) | (simp_all; done) | (simp_all; omega)) (hK _ ?_)
      clear hK K
      refine WA.retE ty_ok (xs := [.lit (.int .i64 (fdx p l))]) (ls' := []) (rv := [.tmp 4]) rfl hX (by decide) (fun _ => rfl) (fun _ _ h => h) ?_
      simp only [go_sem, Nat.reduceAdd, Nat.reduceLT, Nat.reduceLeDiff, Nat.reduceEqDiff, Nat.reduceSub, Nat.reduceMul, Nat.reduceBEq, Nat.reduceBNe, Nat.reducePow, Nat.reduceDiv, Int.reduceLE, Int.reduceLT, Int.reduceToNat, Int.reduceNeg, Int.reduceAdd, Int.reduceSub, Int.reduceEq, reduceIte, reduceCtorEq, UInt8.reduceOfNat, sbT, e]
    ·
      with_reducible refine WA.skipN ?_
      repeat first | with_reducible refine WN.t ?_ | with_reducible refine WN.b ?_
      refine WA.regionE ty_ok hs fun K hK => ?_
      simp only [go_sem, Nat.reduceAdd, Nat.reduceLT, Nat.reduceLeDiff, Nat.reduceEqDiff, Nat.reduceSub, Nat.reduceMul, Nat.reduceBEq, Nat.reduceBNe, Nat.reducePow, Nat.reduceDiv, Int.reduceLE, Int.reduceLT, Int.reduceToNat, Int.reduceNeg, Int.reduceAdd, Int.reduceSub, Int.reduceEq, reduceIte, reduceCtorEq, UInt8.reduceOfNat, true_and]
      and_intros
      all_goals try omega
      refine hK _ (roundE hX (fun k => k) (j := i + 1) (⟨by omega, fun j hj hl => by rcases Nat.lt_succ_iff_lt_or_eq.1 hj with q | rfl; exact hno j q hl; exact h⟩) (by first | omega | (dsimp only; omega) | (simp; omega)) (by simp only [go_sem, Int.natCast_add, Nat.reduceAdd, Nat.reduceLT, Nat.reduceLeDiff, Nat.reduceEqDiff, Nat.reduceSub, Nat.reduceMul, Nat.reduceBEq, Nat.reduceBNe, Nat.reducePow, Nat.reduceDiv, Int.reduceLE, Int.reduceLT, Int.reduceToNat, Int.reduceNeg, Int.reduceAdd, Int.reduceSub, Int.reduceEq, reduceIte, reduceCtorEq, UInt8.reduceOfNat, Tr_fls, hcT] <;> (try and_intros) <;> (try omega)))
  ·
    have h6 : i = l.length := by have := of_decide_eq_false h; omega
    subst h6
    have e : fdx p l = -1 := fdx_no fun j hj => hno j hj hj
    with_reducible refine WA.exitX ?_
    repeat first | with_reducible refine WX.b ?_ | with_reducible refine WX.t ?_ | (with_reducible refine WX.n ?hne ?_; case hne => rfl)
    refine WA.regionK ty_ok hs fun K hK => ?_
    simp only [go_sem, Nat.reduceAdd, Nat.reduceLT, Nat.reduceLeDiff, Nat.reduceEqDiff, Nat.reduceSub, Nat.reduceMul, Nat.reduceBEq, Nat.reduceBNe, Nat.reducePow, Nat.reduceDiv, Int.reduceLE, Int.reduceLT, Int.reduceToNat, Int.reduceNeg, Int.reduceAdd, Int.reduceSub, Int.reduceEq, reduceIte, reduceCtorEq, UInt8.reduceOfNat, true_and]
    first
    | refine hK _ ?_
    | refine And.intro (by first | omega | (simp; done) | (simp; omega) | (simp +contextual; done) | (simp_all; done) | (simp_all; omega)) (hK _ ?_)
    clear hK K
    refine WA.retE ty_ok (xs := [.lit (.int .i64 (fdx p l))]) (ls' := []) (rv := [.tmp 4]) rfl hX (by decide) (fun _ => rfl) (fun _ _ h => h) ?_
    simp only [go_sem, Nat.reduceAdd, Nat.reduceLT, Nat.reduceLeDiff, Nat.reduceEqDiff, Nat.reduceSub, Nat.reduceMul, Nat.reduceBEq, Nat.reduceBNe, Nat.reducePow, Nat.reduceDiv, Int.reduceLE, Int.reduceLT, Int.reduceToNat, Int.reduceNeg, Int.reduceAdd, Int.reduceSub, Int.reduceEq, reduceIte, reduceCtorEq, UInt8.reduceOfNat, sbT, e]

open Classical in
noncomputable def sg_idxP_s (g : FuncId) (y : AV) (p : Fap → Bool) : Sg := fun f args ls =>
  match args, ls with
  | [.agg [.by_ a, .li 5 xs], z], [] => if f = g ∧ z = .ep y 0 then some (.lit (.bool (p ⟨a, xs.map unF⟩)), [], xs = (xs.map unF).map flA) else none
  | _, _ => none
theorem sg_idxP_s_ok (g : FuncId) (y : AV) (p : Fap → Bool) (hok : FnOK Try.prog g) (hp : ∀ x, FnS Try.prog g [apA x, .ep y 0] [] (.lit (.bool (p x))) []) : SgOK Try.prog (sg_idxP_s g y p) := by
  intro f args ls r ls' vc h hvc
  unfold sg_idxP_s at h
  split at h
  · split at h
    · rename_i hc
      obtain ⟨rfl, rfl⟩ := hc
      simp only [Option.some.injEq, Prod.mk.injEq] at h
      obtain ⟨rfl, rfl, rfl⟩ := h
      refine ⟨hok, ?_⟩
      rename_i a xs; have := hp ⟨a, xs.map unF⟩; unfold apA at this; rw [← hvc] at this; exact this
    · cases h
  · cases h
theorem idxP_s (g : FuncId) (y : AV) (p : Fap → Bool) (l : List Fap) (hok : FnOK Try.prog g) (hT : Tr (.ep y 0) = True) (hp : ∀ x, FnS Try.prog g [apA x, .ep y 0] [] (.lit (.bool (p x))) []) : FnS Try.prog 42 [.li 2 (l.map apA), .clo g [.ep y 0]] [] (.lit (.int .i64 (fdx p l))) [] := by
  have hs := sg_idxP_s_ok g y p hok hp
  refine FnS.len fun hL _ => ?_
  have hL := hL 0 2 _ rfl
  rw [List.length_map] at hL
  simp only [maxLen] at hL
  have hcT : Tr (.clo g [.ep y 0]) = True := eq_true (Tr.clo fun x hx => by
    simp only [List.mem_cons, List.not_mem_nil, or_false] at hx
    subst hx
    exact of_eq_true hT)
  refine FnS.of Try.func42 rfl (N := 19) rfl (by simp) (by simp) fun X hX => ?_
  simp only [tmArgs, lentH, Nat.reduceAdd]
  refine WA.regionK ty_ok hs fun K hK => ?_
  simp only [go_sem, Nat.reduceAdd, Nat.reduceLT, Nat.reduceLeDiff, Nat.reduceEqDiff, Nat.reduceSub, Nat.reduceMul, Nat.reduceBEq, Nat.reduceBNe, Nat.reducePow, Nat.reduceDiv, Int.reduceLE, Int.reduceLT, Int.reduceToNat, Int.reduceNeg, Int.reduceAdd, Int.reduceSub, Int.reduceEq, reduceIte, reduceCtorEq, UInt8.reduceOfNat, true_and]
  first
  | refine hK _ ?_
  | refine And.intro (by first | omega | (simp; done) | (simp; omega) | (simp +contextual; done) | (simp_all; done) | (simp_all; omega)) (hK _ ?_)
  clear hK K
  refine WA.seq ?_
  refine WA.regionK ty_ok hs fun K hK => ?_
  simp only [go_sem, Nat.reduceAdd, Nat.reduceLT, Nat.reduceLeDiff, Nat.reduceEqDiff, Nat.reduceSub, Nat.reduceMul, Nat.reduceBEq, Nat.reduceBNe, Nat.reducePow, Nat.reduceDiv, Int.reduceLE, Int.reduceLT, Int.reduceToNat, Int.reduceNeg, Int.reduceAdd, Int.reduceSub, Int.reduceEq, reduceIte, reduceCtorEq, UInt8.reduceOfNat, true_and]
  first
  | refine hK _ ?_
  | refine And.intro (by first | omega | (simp; done) | (simp; omega) | (simp +contextual; done) | (simp_all; done) | (simp_all; omega)) (hK _ ?_)
  clear hK K
  refine WA.block ?_
  refine WA.loopW hX (fun k => k) ((fun (i : Nat) => ⟨[(0, .li 2 (l.map apA)), (1, .clo g [.ep y 0]), (7, .lit (.int .i64 (l.length : Nat))), (8, .lit (.int .i64 (i : Nat)))], [], 3000, 19⟩ : _ → St)) (fun i => l.length - i) (fun i => i ≤ l.length ∧ ∀ j (hj : j < i) (hl : j < l.length), p l[j] = false) (i0 := 0) (⟨by omega, fun j hj => by omega⟩) (by simp only [go_sem, Int.natCast_add, Nat.reduceAdd, Nat.reduceLT, Nat.reduceLeDiff, Nat.reduceEqDiff, Nat.reduceSub, Nat.reduceMul, Nat.reduceBEq, Nat.reduceBNe, Nat.reducePow, Nat.reduceDiv, Int.reduceLE, Int.reduceLT, Int.reduceToNat, Int.reduceNeg, Int.reduceAdd, Int.reduceSub, Int.reduceEq, reduceIte, reduceCtorEq, UInt8.reduceOfNat, Tr_aps, hcT] <;> (try and_intros) <;> (try omega)) fun i hi => ?_
  obtain ⟨hi, hno⟩ := hi
  refine WA.regionK ty_ok hs fun K hK => ?_
  simp only [go_sem, Nat.reduceAdd, Nat.reduceLT, Nat.reduceLeDiff, Nat.reduceEqDiff, Nat.reduceSub, Nat.reduceMul, Nat.reduceBEq, Nat.reduceBNe, Nat.reducePow, Nat.reduceDiv, Int.reduceLE, Int.reduceLT, Int.reduceToNat, Int.reduceNeg, Int.reduceAdd, Int.reduceSub, Int.reduceEq, reduceIte, reduceCtorEq, UInt8.reduceOfNat, true_and]
  first
  | refine hK _ ?_
  | refine And.intro (by first | omega | (simp; done) | (simp; omega) | (simp +contextual; done) | (simp_all; done) | (simp_all; omega)) (hK _ ?_)
  clear hK K
  refine WA.seq ?_
  refine WA.cond rfl (fun h => ?_) (fun h => ?_)
  ·
    with_reducible refine WA.skipN ?_
    repeat first | with_reducible refine WN.t ?_ | with_reducible refine WN.b ?_
    have h6 : i < l.length := by have := of_decide_eq_true h; omega
    have g1 := ap_at h6
    clear h
    refine WA.seq ?_
    refine WA.block ?_
    refine WA.regionK ty_ok hs fun K hK => ?_
    simp only [go_sem, Nat.reduceAdd, Nat.reduceLT, Nat.reduceLeDiff, Nat.reduceEqDiff, Nat.reduceSub, Nat.reduceMul, Nat.reduceBEq, Nat.reduceBNe, Nat.reducePow, Nat.reduceDiv, Int.reduceLE, Int.reduceLT, Int.reduceToNat, Int.reduceNeg, Int.reduceAdd, Int.reduceSub, Int.reduceEq, reduceIte, reduceCtorEq, UInt8.reduceOfNat, true_and]
    first
    | refine hK _ ?_
    | refine And.intro (by first | omega | (simp; done) | (simp; omega) | (simp +contextual; done) | (simp_all; done) | (simp_all; omega)) (hK _ ?_)
    clear hK K
    refine WA.regionK ty_ok hs fun K hK => ?_
    simp only [go_sem, Nat.reduceAdd, Nat.reduceLT, Nat.reduceLeDiff, Nat.reduceEqDiff, Nat.reduceSub, Nat.reduceMul, Nat.reduceBEq, Nat.reduceBNe, Nat.reducePow, Nat.reduceDiv, Int.reduceLE, Int.reduceLT, Int.reduceToNat, Int.reduceNeg, Int.reduceAdd, Int.reduceSub, Int.reduceEq, reduceIte, reduceCtorEq, UInt8.reduceOfNat, sg_idxP_s, g1, hT, Tr_aps, Tr_fls, un_fls]
    first
    | refine hK _ ?_
    | refine And.intro (by first | omega | (simp; done) | (simp; omega) | (simp +contextual; done) | (simp_all; done) | (simp_all; omega)) (hK _ ?_)
    clear hK K
    refine WA.cond rfl (fun h => ?_) (fun h => ?_)
    ·
      have e : fdx p l = i := fdx_yes h6 h (fun j hj => hno j hj (by omega))
      refine WA.regionK ty_ok hs fun K hK => ?_
      simp only [go_sem, Nat.reduceAdd, Nat.reduceLT, Nat.reduceLeDiff, Nat.reduceEqDiff, Nat.reduceSub, Nat.reduceMul, Nat.reduceBEq, Nat.reduceBNe, Nat.reducePow, Nat.reduceDiv, Int.reduceLE, Int.reduceLT, Int.reduceToNat, Int.reduceNeg, Int.reduceAdd, Int.reduceSub, Int.reduceEq, reduceIte, reduceCtorEq, UInt8.reduceOfNat, true_and]
      first
      | refine hK _ ?_
      | refine And.intro (by first | omega | (simp; done) | (simp; omega) | (simp +contextual; done) | (simp_all; done) | (simp_all; omega)) (hK _ ?_)
      clear hK K
      refine WA.retE ty_ok (xs := [.lit (.int .i64 (fdx p l))]) (ls' := []) (rv := [.tmp 4]) rfl hX (by decide) (fun _ => rfl) (fun _ _ h => h) ?_
      simp only [go_sem, Nat.reduceAdd, Nat.reduceLT, Nat.reduceLeDiff, Nat.reduceEqDiff, Nat.reduceSub, Nat.reduceMul, Nat.reduceBEq, Nat.reduceBNe, Nat.reducePow, Nat.reduceDiv, Int.reduceLE, Int.reduceLT, Int.reduceToNat, Int.reduceNeg, Int.reduceAdd, Int.reduceSub, Int.reduceEq, reduceIte, reduceCtorEq, UInt8.reduceOfNat, sbT, e]
    ·
      with_reducible refine WA.skipN ?_
      repeat first | with_reducible refine WN.t ?_ | with_reducible refine WN.b ?_
      refine WA.regionE ty_ok hs fun K hK => ?_
      simp only [go_sem, Nat.reduceAdd, Nat.reduceLT, Nat.reduceLeDiff, Nat.reduceEqDiff, Nat.reduceSub, Nat.reduceMul, Nat.reduceBEq, Nat.reduceBNe, Nat.reducePow, Nat.reduceDiv, Int.reduceLE, Int.reduceLT, Int.reduceToNat, Int.reduceNeg, Int.reduceAdd, Int.reduceSub, Int.reduceEq, reduceIte, reduceCtorEq, UInt8.reduceOfNat, true_and]
      and_intros
      all_goals try omega
      refine hK _ (roundE hX (fun k => k) (j := i + 1) (⟨by omega, fun j hj hl => by rcases Nat.lt_succ_iff_lt_or_eq.1 hj with q | rfl; exact hno j q hl; exact h⟩) (by first | omega | (dsimp only; omega) | (simp; omega)) (by simp only [go_sem, Int.natCast_add, Nat.reduceAdd, Nat.reduceLT, Nat.reduceLeDiff, Nat.reduceEqDiff, Nat.reduceSub, Nat.reduceMul, Nat.reduceBEq, Nat.reduceBNe, Nat.reducePow, Nat.reduceDiv, Int.reduceLE, Int.reduceLT, Int.reduceToNat, Int.reduceNeg, Int.reduceAdd, Int.reduceSub, Int.reduceEq, reduceIte, reduceCtorEq, UInt8.reduceOfNat, Tr_aps, hcT] <;> (try and_intros) <;> (try omega)))
  ·
    have h6 : i = l.length := by have := of_decide_eq_false h; omega
    subst h6
    have e : fdx p l = -1 := fdx_no fun j hj => hno j hj hj
    with_reducible refine WA.exitX ?_
    repeat first | with_reducible refine WX.b ?_ | with_reducible refine WX.t ?_ | (with_reducible refine WX.n ?hne ?_; case hne => rfl)
    refine WA.regionK ty_ok hs fun K hK => ?_
    simp only [go_sem, Nat.reduceAdd, Nat.reduceLT, Nat.reduceLeDiff, Nat.reduceEqDiff, Nat.reduceSub, Nat.reduceMul, Nat.reduceBEq, Nat.reduceBNe, Nat.reducePow, Nat.reduceDiv, Int.reduceLE, Int.reduceLT, Int.reduceToNat, Int.reduceNeg, Int.reduceAdd, Int.reduceSub, Int.reduceEq, reduceIte, reduceCtorEq, UInt8.reduceOfNat, true_and]
    first
    | refine hK _ ?_
    | refine And.intro (by first | omega | (simp; done) | (simp; omega) | (simp +contextual; done) | (simp_all; done) | (simp_all; omega)) (hK _ ?_)
    clear hK K
    refine WA.retE ty_ok (xs := [.lit (.int .i64 (fdx p l))]) (ls' := []) (rv := [.tmp 4]) rfl hX (by decide) (fun _ => rfl) (fun _ _ h => h) ?_
    simp only [go_sem, Nat.reduceAdd, Nat.reduceLT, Nat.reduceLeDiff, Nat.reduceEqDiff, Nat.reduceSub, Nat.reduceMul, Nat.reduceBEq, Nat.reduceBNe, Nat.reducePow, Nat.reduceDiv, Int.reduceLE, Int.reduceLT, Int.reduceToNat, Int.reduceNeg, Int.reduceAdd, Int.reduceSub, Int.reduceEq, reduceIte, reduceCtorEq, UInt8.reduceOfNat, sbT, e]

open Classical in
noncomputable def sg_ctxF_s (g : FuncId) (y : AV) (p : Fl → Bool) : Sg := fun f args ls =>
  match f, args, ls with
  | 48, [.li es xs, .clo g' [.ep y' 0]], [] => if g' = g ∧ y' = y then some (.lit (.int .i64 (fdx p (xs.map unF))), [], es = 5 ∧ xs = (xs.map unF).map flA) else none
  | _, _, _ => none
theorem ctxF_s (g : FuncId) (y : AV) (p : Fl → Bool) (l : List Fl) (hok : FnOK Try.prog g) (hT : Tr (.ep y 0) = True) (hp : ∀ x, FnS Try.prog g [flA x, .ep y 0] [] (.lit (.bool (p x))) []) : FnS Try.prog 54 [.li 5 (l.map flA), .clo g [.ep y 0]] [] (.lit (.bool (l.any p))) [] := by
  have hs : SgOK Try.prog (sg_ctxF_s g y p) := by
    intro f args ls r ls' vc h hvc
    unfold sg_ctxF_s at h
    split at h
    · split at h
      · rename_i hc
        obtain ⟨rfl, rfl⟩ := hc
        simp only [Option.some.injEq, Prod.mk.injEq] at h
        obtain ⟨rfl, rfl, rfl⟩ := h
        rename_i es xs g' y'
        obtain ⟨rfl, h2⟩ := hvc
        refine ⟨(fnOK Try.func48 (by decide) rfl), ?_⟩
        have := idxF_s g' y' p (xs.map unF) hok hT hp
        rw [← h2] at this
        exact this
      · cases h
    · cases h
  have hcT : Tr (.clo g [.ep y 0]) = True := eq_true (Tr.clo fun x hx => by
    simp only [List.mem_cons, List.not_mem_nil, or_false] at hx
    subst hx
    exact of_eq_true hT)
  have e := fdx_any p l
  refine FnS.of Try.func54 rfl (N := 9) rfl (by simp) (by simp) fun X hX => ?_
  simp only [tmArgs, lentH, Nat.reduceAdd]
  refine WA.regionK ty_ok hs fun K hK => ?_
  simp only [go_sem, Nat.reduceAdd, Nat.reduceLT, Nat.reduceLeDiff, Nat.reduceEqDiff, Nat.reduceSub, Nat.reduceMul, Nat.reduceBEq, Nat.reduceBNe, Nat.reducePow, Nat.reduceDiv, Int.reduceLE, Int.reduceLT, Int.reduceToNat, Int.reduceNeg, Int.reduceAdd, Int.reduceSub, Int.reduceEq, reduceIte, reduceCtorEq, UInt8.reduceOfNat, true_and]
  first
  | refine hK _ ?_
  | refine And.intro (by first | omega | (simp; done) | (simp; omega) | (simp +contextual; done) | (simp_all; done) | (simp_all; omega)) (hK _ ?_)
  clear hK K
  refine WA.regionK ty_ok hs fun K hK => ?_
  simp only [go_sem, Nat.reduceAdd, Nat.reduceLT, Nat.reduceLeDiff, Nat.reduceEqDiff, Nat.reduceSub, Nat.reduceMul, Nat.reduceBEq, Nat.reduceBNe, Nat.reducePow, Nat.reduceDiv, Int.reduceLE, Int.reduceLT, Int.reduceToNat, Int.reduceNeg, Int.reduceAdd, Int.reduceSub, Int.reduceEq, reduceIte, reduceCtorEq, UInt8.reduceOfNat, sg_ctxF_s, Tr_fls, hcT, hT, un_fls]
  first
  | refine hK _ ?_
  | refine And.intro (by first | omega | (simp; done) | (simp; omega) | (simp +contextual; done) | (simp_all; done) | (simp_all; omega)) (hK _ ?_)
  clear hK K
  refine WA.retE ty_ok (xs := [.lit (.bool (l.any p))]) (ls' := []) (rv := [.tmp 4]) rfl hX (by decide) (fun _ => rfl) (fun _ _ h => h) ?_
  simp only [go_sem, Nat.reduceAdd, Nat.reduceLT, Nat.reduceLeDiff, Nat.reduceEqDiff, Nat.reduceSub, Nat.reduceMul, Nat.reduceBEq, Nat.reduceBNe, Nat.reducePow, Nat.reduceDiv, Int.reduceLE, Int.reduceLT, Int.reduceToNat, Int.reduceNeg, Int.reduceAdd, Int.reduceSub, Int.reduceEq, reduceIte, reduceCtorEq, UInt8.reduceOfNat, sbT, e]

open Classical in
noncomputable def sg_ctxP_s (g : FuncId) (y : AV) (p : Fap → Bool) : Sg := fun f args ls =>
  match f, args, ls with
  | 42, [.li es xs, .clo g' [.ep y' 0]], [] => if g' = g ∧ y' = y then some (.lit (.int .i64 (fdx p (xs.map unP))), [], es = 2 ∧ xs = (xs.map unP).map apA) else none
  | _, _, _ => none
theorem ctxP_s (g : FuncId) (y : AV) (p : Fap → Bool) (l : List Fap) (hok : FnOK Try.prog g) (hT : Tr (.ep y 0) = True) (hp : ∀ x, FnS Try.prog g [apA x, .ep y 0] [] (.lit (.bool (p x))) []) : FnS Try.prog 50 [.li 2 (l.map apA), .clo g [.ep y 0]] [] (.lit (.bool (l.any p))) [] := by
  have hs : SgOK Try.prog (sg_ctxP_s g y p) := by
    intro f args ls r ls' vc h hvc
    unfold sg_ctxP_s at h
    split at h
    · split at h
      · rename_i hc
        obtain ⟨rfl, rfl⟩ := hc
        simp only [Option.some.injEq, Prod.mk.injEq] at h
        obtain ⟨rfl, rfl, rfl⟩ := h
        rename_i es xs g' y'
        obtain ⟨rfl, h2⟩ := hvc
        refine ⟨(fnOK Try.func42 (by decide) rfl), ?_⟩
        have := idxP_s g' y' p (xs.map unP) hok hT hp
        rw [← h2] at this
        exact this
      · cases h
    · cases h
  have hcT : Tr (.clo g [.ep y 0]) = True := eq_true (Tr.clo fun x hx => by
    simp only [List.mem_cons, List.not_mem_nil, or_false] at hx
    subst hx
    exact of_eq_true hT)
  have e := fdx_any p l
  refine FnS.of Try.func50 rfl (N := 9) rfl (by simp) (by simp) fun X hX => ?_
  simp only [tmArgs, lentH, Nat.reduceAdd]
  refine WA.regionK ty_ok hs fun K hK => ?_
  simp only [go_sem, Nat.reduceAdd, Nat.reduceLT, Nat.reduceLeDiff, Nat.reduceEqDiff, Nat.reduceSub, Nat.reduceMul, Nat.reduceBEq, Nat.reduceBNe, Nat.reducePow, Nat.reduceDiv, Int.reduceLE, Int.reduceLT, Int.reduceToNat, Int.reduceNeg, Int.reduceAdd, Int.reduceSub, Int.reduceEq, reduceIte, reduceCtorEq, UInt8.reduceOfNat, true_and]
  first
  | refine hK _ ?_
  | refine And.intro (by first | omega | (simp; done) | (simp; omega) | (simp +contextual; done) | (simp_all; done) | (simp_all; omega)) (hK _ ?_)
  clear hK K
  refine WA.regionK ty_ok hs fun K hK => ?_
  simp only [go_sem, Nat.reduceAdd, Nat.reduceLT, Nat.reduceLeDiff, Nat.reduceEqDiff, Nat.reduceSub, Nat.reduceMul, Nat.reduceBEq, Nat.reduceBNe, Nat.reducePow, Nat.reduceDiv, Int.reduceLE, Int.reduceLT, Int.reduceToNat, Int.reduceNeg, Int.reduceAdd, Int.reduceSub, Int.reduceEq, reduceIte, reduceCtorEq, UInt8.reduceOfNat, sg_ctxP_s, Tr_aps, hcT, hT, un_aps]
  first
  | refine hK _ ?_
  | refine And.intro (by first | omega | (simp; done) | (simp; omega) | (simp +contextual; done) | (simp_all; done) | (simp_all; omega)) (hK _ ?_)
  clear hK K
  refine WA.retE ty_ok (xs := [.lit (.bool (l.any p))]) (ls' := []) (rv := [.tmp 4]) rfl hX (by decide) (fun _ => rfl) (fun _ _ h => h) ?_
  simp only [go_sem, Nat.reduceAdd, Nat.reduceLT, Nat.reduceLeDiff, Nat.reduceEqDiff, Nat.reduceSub, Nat.reduceMul, Nat.reduceBEq, Nat.reduceBNe, Nat.reducePow, Nat.reduceDiv, Int.reduceLE, Int.reduceLT, Int.reduceToNat, Int.reduceNeg, Int.reduceAdd, Int.reduceSub, Int.reduceEq, reduceIte, reduceCtorEq, UInt8.reduceOfNat, sbT, e]
end Go.Proofs.Ytnjmedihheblaaa
