import Derived.Test.YtloihfflblgioaaBiH
namespace Go.Proofs.Ytloihfflblgioaa
open Go.RowKit Go.TravelBase Go.TravelAbs
set_option linter.unusedVariables false
set_option linter.unusedSimpArgs false

















/-! ### Reading templates -/
mutual
def okN : Nd → Prop
  | .mk _ v k => (v.length ≤ 140737488351232 ∧ k.length ≤ 140737488351232) ∧ okNs k
def okNs : List Nd → Prop
  | [] => True
  | x :: l => okN x ∧ okNs l
end
theorem okNs_mem : ∀ {l : List Nd}, okNs l → ∀ x ∈ l, okN x
  | [], _, x, hx => by cases hx
  | y :: l, h, x, hx => by
    rw [okNs] at h
    rcases List.mem_cons.1 hx with rfl | hx
    · exact h.1
    · exact okNs_mem h.2 x hx
theorem okN_of {n : Nd} (h : okN n) : (n.val.length ≤ 140737488351232 ∧ n.kids.length ≤ 140737488351232) ∧ okNs n.kids := by
  cases n
  rw [okN] at h
  exact h
theorem okN_sec {x : Nd} (h : okN x) : (secT x).val.length ≤ 140737488355328 := by
  have h1 := okNs_mem (okN_of h).2
  unfold secT
  match hq : x.kids with
  | [] => simp [nd0, Nd.val]
  | [a] => simp [nd0, Nd.val]
  | a :: b :: r =>
    have := (okN_of (h1 b (by rw [hq]; simp))).1.1
    show b.val.length ≤ _
    omega
/-- The objects of a group, and whether its head has the form. -/
def grpN (l : List Nd) : Nd := l.headD nd0
def numN (l : List Nd) : Nd := (grpN l).kids.headD nd0
def objL (l : List Nd) : List Nd := (grpN l).kids.drop 1
def hedB (l : List Nd) : Bool := l.length == 1 && isB (grpN l).tag (grpN l).val.length (grpN l).kids.length 32609 && !((grpN l).kids.length == 0) && isB (numN l).tag (numN l).val.length (numN l).kids.length 2 && (numN l).val.length == 1 && (((numN l).val.getD 0 0).toNat : Int) == (objL l).length
def decE (l : List Nd) : Int := if hedB l = false then 1 else if (objL l).all tmpB = false then 1 else encE ((objL l).map tmpT)
def decV (l : List Nd) : List Tm := if decE l = 0 then (objL l).map tmpT else []
def sgDe : Sg := fun f args ls =>
  match f, args, ls with
  | 32, [.agg [.lit (.int .i64 x), .by_ v, .li 3 xs], .lit (.int .i64 tag)], [] => some (.lit (.bool (isB x v.length xs.length tag)), [], True)
  | 32, [.agg [.any], .lit (.int .i64 tag)], [] => some (.lit (.bool false), [], False)
  | 33, [.agg [.lit (.int .i64 t), .by_ v, .li 3 xs]], [] => some (.tup [.agg [.lit (.int .i64 (tmpT (.mk t v (unNs xs))).kind), .lit (.int .i64 (tmpT (.mk t v (unNs xs))).part), .lit (.int .i64 (tmpT (.mk t v (unNs xs))).fr), .lit (.int .i64 (tmpT (.mk t v (unNs xs))).to), .lit (.int .i64 (tmpT (.mk t v (unNs xs))).fmt), .lit (.int .i64 (tmpT (.mk t v (unNs xs))).q), .by_ (tmpT (.mk t v (unNs xs))).data], .lit (.bool (tmpB (.mk t v (unNs xs))))], [], xs = ndsA (unNs xs) ∧ (secT (.mk t v (unNs xs))).val.length ≤ 140737488355328)
  | 27, [.li 7 xs], [] => some (.lit (.int .i64 (encE (xs.map unT))), [], xs = (xs.map unT).map tmA)
  | _, _, _ => none
theorem sgDe_ok : SgOK Try.prog sgDe := by
  intro f args ls r ls' vc h hvc
  unfold sgDe at h
  split at h <;> first | (simp only [Option.some.injEq, Prod.mk.injEq] at h; obtain ⟨rfl, rfl, rfl⟩ := h) | cases h
  · exact ⟨(fnOK Try.func32 (by decide) rfl), is_s _ _ _ _⟩
  · exact hvc.elim
  · rename_i t v xs
    refine ⟨(fnOK Try.func33 (by decide) rfl), ?_⟩
    have := template_s (.mk t v (unNs xs)) hvc.2
    simp only [Nd.tag, Nd.val, Nd.kids] at this
    rw [← hvc.1] at this
    exact this
  · rename_i xs
    refine ⟨(fnOK Try.func27 (by decide) rfl), ?_⟩
    have := check_s (xs.map unT)
    rw [← hvc] at this
    exact this
theorem nd_eta (n : Nd) : Nd.mk n.tag n.val n.kids = n := by cases n; rfl
theorem TrC_tms (l : List Tm) : TrC (.li 7 (l.map tmA)) = True := eq_true (TrC.li fun x hx y hy => by
  obtain ⟨f, _, rfl⟩ := List.mem_map.1 hx
  simp only [tmA, AV.cl, List.mem_cons, List.not_mem_nil, or_false] at hy
  rcases hy with rfl | rfl | rfl | rfl | rfl | rfl | rfl <;> first | exact Tr.lit _ | exact Tr.by_ _)
theorem decode_s (l : List Nd) (hl : okNs l) : FnS Try.prog 12 [.li 3 (ndsA l)] [] (.tup [.li 7 ((decV l).map tmA), .lit (.int .i64 (decE l))]) [] := by
  have hs := sgDe_ok
  match l, hl with
  | [], _ =>
    have hh : hedB [] = false := rfl
    have e01 : ((0 : Int) != 1) = true := rfl
    refine FnS.of Try.func12 rfl (N := 84) rfl (by simp) (by simp) fun X hX => ?_
    simp only [tmArgs, lentH, Nat.reduceAdd]
    refine WA.regionK ty_ok hs fun K hK => ?_
    simp only [go_sem, Nat.reduceAdd, Nat.reduceLT, Nat.reduceLeDiff, Nat.reduceEqDiff, Nat.reduceSub, Nat.reduceMul, Nat.reduceBEq, Nat.reduceBNe, Nat.reducePow, Nat.reduceDiv, Int.reduceLE, Int.reduceLT, Int.reduceToNat, Int.reduceNeg, Int.reduceAdd, Int.reduceSub, Int.reduceEq, reduceIte, reduceCtorEq, UInt8.reduceOfNat, true_and]
    repeat refine And.intro (by first | omega | assumption | (simp; done) | (simp; omega) | (simp +contextual; done) | (simp_all; done) | (simp_all; omega)) ?_
    refine hK _ ?_
    clear hK K
    refine WA.seq ?_
    refine WA.regionK ty_ok hs fun K hK => ?_
    simp only [go_sem, Nat.reduceAdd, Nat.reduceLT, Nat.reduceLeDiff, Nat.reduceEqDiff, Nat.reduceSub, Nat.reduceMul, Nat.reduceBEq, Nat.reduceBNe, Nat.reducePow, Nat.reduceDiv, Int.reduceLE, Int.reduceLT, Int.reduceToNat, Int.reduceNeg, Int.reduceAdd, Int.reduceSub, Int.reduceEq, reduceIte, reduceCtorEq, UInt8.reduceOfNat, sgDe, ndsA, e01, Bool.cond_self, List.getD_nil, List.take_succ_cons, List.take_zero, List.take_nil, Bool.not_true, false_implies, reduceCtorEq]
    repeat refine And.intro (by first | omega | assumption | (simp; done) | (simp; omega) | (simp +contextual; done) | (simp_all; done) | (simp_all; omega)) ?_
    refine hK _ ?_
    clear hK K
    refine WA.cond rfl (fun h => ?_) (fun h => ?_)
    · have e1 : decE [] = 1 := if_pos hh
      have e2 : decV [] = [] := if_neg (by rw [e1]; decide)
      rw [e1, e2]
      refine WA.regionK ty_ok hs fun K hK => ?_
      simp only [go_sem, Nat.reduceAdd, Nat.reduceLT, Nat.reduceLeDiff, Nat.reduceEqDiff, Nat.reduceSub, Nat.reduceMul, Nat.reduceBEq, Nat.reduceBNe, Nat.reducePow, Nat.reduceDiv, Int.reduceLE, Int.reduceLT, Int.reduceToNat, Int.reduceNeg, Int.reduceAdd, Int.reduceSub, Int.reduceEq, reduceIte, reduceCtorEq, UInt8.reduceOfNat, true_and]
      repeat refine And.intro (by first | omega | assumption | (simp; done) | (simp; omega) | (simp +contextual; done) | (simp_all; done) | (simp_all; omega)) ?_
      refine hK _ ?_
      clear hK K
      refine WA.retE ty_ok (xs := [.li 7 [], .lit (.int .i64 1)]) (ls' := []) (rv := [.tmp 2, .tmp 3]) rfl hX (by decide) (fun _ => rfl) (fun _ _ h => h) ?_
      simp only [go_sem, Nat.reduceAdd, Nat.reduceLT, Nat.reduceLeDiff, Nat.reduceEqDiff, Nat.reduceSub, Nat.reduceMul, Nat.reduceBEq, Nat.reduceBNe, Nat.reducePow, Nat.reduceDiv, Int.reduceLE, Int.reduceLT, Int.reduceToNat, Int.reduceNeg, Int.reduceAdd, Int.reduceSub, Int.reduceEq, reduceIte, reduceCtorEq, UInt8.reduceOfNat, sbT, List.map_nil]
      all_goals (first | done | exact Nat.le_refl _ | (simp; done) | (and_intros <;> first | omega | exact Nat.le_refl _ | (simp; done) | (simp; omega)))
    · cases h
  | a :: b :: r, _ =>
    have hh : hedB (a :: b :: r) = false := by simp [hedB]
    have hT2 := Tr_nds (a :: b :: r)
    simp only [ndsA, ndA_eq] at hT2
    have e01 : (((r.length + 1 + 1 : Nat) : Int) != 1) = true := bne_iff_ne.2 (by omega)
    refine FnS.of Try.func12 rfl (N := 84) rfl (by simp) (by simp) fun X hX => ?_
    simp only [tmArgs, lentH, Nat.reduceAdd]
    refine WA.regionK ty_ok hs fun K hK => ?_
    simp only [go_sem, Nat.reduceAdd, Nat.reduceLT, Nat.reduceLeDiff, Nat.reduceEqDiff, Nat.reduceSub, Nat.reduceMul, Nat.reduceBEq, Nat.reduceBNe, Nat.reducePow, Nat.reduceDiv, Int.reduceLE, Int.reduceLT, Int.reduceToNat, Int.reduceNeg, Int.reduceAdd, Int.reduceSub, Int.reduceEq, reduceIte, reduceCtorEq, UInt8.reduceOfNat, true_and]
    repeat refine And.intro (by first | omega | assumption | (simp; done) | (simp; omega) | (simp +contextual; done) | (simp_all; done) | (simp_all; omega)) ?_
    refine hK _ ?_
    clear hK K
    refine WA.seq ?_
    refine WA.regionK ty_ok hs fun K hK => ?_
    simp only [go_sem, Nat.reduceAdd, Nat.reduceLT, Nat.reduceLeDiff, Nat.reduceEqDiff, Nat.reduceSub, Nat.reduceMul, Nat.reduceBEq, Nat.reduceBNe, Nat.reducePow, Nat.reduceDiv, Int.reduceLE, Int.reduceLT, Int.reduceToNat, Int.reduceNeg, Int.reduceAdd, Int.reduceSub, Int.reduceEq, reduceIte, reduceCtorEq, UInt8.reduceOfNat, sgDe, ndsA, ndA_eq, e01, hT2, nds_len, Tr_nds, Bool.cond_self, Bool.not_true, false_implies, reduceCtorEq]
    repeat refine And.intro (by first | omega | assumption | (simp; done) | (simp; omega) | (simp +contextual; done) | (simp_all; done) | (simp_all; omega)) ?_
    refine hK _ ?_
    clear hK K
    refine WA.cond rfl (fun h => ?_) (fun h => ?_)
    · have e1 : decE (a :: b :: r) = 1 := if_pos hh
      have e2 : decV (a :: b :: r) = [] := if_neg (by rw [e1]; decide)
      rw [e1, e2]
      refine WA.regionK ty_ok hs fun K hK => ?_
      simp only [go_sem, Nat.reduceAdd, Nat.reduceLT, Nat.reduceLeDiff, Nat.reduceEqDiff, Nat.reduceSub, Nat.reduceMul, Nat.reduceBEq, Nat.reduceBNe, Nat.reducePow, Nat.reduceDiv, Int.reduceLE, Int.reduceLT, Int.reduceToNat, Int.reduceNeg, Int.reduceAdd, Int.reduceSub, Int.reduceEq, reduceIte, reduceCtorEq, UInt8.reduceOfNat, true_and]
      repeat refine And.intro (by first | omega | assumption | (simp; done) | (simp; omega) | (simp +contextual; done) | (simp_all; done) | (simp_all; omega)) ?_
      refine hK _ ?_
      clear hK K
      refine WA.retE ty_ok (xs := [.li 7 [], .lit (.int .i64 1)]) (ls' := []) (rv := [.tmp 2, .tmp 3]) rfl hX (by decide) (fun _ => rfl) (fun _ _ h => h) ?_
      simp only [go_sem, Nat.reduceAdd, Nat.reduceLT, Nat.reduceLeDiff, Nat.reduceEqDiff, Nat.reduceSub, Nat.reduceMul, Nat.reduceBEq, Nat.reduceBNe, Nat.reducePow, Nat.reduceDiv, Int.reduceLE, Int.reduceLT, Int.reduceToNat, Int.reduceNeg, Int.reduceAdd, Int.reduceSub, Int.reduceEq, reduceIte, reduceCtorEq, UInt8.reduceOfNat, sbT, List.map_nil]
      all_goals (first | done | exact Nat.le_refl _ | (simp; done) | (and_intros <;> first | omega | exact Nat.le_refl _ | (simp; done) | (simp; omega)))
    · cases h
  | [x], hl =>
    have hx : okN x := by rw [okNs] at hl; exact hl.1
    have eX : ndsA [x] = [.agg [.lit (.int .i64 x.tag), .by_ x.val, .li 3 (ndsA x.kids)]] := by simp only [ndsA, ndA_eq]
    have hT := Tr_nds [x]
    rw [eX] at hT
    have e11 : ((1 : Int) != 1) = false := rfl
    obtain ⟨p1, h1⟩ : ∃ p, isB x.tag x.val.length x.kids.length 32609 = p := ⟨_, rfl⟩
    rw [eX]
    refine FnS.of Try.func12 rfl (N := 84) rfl (by simp) (by simp) fun X hX => ?_
    simp only [tmArgs, lentH, Nat.reduceAdd]
    refine WA.regionK ty_ok hs fun K hK => ?_
    simp only [go_sem, Nat.reduceAdd, Nat.reduceLT, Nat.reduceLeDiff, Nat.reduceEqDiff, Nat.reduceSub, Nat.reduceMul, Nat.reduceBEq, Nat.reduceBNe, Nat.reducePow, Nat.reduceDiv, Int.reduceLE, Int.reduceLT, Int.reduceToNat, Int.reduceNeg, Int.reduceAdd, Int.reduceSub, Int.reduceEq, reduceIte, reduceCtorEq, UInt8.reduceOfNat, true_and]
    repeat refine And.intro (by first | omega | assumption | (simp; done) | (simp; omega) | (simp +contextual; done) | (simp_all; done) | (simp_all; omega)) ?_
    refine hK _ ?_
    clear hK K
    refine WA.seq ?_
    refine WA.regionK ty_ok hs fun K hK => ?_
    simp only [go_sem, Nat.reduceAdd, Nat.reduceLT, Nat.reduceLeDiff, Nat.reduceEqDiff, Nat.reduceSub, Nat.reduceMul, Nat.reduceBEq, Nat.reduceBNe, Nat.reducePow, Nat.reduceDiv, Int.reduceLE, Int.reduceLT, Int.reduceToNat, Int.reduceNeg, Int.reduceAdd, Int.reduceSub, Int.reduceEq, reduceIte, reduceCtorEq, UInt8.reduceOfNat, sgDe, h1, e11, hT, nds_len, Tr_nds, Bool.cond_self, Bool.not_true, false_implies, reduceCtorEq]
    try refine And.intro (by cases p1 <;> simp) ?_
    refine hK _ ?_
    clear hK K
    refine WA.cond rfl (fun h => ?_) (fun h => ?_)
    ·
      have hh : hedB [x] = false := by
        unfold hedB grpN
        simp only [List.length_cons, List.length_nil, List.headD_cons, h1]
        cases p1 with
        | false => rfl
        | true =>
          have h : (x.kids.length : Int) = 0 := by simpa using h
          have h : x.kids.length = 0 := by omega
          simp [h]
      have e1 : decE [x] = 1 := if_pos hh
      have e2 : decV [x] = [] := if_neg (by rw [e1]; decide)
      rw [e1, e2]
      refine WA.regionK ty_ok hs fun K hK => ?_
      simp only [go_sem, Nat.reduceAdd, Nat.reduceLT, Nat.reduceLeDiff, Nat.reduceEqDiff, Nat.reduceSub, Nat.reduceMul, Nat.reduceBEq, Nat.reduceBNe, Nat.reducePow, Nat.reduceDiv, Int.reduceLE, Int.reduceLT, Int.reduceToNat, Int.reduceNeg, Int.reduceAdd, Int.reduceSub, Int.reduceEq, reduceIte, reduceCtorEq, UInt8.reduceOfNat, true_and]
      repeat refine And.intro (by first | omega | assumption | (simp; done) | (simp; omega) | (simp +contextual; done) | (simp_all; done) | (simp_all; omega)) ?_
      refine hK _ ?_
      clear hK K
      refine WA.retE ty_ok (xs := [.li 7 [], .lit (.int .i64 1)]) (ls' := []) (rv := [.tmp 2, .tmp 3]) rfl hX (by decide) (fun _ => rfl) (fun _ _ h => h) ?_
      simp only [go_sem, Nat.reduceAdd, Nat.reduceLT, Nat.reduceLeDiff, Nat.reduceEqDiff, Nat.reduceSub, Nat.reduceMul, Nat.reduceBEq, Nat.reduceBNe, Nat.reducePow, Nat.reduceDiv, Int.reduceLE, Int.reduceLT, Int.reduceToNat, Int.reduceNeg, Int.reduceAdd, Int.reduceSub, Int.reduceEq, reduceIte, reduceCtorEq, UInt8.reduceOfNat, sbT, List.map_nil]
      all_goals (first | done | exact Nat.le_refl _ | (simp; done) | (and_intros <;> first | omega | exact Nat.le_refl _ | (simp; done) | (simp; omega)))
    ·
      have hp : p1 = true := by revert h; cases p1 <;> simp
      have hk : ¬ x.kids.length = 0 := by
        subst hp
        intro q
        rw [q] at h
        simp at h
      subst hp
      clear h
      obtain ⟨n, ks, hq⟩ : ∃ n ks, x.kids = n :: ks := by
        match hq : x.kids, hk with
        | n :: ks, _ => exact ⟨n, ks, rfl⟩
      have eK : ndsA x.kids = .agg [.lit (.int .i64 n.tag), .by_ n.val, .li 3 (ndsA n.kids)] :: ndsA ks := by rw [hq]; simp only [ndsA, ndA_eq]
      have hT3 := Tr_nds x.kids
      rw [eK] at hT3
      have e9 : ks.length + 1 - 1 = ks.length := by omega
      have e8 : List.take ks.length (ndsA ks) = ndsA ks := List.take_of_length_le (by rw [nds_len]; omega)
      with_reducible refine WA.skipN ?_
      repeat first | with_reducible refine WN.t ?_ | with_reducible refine WN.b ?_
      refine WA.drawnH mixed_ ty_ok hs (tbl := [[], [0], [0, 1], [0, 1, 2], [0, 1, 2, 3], [0, 1, 2, 3, 4], [], [6], [6, 7], [6, 7, 8], [6, 7, 8, 9], [], [0, 1, 2, 3, 4, 5, 11], [0, 1, 2, 3, 4, 5, 6, 7, 8, 9, 10, 11, 12]]) (nb := [3, 5, 9, 12]) (hk := [[], [], [], [], [], [], [2248], [2248], [2248], [2248], [2248], [], [], []]) (by kernel_rfl) fun K hK => ?_
      simp only [go_sem, Nat.reduceAdd, Nat.reduceLT, Nat.reduceLeDiff, Nat.reduceEqDiff, Nat.reduceSub, Nat.reduceMul, Nat.reduceBEq, Nat.reduceBNe, Nat.reducePow, Nat.reduceDiv, Int.reduceLE, Int.reduceLT, Int.reduceToNat, Int.reduceNeg, Int.reduceAdd, Int.reduceSub, Int.reduceEq, reduceIte, reduceCtorEq, UInt8.reduceOfNat, eK, hT3, nds_len, Tr_nds, e8, e9]
      repeat refine And.intro (by first | omega | assumption | (simp; done) | (simp; omega) | (simp +contextual; done) | (simp_all; done) | (simp_all; omega)) ?_
      refine hK _ ?_
      clear hK K
      obtain ⟨p2, h2⟩ : ∃ p, isB n.tag n.val.length n.kids.length 2 = p := ⟨_, rfl⟩
      have h1' := h1
      rw [hq, List.length_cons] at h1'
      have hH : hedB [x] = (p2 && (n.val.length == 1) && ((n.val.getD 0 0).toNat : Int) == ks.length) := by
        unfold hedB objL numN grpN
        simp only [List.length_cons, List.length_nil, List.headD_cons, h1', hq, h2, List.drop_succ_cons, List.drop_zero]
        simp
      refine WA.seq ?_
      refine WA.regionK ty_ok hs fun K hK => ?_
      simp only [go_sem, Nat.reduceAdd, Nat.reduceLT, Nat.reduceLeDiff, Nat.reduceEqDiff, Nat.reduceSub, Nat.reduceMul, Nat.reduceBEq, Nat.reduceBNe, Nat.reducePow, Nat.reduceDiv, Int.reduceLE, Int.reduceLT, Int.reduceToNat, Int.reduceNeg, Int.reduceAdd, Int.reduceSub, Int.reduceEq, reduceIte, reduceCtorEq, UInt8.reduceOfNat, sgDe, h2, nds_len, Tr_nds, Bool.not_true, false_implies, reduceCtorEq]
      refine And.intro (by cases p2 <;> simp <;> omega) ?_
      refine hK _ ?_
      clear hK K
      refine WA.cond rfl (fun h => ?_) (fun h => ?_)
      ·
        have hh : hedB [x] = false := by
          rw [hH]
          cases p2 with
          | false => rfl
          | true =>
            by_cases hv : n.val.length = 1
            · rw [hv] at h ⊢
              simpa using h
            · simp [hv]
        have e1 : decE [x] = 1 := if_pos hh
        have e2 : decV [x] = [] := if_neg (by rw [e1]; decide)
        rw [e1, e2]
        refine WA.regionK ty_ok hs fun K hK => ?_
        simp only [go_sem, Nat.reduceAdd, Nat.reduceLT, Nat.reduceLeDiff, Nat.reduceEqDiff, Nat.reduceSub, Nat.reduceMul, Nat.reduceBEq, Nat.reduceBNe, Nat.reducePow, Nat.reduceDiv, Int.reduceLE, Int.reduceLT, Int.reduceToNat, Int.reduceNeg, Int.reduceAdd, Int.reduceSub, Int.reduceEq, reduceIte, reduceCtorEq, UInt8.reduceOfNat, true_and]
        repeat refine And.intro (by first | omega | assumption | (simp; done) | (simp; omega) | (simp +contextual; done) | (simp_all; done) | (simp_all; omega)) ?_
        refine hK _ ?_
        clear hK K
        refine WA.retE ty_ok (xs := [.li 7 [], .lit (.int .i64 1)]) (ls' := []) (rv := [.tmp 2, .tmp 3]) rfl hX (by decide) (fun _ => rfl) (fun _ _ h => h) ?_
        simp only [go_sem, Nat.reduceAdd, Nat.reduceLT, Nat.reduceLeDiff, Nat.reduceEqDiff, Nat.reduceSub, Nat.reduceMul, Nat.reduceBEq, Nat.reduceBNe, Nat.reducePow, Nat.reduceDiv, Int.reduceLE, Int.reduceLT, Int.reduceToNat, Int.reduceNeg, Int.reduceAdd, Int.reduceSub, Int.reduceEq, reduceIte, reduceCtorEq, UInt8.reduceOfNat, sbT, List.map_nil]
        all_goals (first | done | exact Nat.le_refl _ | (simp; done) | (and_intros <;> first | omega | exact Nat.le_refl _ | (simp; done) | (simp; omega)))
      ·
        have hh : hedB [x] = true := by
          rw [hH]
          cases p2 with
          | false => simp at h
          | true =>
            by_cases hv : n.val.length = 1
            · rw [hv] at h ⊢
              simpa using h
            · have hv2 : ((n.val.length : Int) != 1) = true := bne_iff_ne.2 (by omega)
              rw [hv2] at h
              simp at h
        have hO : objL [x] = ks := by unfold objL grpN; rw [List.headD_cons, hq]; rfl
        have eD : decE [x] = if ks.all tmpB = false then 1 else encE (ks.map tmpT) := by
          unfold decE
          rw [if_neg (by simp [hh]), hO]
        clear h
        have hkz : ∀ i (hi : i < ks.length), (secT ks[i]).val.length ≤ 140737488355328 := fun i hi => okN_sec (okNs_mem (okN_of hx).2 _ (by rw [hq]; exact List.mem_cons_of_mem _ (List.getElem_mem hi)))
        have hTk := Tr_nds ks
        have hLk := nds_len ks
        have hM : ks.length ≤ 255 := by
          rw [hH] at hh
          simp only [Bool.and_eq_true, beq_iff_eq] at hh
          have := (n.val.getD 0 0).toNat_lt
          omega
        with_reducible refine WA.skipN ?_
        repeat first | with_reducible refine WN.t ?_ | with_reducible refine WN.b ?_
        refine WA.regionK ty_ok hs fun K hK => ?_
        simp only [go_sem, Nat.reduceAdd, Nat.reduceLT, Nat.reduceLeDiff, Nat.reduceEqDiff, Nat.reduceSub, Nat.reduceMul, Nat.reduceBEq, Nat.reduceBNe, Nat.reducePow, Nat.reduceDiv, Int.reduceLE, Int.reduceLT, Int.reduceToNat, Int.reduceNeg, Int.reduceAdd, Int.reduceSub, Int.reduceEq, reduceIte, reduceCtorEq, UInt8.reduceOfNat, true_and]
        repeat refine And.intro (by first | omega | assumption | (simp; done) | (simp; omega) | (simp +contextual; done) | (simp_all; done) | (simp_all; omega)) ?_
        refine hK _ ?_
        clear hK K
        refine WA.own0 6 (.li 7 []) rfl rfl ?_
        refine WA.seq ?_
        refine WA.regionK ty_ok hs fun K hK => ?_
        simp only [go_sem, Nat.reduceAdd, Nat.reduceLT, Nat.reduceLeDiff, Nat.reduceEqDiff, Nat.reduceSub, Nat.reduceMul, Nat.reduceBEq, Nat.reduceBNe, Nat.reducePow, Nat.reduceDiv, Int.reduceLE, Int.reduceLT, Int.reduceToNat, Int.reduceNeg, Int.reduceAdd, Int.reduceSub, Int.reduceEq, reduceIte, reduceCtorEq, UInt8.reduceOfNat, hLk]
        repeat refine And.intro (by first | omega | assumption | (simp; done) | (simp; omega) | (simp +contextual; done) | (simp_all; done) | (simp_all; omega)) ?_
        refine hK _ ?_
        clear hK K
        refine WA.block ?_
        refine WA.loopW hX (fun k => if k = 3000 then 2432 else k) ((fun (i : Nat) => ⟨[(6, .sl 3000 7 0 i), (60, .li 3 (ndsA ks)), (61, .lit (.int .i64 (ks.length : Nat))), (62, .lit (.int .i64 (i : Nat)))], [(3000, ⟨.li 7 (((ks.take i).map tmpT).map tmA), 0, false⟩)], 4000, 84⟩ : _ → St)) (fun i => ks.length - i) (fun i => i ≤ ks.length ∧ ∀ j (hj : j < i) (hl : j < ks.length), tmpB ks[j] = true) (i0 := 0) (⟨by omega, fun j hj => by omega⟩) (by simp only [go_sem, Int.natCast_add, Nat.reduceAdd, Nat.reduceLT, Nat.reduceLeDiff, Nat.reduceEqDiff, Nat.reduceSub, Nat.reduceMul, Nat.reduceBEq, Nat.reduceBNe, Nat.reducePow, Nat.reduceDiv, Int.reduceLE, Int.reduceLT, Int.reduceToNat, Int.reduceNeg, Int.reduceAdd, Int.reduceSub, Int.reduceEq, reduceIte, reduceCtorEq, UInt8.reduceOfNat, hTk, TrC_tms, true_or, List.take_zero, List.map_nil] <;> (try and_intros) <;> (try omega)) fun i hi => ?_
        obtain ⟨hi, hno⟩ := hi
        refine WA.regionK ty_ok hs fun K hK => ?_
        simp only [go_sem, Nat.reduceAdd, Nat.reduceLT, Nat.reduceLeDiff, Nat.reduceEqDiff, Nat.reduceSub, Nat.reduceMul, Nat.reduceBEq, Nat.reduceBNe, Nat.reducePow, Nat.reduceDiv, Int.reduceLE, Int.reduceLT, Int.reduceToNat, Int.reduceNeg, Int.reduceAdd, Int.reduceSub, Int.reduceEq, reduceIte, reduceCtorEq, UInt8.reduceOfNat, true_and]
        repeat refine And.intro (by first | omega | assumption | (simp; done) | (simp; omega) | (simp +contextual; done) | (simp_all; done) | (simp_all; omega)) ?_
        refine hK _ ?_
        clear hK K
        refine WA.seq ?_
        refine WA.cond rfl (fun h => ?_) (fun h => ?_)
        ·
          with_reducible refine WA.skipN ?_
          repeat first | with_reducible refine WN.t ?_ | with_reducible refine WN.b ?_
          have h6 : i < ks.length := by have := of_decide_eq_true h; omega
          clear h
          have g := nd_at h6
          have g2 := un_nds ks[i].kids
          have g3 := hkz i h6
          have g4 := nd_eta ks[i]
          have g5 : (((ks.take i).map tmpT).map tmA).length = i := by rw [List.length_map, List.length_map, List.length_take]; omega
          refine WA.seq ?_
          refine WA.block ?_
          refine WA.regionK ty_ok hs fun K hK => ?_
          simp only [go_sem, Nat.reduceAdd, Nat.reduceLT, Nat.reduceLeDiff, Nat.reduceEqDiff, Nat.reduceSub, Nat.reduceMul, Nat.reduceBEq, Nat.reduceBNe, Nat.reducePow, Nat.reduceDiv, Int.reduceLE, Int.reduceLT, Int.reduceToNat, Int.reduceNeg, Int.reduceAdd, Int.reduceSub, Int.reduceEq, reduceIte, reduceCtorEq, UInt8.reduceOfNat, g, hLk]
          repeat refine And.intro (by first | omega | assumption | (simp; done) | (simp; omega) | (simp +contextual; done) | (simp_all; done) | (simp_all; omega)) ?_
          refine hK _ ?_
          clear hK K
          refine WA.regionK ty_ok hs fun K hK => ?_
          simp only [go_sem, Nat.reduceAdd, Nat.reduceLT, Nat.reduceLeDiff, Nat.reduceEqDiff, Nat.reduceSub, Nat.reduceMul, Nat.reduceBEq, Nat.reduceBNe, Nat.reducePow, Nat.reduceDiv, Int.reduceLE, Int.reduceLT, Int.reduceToNat, Int.reduceNeg, Int.reduceAdd, Int.reduceSub, Int.reduceEq, reduceIte, reduceCtorEq, UInt8.reduceOfNat, sgDe, g2, g3, g4, Tr_nds]
          repeat refine And.intro (by first | omega | assumption | (simp; done) | (simp; omega) | (simp +contextual; done) | (simp_all; done) | (simp_all; omega)) ?_
          refine hK _ ?_
          clear hK K
          refine WA.seq ?_
          refine WA.regionK ty_ok hs fun K hK => ?_
          simp only [go_sem, Nat.reduceAdd, Nat.reduceLT, Nat.reduceLeDiff, Nat.reduceEqDiff, Nat.reduceSub, Nat.reduceMul, Nat.reduceBEq, Nat.reduceBNe, Nat.reducePow, Nat.reduceDiv, Int.reduceLE, Int.reduceLT, Int.reduceToNat, Int.reduceNeg, Int.reduceAdd, Int.reduceSub, Int.reduceEq, reduceIte, reduceCtorEq, UInt8.reduceOfNat, true_and]
          repeat refine And.intro (by first | omega | assumption | (simp; done) | (simp; omega) | (simp +contextual; done) | (simp_all; done) | (simp_all; omega)) ?_
          refine hK _ ?_
          clear hK K
          refine WA.cond rfl (fun h => ?_) (fun h => ?_)
          ·
            have h : tmpB ks[i] = false := by first | (simp only [Bool.and_eq_true, Bool.or_eq_true, Bool.not_eq_true', decide_eq_true_eq, decide_eq_false_iff_not, beq_iff_eq, bne_iff_ne, ne_eq, Bool.not_eq_eq_eq_not, Bool.not_true, Bool.not_false, beq_eq_false_iff_ne, bne_eq_false_iff_eq, Bool.and_eq_false_imp, Bool.or_eq_false_iff, Bool.cond_false_right, Bool.cond_true_left, Bool.cond_false_left, Bool.cond_true_right, gt_iff_lt, ge_iff_le, true_and] at h; first | exact h | omega) | omega | simpa using h
            have e0 : ks.all tmpB = false := List.all_eq_false.2 ⟨ks[i], List.getElem_mem h6, by simp [h]⟩
            have e1 : decE [x] = 1 := by rw [eD, if_pos e0]
            have e2 : decV [x] = [] := if_neg (by rw [e1]; decide)
            rw [e1, e2]
            refine WA.regionK ty_ok hs fun K hK => ?_
            simp only [go_sem, Nat.reduceAdd, Nat.reduceLT, Nat.reduceLeDiff, Nat.reduceEqDiff, Nat.reduceSub, Nat.reduceMul, Nat.reduceBEq, Nat.reduceBNe, Nat.reducePow, Nat.reduceDiv, Int.reduceLE, Int.reduceLT, Int.reduceToNat, Int.reduceNeg, Int.reduceAdd, Int.reduceSub, Int.reduceEq, reduceIte, reduceCtorEq, UInt8.reduceOfNat, true_and]
            repeat refine And.intro (by first | omega | assumption | (simp; done) | (simp; omega) | (simp +contextual; done) | (simp_all; done) | (simp_all; omega)) ?_
            refine hK _ ?_
            clear hK K
            refine WA.retE ty_ok (xs := [.li 7 [], .lit (.int .i64 1)]) (ls' := []) (rv := [.tmp 2, .tmp 3]) rfl hX (by decide) (fun _ => rfl) (fun _ _ h => h) ?_
            simp only [go_sem, Nat.reduceAdd, Nat.reduceLT, Nat.reduceLeDiff, Nat.reduceEqDiff, Nat.reduceSub, Nat.reduceMul, Nat.reduceBEq, Nat.reduceBNe, Nat.reducePow, Nat.reduceDiv, Int.reduceLE, Int.reduceLT, Int.reduceToNat, Int.reduceNeg, Int.reduceAdd, Int.reduceSub, Int.reduceEq, reduceIte, reduceCtorEq, UInt8.reduceOfNat, sbT, List.map_nil]
            all_goals (first | done | exact Nat.le_refl _ | (simp; done) | (and_intros <;> first | omega | exact Nat.le_refl _ | (simp; done) | (simp; omega)))
          ·
            have h : tmpB ks[i] = true := by first | (simp only [Bool.and_eq_true, Bool.or_eq_true, Bool.not_eq_true', decide_eq_true_eq, decide_eq_false_iff_not, beq_iff_eq, bne_iff_ne, ne_eq, Bool.not_eq_eq_eq_not, Bool.not_true, Bool.not_false, beq_eq_false_iff_ne, bne_eq_false_iff_eq, Bool.and_eq_false_imp, Bool.or_eq_false_iff, Bool.cond_false_right, Bool.cond_true_left, Bool.cond_false_left, Bool.cond_true_right, gt_iff_lt, ge_iff_le, true_and] at h; first | exact h | omega) | omega | simpa using h
            with_reducible refine WA.skipN ?_
            repeat first | with_reducible refine WN.t ?_ | with_reducible refine WN.b ?_
            refine WA.regionE ty_ok hs fun K hK => ?_
            simp only [go_sem, Nat.reduceAdd, Nat.reduceLT, Nat.reduceLeDiff, Nat.reduceEqDiff, Nat.reduceSub, Nat.reduceMul, Nat.reduceBEq, Nat.reduceBNe, Nat.reducePow, Nat.reduceDiv, Int.reduceLE, Int.reduceLT, Int.reduceToNat, Int.reduceNeg, Int.reduceAdd, Int.reduceSub, Int.reduceEq, reduceIte, reduceCtorEq, UInt8.reduceOfNat, g5]
            repeat refine And.intro (by first | omega | assumption | (simp; done) | (simp; omega) | (simp +contextual; done) | (simp_all; done) | (simp_all; omega)) ?_
            with_reducible refine hK _ (WN.mk ?_)
            clear hK K
            repeat first | with_reducible refine WN.t ?_ | with_reducible refine WN.b ?_
            have e5 : ((ks.take (i + 1)).map tmpT) = (ks.take i).map tmpT ++ [tmpT ks[i]] := by
              rw [List.take_add_one, List.getElem?_eq_getElem h6]
              simp only [Option.toList_some, List.map_append, List.map_cons, List.map_nil]
            refine WA.sb 4144 (xs' := ((ks.take (i + 1)).map tmpT).map tmA) rfl (WkL.of_eq (by rw [e5]; exact tm_app _ _)) ?_
            refine WA.regionE ty_ok hs fun K hK => ?_
            simp only [go_sem, Nat.reduceAdd, Nat.reduceLT, Nat.reduceLeDiff, Nat.reduceEqDiff, Nat.reduceSub, Nat.reduceMul, Nat.reduceBEq, Nat.reduceBNe, Nat.reducePow, Nat.reduceDiv, Int.reduceLE, Int.reduceLT, Int.reduceToNat, Int.reduceNeg, Int.reduceAdd, Int.reduceSub, Int.reduceEq, reduceIte, reduceCtorEq, UInt8.reduceOfNat, true_and]
            repeat refine And.intro (by first | omega | assumption | (simp; done) | (simp; omega) | (simp +contextual; done) | (simp_all; done) | (simp_all; omega)) ?_
            refine hK _ (roundE hX (fun k => if k = 3000 then 4144 else k) (j := i + 1) (⟨by omega, fun j hj hl => by rcases Nat.lt_succ_iff_lt_or_eq.1 hj with q | rfl; exact hno j q hl; exact h⟩) (by first | omega | (dsimp only; omega) | (simp; omega)) (by simp only [go_sem, Int.natCast_add, Nat.reduceAdd, Nat.reduceLT, Nat.reduceLeDiff, Nat.reduceEqDiff, Nat.reduceSub, Nat.reduceMul, Nat.reduceBEq, Nat.reduceBNe, Nat.reducePow, Nat.reduceDiv, Int.reduceLE, Int.reduceLT, Int.reduceToNat, Int.reduceNeg, Int.reduceAdd, Int.reduceSub, Int.reduceEq, reduceIte, reduceCtorEq, UInt8.reduceOfNat, hTk, TrC_tms, true_or] <;> (try and_intros) <;> (try omega)))
        ·
          have h6 : i = ks.length := by have := of_decide_eq_false h; omega
          subst h6
          have e0 : ks.all tmpB = true := List.all_eq_true.2 fun n hn => by
            obtain ⟨j, hj, rfl⟩ := List.getElem_of_mem hn
            exact hno j hj hj
          have e1 : decE [x] = encE (ks.map tmpT) := by rw [eD, if_neg (by simp [e0])]
          have e3 : ks.take ks.length = ks := List.take_length
          rw [e3]
          have g5 : ((ks.map tmpT).map tmA).length = ks.length := by rw [List.length_map, List.length_map]
          have g6 : List.take ks.length ((ks.map tmpT).map tmA) = (ks.map tmpT).map tmA := List.take_of_length_le (by rw [g5]; omega)
          have hu := un_tms (ks.map tmpT)
          have hTm := Tr_tms (ks.map tmpT)
          with_reducible refine WA.exitX ?_
          repeat first | with_reducible refine WX.b ?_ | with_reducible refine WX.t ?_ | (with_reducible refine WX.n ?hne ?_; case hne => rfl)
          refine WA.seq ?_
          refine WA.regionK ty_ok hs fun K hK => ?_
          simp only [go_sem, Nat.reduceAdd, Nat.reduceLT, Nat.reduceLeDiff, Nat.reduceEqDiff, Nat.reduceSub, Nat.reduceMul, Nat.reduceBEq, Nat.reduceBNe, Nat.reducePow, Nat.reduceDiv, Int.reduceLE, Int.reduceLT, Int.reduceToNat, Int.reduceNeg, Int.reduceAdd, Int.reduceSub, Int.reduceEq, reduceIte, reduceCtorEq, UInt8.reduceOfNat, sgDe, g5, g6, hu, hTm, TrC_tms, Nat.le_refl]
          repeat refine And.intro (by first | omega | assumption | (simp; done) | (simp; omega) | (simp +contextual; done) | (simp_all; done) | (simp_all; omega)) ?_
          refine hK _ ?_
          clear hK K
          refine WA.regionK ty_ok hs fun K hK => ?_
          simp only [go_sem, Nat.reduceAdd, Nat.reduceLT, Nat.reduceLeDiff, Nat.reduceEqDiff, Nat.reduceSub, Nat.reduceMul, Nat.reduceBEq, Nat.reduceBNe, Nat.reducePow, Nat.reduceDiv, Int.reduceLE, Int.reduceLT, Int.reduceToNat, Int.reduceNeg, Int.reduceAdd, Int.reduceSub, Int.reduceEq, reduceIte, reduceCtorEq, UInt8.reduceOfNat, true_and]
          repeat refine And.intro (by first | omega | assumption | (simp; done) | (simp; omega) | (simp +contextual; done) | (simp_all; done) | (simp_all; omega)) ?_
          refine hK _ ?_
          clear hK K
          refine WA.cond rfl (fun h => ?_) (fun h => ?_)
          ·
            have h : ¬ encE (ks.map tmpT) = 0 := by first | (simp only [Bool.and_eq_true, Bool.or_eq_true, Bool.not_eq_true', decide_eq_true_eq, decide_eq_false_iff_not, beq_iff_eq, bne_iff_ne, ne_eq, Bool.not_eq_eq_eq_not, Bool.not_true, Bool.not_false, beq_eq_false_iff_ne, bne_eq_false_iff_eq, Bool.and_eq_false_imp, Bool.or_eq_false_iff, Bool.cond_false_right, Bool.cond_true_left, Bool.cond_false_left, Bool.cond_true_right, gt_iff_lt, ge_iff_le, true_and] at h; first | exact h | omega) | omega | simpa using h
            have e2 : decV [x] = [] := if_neg (by rw [e1]; exact h)
            rw [e1, e2]
            refine WA.regionK ty_ok hs fun K hK => ?_
            simp only [go_sem, Nat.reduceAdd, Nat.reduceLT, Nat.reduceLeDiff, Nat.reduceEqDiff, Nat.reduceSub, Nat.reduceMul, Nat.reduceBEq, Nat.reduceBNe, Nat.reducePow, Nat.reduceDiv, Int.reduceLE, Int.reduceLT, Int.reduceToNat, Int.reduceNeg, Int.reduceAdd, Int.reduceSub, Int.reduceEq, reduceIte, reduceCtorEq, UInt8.reduceOfNat, true_and]
            repeat refine And.intro (by first | omega | assumption | (simp; done) | (simp; omega) | (simp +contextual; done) | (simp_all; done) | (simp_all; omega)) ?_
            refine hK _ ?_
            clear hK K
            refine WA.retE ty_ok (xs := [.li 7 [], .lit (.int .i64 (encE (ks.map tmpT)))]) (ls' := []) (rv := [.tmp 2, .tmp 3]) rfl hX (by decide) (fun _ => rfl) (fun _ _ h => h) ?_
            simp only [go_sem, Nat.reduceAdd, Nat.reduceLT, Nat.reduceLeDiff, Nat.reduceEqDiff, Nat.reduceSub, Nat.reduceMul, Nat.reduceBEq, Nat.reduceBNe, Nat.reducePow, Nat.reduceDiv, Int.reduceLE, Int.reduceLT, Int.reduceToNat, Int.reduceNeg, Int.reduceAdd, Int.reduceSub, Int.reduceEq, reduceIte, reduceCtorEq, UInt8.reduceOfNat, sbT, List.map_nil]
            all_goals (first | done | exact Nat.le_refl _ | (simp; done) | (and_intros <;> first | omega | exact Nat.le_refl _ | (simp; done) | (simp; omega)))
          ·
            have h : encE (ks.map tmpT) = 0 := by first | (simp only [Bool.and_eq_true, Bool.or_eq_true, Bool.not_eq_true', decide_eq_true_eq, decide_eq_false_iff_not, beq_iff_eq, bne_iff_ne, ne_eq, Bool.not_eq_eq_eq_not, Bool.not_true, Bool.not_false, beq_eq_false_iff_ne, bne_eq_false_iff_eq, Bool.and_eq_false_imp, Bool.or_eq_false_iff, Bool.cond_false_right, Bool.cond_true_left, Bool.cond_false_left, Bool.cond_true_right, gt_iff_lt, ge_iff_le, true_and] at h; first | exact h | omega) | omega | simpa using h
            have e2 : decV [x] = ks.map tmpT := by unfold decV; rw [e1, if_pos h, hO]
            rw [e1, e2, h]
            with_reducible refine WA.skipN ?_
            repeat first | with_reducible refine WN.t ?_ | with_reducible refine WN.b ?_
            refine WA.regionK ty_ok hs fun K hK => ?_
            simp only [go_sem, Nat.reduceAdd, Nat.reduceLT, Nat.reduceLeDiff, Nat.reduceEqDiff, Nat.reduceSub, Nat.reduceMul, Nat.reduceBEq, Nat.reduceBNe, Nat.reducePow, Nat.reduceDiv, Int.reduceLE, Int.reduceLT, Int.reduceToNat, Int.reduceNeg, Int.reduceAdd, Int.reduceSub, Int.reduceEq, reduceIte, reduceCtorEq, UInt8.reduceOfNat, true_and]
            repeat refine And.intro (by first | omega | assumption | (simp; done) | (simp; omega) | (simp +contextual; done) | (simp_all; done) | (simp_all; omega)) ?_
            refine hK _ ?_
            clear hK K
            refine WA.retE ty_ok (xs := [.li 7 ((ks.map tmpT).map tmA), .lit (.int .i64 0)]) (ls' := []) (rv := [.tmp 2, .tmp 3]) rfl hX (by decide) (fun _ => rfl) (fun _ _ h => h) ?_
            simp only [go_sem, Nat.reduceAdd, Nat.reduceLT, Nat.reduceLeDiff, Nat.reduceEqDiff, Nat.reduceSub, Nat.reduceMul, Nat.reduceBEq, Nat.reduceBNe, Nat.reducePow, Nat.reduceDiv, Int.reduceLE, Int.reduceLT, Int.reduceToNat, Int.reduceNeg, Int.reduceAdd, Int.reduceSub, Int.reduceEq, reduceIte, reduceCtorEq, UInt8.reduceOfNat, sbT, hTm, g5, g6, TrC_tms]
            all_goals (first | done | exact Nat.le_refl _ | (simp; done) | (and_intros <;> first | omega | exact Nat.le_refl _ | (simp; done) | (simp; omega)))
end Go.Proofs.Ytloihfflblgioaa
