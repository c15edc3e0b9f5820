import Derived.Test.YtgmmdijmlnehlaaDoorShD
namespace Go.Proofs.YtgmmdijmlnehlaaDoor
open Go.RowKit Go.TravelBase Go.TravelAbs
set_option linter.unusedVariables false
set_option linter.unusedSimpArgs false



















/-! ### Certificates: the signature -/
theorem chN_leaf {t : Int} (b : List UInt8) {d : Int} (h1 : rvT t = true) (h2 : rcT t = false) (hd : d ≤ 8) : chN (lfN t b) d = 0 := by
  rw [lfN, chN_mk, if_neg (by rw [h1]; decide), if_neg (by unfold formB; rw [h2]; simp), if_neg (by omega), chL]
theorem chN_box {t : Int} (k : List Nd) {d : Int} (h1 : rvT t = true) (h2 : rcT t = true) (hd : d ≤ 8) (hk : chL k (d + 1) = 0) : chN (.mk t [] k) d = 0 := by
  rw [chN_mk, if_neg (by rw [h1]; decide), if_neg (by unfold formB; rw [h2]; simp), if_neg (by omega), hk]
theorem chL_cons {x : Nd} {r : List Nd} {d : Int} (h1 : chN x d = 0) (h2 : chL r d = 0) : chL (x :: r) d = 0 := by
  rw [chL, if_pos h1, h2]
theorem chL_nil (d : Int) : chL [] d = 0 := by rw [chL]
theorem rwL_sum : ∀ (l : List Nd) (o : List UInt8), (rwL l o).length ≤ o.length + (l.map fun x => (rwN x).length).sum
  | [], o => by rw [rwL]; omega
  | x :: r, o => by
    rw [rwL]
    split
    · have := rwL_sum r (o ++ rwN x)
      rw [List.length_append] at this
      simp only [List.map_cons, List.sum_cons]
      omega
    · omega
theorem putB_le (t : Int) (c : List UInt8) : (putB t c).length ≤ 5 + c.length := by
  have h1 := hdT_len t
  have h2 := (lnB_len ((c.take 4097).length : Nat)).2
  have h3 : (c.take 4097).length ≤ c.length := by rw [List.length_take]; omega
  unfold putB
  rw [List.length_append, List.length_append]
  omega
theorem rwN_leaf (t : Int) (b : List UInt8) : (rwN (lfN t b)).length ≤ 5 + b.length := by
  rw [lfN, rwN_mk]
  refine Nat.le_trans (putB_le _ _) ?_
  split
  · rw [rwL]; simp
  · omega
theorem rwN_box (t : Int) (k : List Nd) : (rwN (.mk t [] k)).length ≤ 5 + (k.map fun x => (rwN x).length).sum := by
  rw [rwN_mk]
  refine Nat.le_trans (putB_le _ _) ?_
  split
  · have := rwL_sum k []
    simp only [List.length_nil] at this
    omega
  · simp
theorem body_ok {c : Ct} (h : checkE c = 0) : rencE [bodyN c] = 0 := by
  obtain ⟨⟨n1, n2⟩, k1, ro, rt, da⟩ := check_ok h
  simp only [nameB, decide_eq_true_eq] at n1 n2
  have e1 : (encL c.key).length = 4 := by simp [encL, k1, length_beS]
  have a1 : chL [bodyN c] 1 = 0 := chL_cons (chN_box _ (by decide) (by decide) (by omega) (chL_cons (chN_leaf _ (by decide) (by decide) (by omega)) (chL_cons (chN_leaf _ (by decide) (by decide) (by omega)) (chL_cons (chN_leaf _ (by decide) (by decide) (by omega)) (chL_cons (chN_box _ (by decide) (by decide) (by omega) (chL_cons (chN_leaf _ (by decide) (by decide) (by omega)) (chL_nil _))) (chL_cons (chN_leaf _ (by decide) (by decide) (by omega)) (chL_cons (chN_leaf _ (by decide) (by decide) (by omega)) (chL_nil _)))))))) (chL_nil _)
  have a2 : cnL [bodyN c] 256 0 ≤ 256 := by
    have := (cnL_rng [bodyN c] 256 0 (Int.le_refl _)).2
    have e8 : ndsS [bodyN c] = 8 := by simp only [ndsS, ndS, bodyN, lfN]
    rw [e8] at this
    omega
  have a3 : (rwL [bodyN c] []).length ≤ 4096 := by
    have b0 := rwL_sum [bodyN c] []
    have b1 := rwN_box 32590 [lfN 66 c.iss, lfN 24352 c.hold, lfN 134 (encL c.key), .mk 32588 [] [lfN 83 (beS c.role.toNat 1 ++ beS c.rt.toNat 2)], lfN 24357 (le3 c.fr), lfN 24356 (le3 c.til)]
    have b2 := rwN_box 32588 [lfN 83 (beS c.role.toNat 1 ++ beS c.rt.toNat 2)]
    have c1 := rwN_leaf 66 c.iss
    have c2 := rwN_leaf 24352 c.hold
    have c3 := rwN_leaf 134 (encL c.key)
    have c4 := rwN_leaf 83 (beS c.role.toNat 1 ++ beS c.rt.toNat 2)
    have c5 := rwN_leaf 24357 (le3 c.fr)
    have c6 := rwN_leaf 24356 (le3 c.til)
    have l3 : ∀ d, (le3 d).length = 3 := fun _ => rfl
    rw [List.length_append, length_beS, length_beS] at c4
    rw [l3] at c5 c6
    simp only [List.map_cons, List.map_nil, List.sum_cons, List.sum_nil, List.length_nil] at b0 b1 b2
    unfold bodyN at b0 ⊢
    omega
  unfold rencE
  rw [if_neg (by simp [a1]), if_neg (by omega), if_neg (by omega)]
def sgBd : Sg := fun f args ls =>
  match f, args, ls with
  | 24, [.agg [.lit (.string a), .lit (.string h), .lit (.int .i64 k), .lit (.int .i64 r), .lit (.int .i64 rt), .lit (.int .i64 fr), .lit (.int .i64 t), .lit (.int .i64 x), .lit (.int .i64 y)]], [] => some (.lit (.int .i64 (checkE ⟨a.data.toList, h.data.toList, k, r, rt, fr, t, x, y⟩)), [], a.data.toList.length ≤ 9223372036854775807 ∧ h.data.toList.length ≤ 9223372036854775807)
  | 68, [.agg [.lit (.string a), .lit (.string h), .lit (.int .i64 k), .lit (.int .i64 r), .lit (.int .i64 rt), .lit (.int .i64 fr), .lit (.int .i64 t), .lit (.int .i64 x), .lit (.int .i64 y)]], [] => some (ndA (bodyN ⟨a.data.toList, h.data.toList, k, r, rt, fr, t, x, y⟩), [], checkE ⟨a.data.toList, h.data.toList, k, r, rt, fr, t, x, y⟩ = 0)
  | 67, [.li 3 xs], [] => some (.tup [.by_ (rencB (unNs xs)), .lit (.int .i64 (rencE (unNs xs)))], [], xs = ndsA (unNs xs) ∧ ndsS (unNs xs) < 1000000000)
  | _, _, _ => none
theorem sgBd_ok : SgOK Tryd.prog sgBd := by
  intro f args ls r ls' vc h hvc
  unfold sgBd at h
  split at h <;> first | (simp only [Option.some.injEq, Prod.mk.injEq] at h; obtain ⟨rfl, rfl, rfl⟩ := h) | cases h
  · exact ⟨(fnOK Tryd.func24 (by decide) rfl), rcheck_s ⟨_, _, _, _, _, _, _, _, _⟩ hvc.1 hvc.2⟩
  · exact ⟨(fnOK Tryd.func68 (by decide) rfl), body_s ⟨_, _, _, _, _, _, _, _, _⟩ hvc⟩
  · rename_i xs
    refine ⟨(fnOK Tryd.func67 (by decide) rfl), ?_⟩
    have := rencT_s (unNs xs) hvc.2
    rw [← hvc.1] at this
    exact this
theorem Body_s (c : Ct) (h : checkE c = 0) : FnS Tryd.prog 61 [ctA c] [] (.tup [.by_ (rencB [bodyN c]), .lit (.int .i64 0)]) [] := by
  obtain ⟨⟨n1, n2⟩, k1, ro, rt, da⟩ := check_ok h
  have ho := body_ok h
  have hsz : ndsS [bodyN c] < 1000000000 := by simp only [ndsS, ndS, bodyN, lfN]; omega
  have hT := Tr_nds [bodyN c]
  have hC := TrC_nds [bodyN c]
  have hu := un_nds [bodyN c]
  have hk : (ndsA [bodyN c]) = [ndA (bodyN c)] := by simp only [ndsA]
  have hcl : Tr (ndA (bodyN c)) = True := eq_true (by
    have := Tr_ndCl (bodyN c)
    rw [ndA_eq] at this ⊢
    exact Tr.agg this)
  have hc0 := h
  simp only [nameB, decide_eq_true_eq] at n1 n2
  have g1 : c.iss.length ≤ 9223372036854775807 := by omega
  have g2 : c.hold.length ≤ 9223372036854775807 := by omega
  obtain ⟨n, hn⟩ : ∃ n, bodyN c = n := ⟨_, rfl⟩
  have hn2 := hn
  rw [hn] at hT hC hu hk hcl ho hsz ⊢
  obtain ⟨ci, ch, ck, cr, crt, cf, ct, cx, cy⟩ := c
  simp only at g1 g2
  have hs := sgBd_ok
  obtain ⟨v, t, k⟩ := n
  rw [hk] at hT hC hu
  simp only [ndA] at hT hC hu hk hcl
  unfold ctA
  refine FnS.of Tryd.func61 rfl (N := 16) rfl (by simp) (by simp) fun X hX => ?_
  simp only [tmArgs, lentH, Nat.reduceAdd]
  refine WA.regionK ty_ok hs fun K hK => ?_
  simp only [go_sem, Nat.reduceAdd, Nat.reduceLT, Nat.reduceLeDiff, Nat.reduceEqDiff, Nat.reduceSub, Nat.reduceMul, Nat.reduceBEq, Nat.reduceBNe, Nat.reducePow, Nat.reduceDiv, Int.reduceLE, Int.reduceLT, Int.reduceToNat, Int.reduceNeg, Int.reduceAdd, Int.reduceSub, Int.reduceEq, reduceIte, reduceCtorEq, UInt8.reduceOfNat, strB_list]
  repeat refine And.intro (by first | omega | assumption | (simp; done) | (simp; omega) | (simp +contextual; done) | (simp_all; done) | (simp_all; omega)) ?_
  refine hK _ ?_
  clear hK K
  refine WA.seq ?_
  refine WA.regionK ty_ok hs fun K hK => ?_
  simp only [go_sem, Nat.reduceAdd, Nat.reduceLT, Nat.reduceLeDiff, Nat.reduceEqDiff, Nat.reduceSub, Nat.reduceMul, Nat.reduceBEq, Nat.reduceBNe, Nat.reducePow, Nat.reduceDiv, Int.reduceLE, Int.reduceLT, Int.reduceToNat, Int.reduceNeg, Int.reduceAdd, Int.reduceSub, Int.reduceEq, reduceIte, reduceCtorEq, UInt8.reduceOfNat, sgBd, strB_list, h, g1, g2]
  repeat refine And.intro (by first | omega | assumption | (simp; done) | (simp; omega) | (simp +contextual; done) | (simp_all; done) | (simp_all; omega)) ?_
  refine hK _ ?_
  clear hK K
  refine WA.regionK ty_ok hs fun K hK => ?_
  simp only [go_sem, Nat.reduceAdd, Nat.reduceLT, Nat.reduceLeDiff, Nat.reduceEqDiff, Nat.reduceSub, Nat.reduceMul, Nat.reduceBEq, Nat.reduceBNe, Nat.reducePow, Nat.reduceDiv, Int.reduceLE, Int.reduceLT, Int.reduceToNat, Int.reduceNeg, Int.reduceAdd, Int.reduceSub, Int.reduceEq, reduceIte, reduceCtorEq, UInt8.reduceOfNat, true_and]
  repeat refine And.intro (by first | omega | assumption | (simp; done) | (simp; omega) | (simp +contextual; done) | (simp_all; done) | (simp_all; omega)) ?_
  refine hK _ ?_
  clear hK K
  refine WA.cond rfl (fun h => ?_) (fun h => ?_)
  ·
    cases h
  ·
    with_reducible refine WA.skipN ?_
    repeat first | with_reducible refine WN.t ?_ | with_reducible refine WN.b ?_
    refine WA.regionK ty_ok hs fun K hK => ?_
    simp only [go_sem, Nat.reduceAdd, Nat.reduceLT, Nat.reduceLeDiff, Nat.reduceEqDiff, Nat.reduceSub, Nat.reduceMul, Nat.reduceBEq, Nat.reduceBNe, Nat.reducePow, Nat.reduceDiv, Int.reduceLE, Int.reduceLT, Int.reduceToNat, Int.reduceNeg, Int.reduceAdd, Int.reduceSub, Int.reduceEq, reduceIte, reduceCtorEq, UInt8.reduceOfNat, sgBd, strB_list, hc0, hn, ndA, hk, hT, hC, hu, ho, hsz, hcl]
    repeat refine And.intro (by first | omega | assumption | (simp; done) | (simp; omega) | (simp +contextual; done) | (simp_all; done) | (simp_all; omega)) ?_
    refine hK _ ?_
    clear hK K
    refine WA.retE ty_ok (xs := [.by_ (rencB [.mk v t k]), .lit (.int .i64 0)]) (ls' := []) (rv := [.tmp 2, .tmp 3]) rfl hX (by decide) (fun _ => rfl) (fun _ _ h => h) ?_
    simp only [go_sem, Nat.reduceAdd, Nat.reduceLT, Nat.reduceLeDiff, Nat.reduceEqDiff, Nat.reduceSub, Nat.reduceMul, Nat.reduceBEq, Nat.reduceBNe, Nat.reducePow, Nat.reduceDiv, Int.reduceLE, Int.reduceLT, Int.reduceToNat, Int.reduceNeg, Int.reduceAdd, Int.reduceSub, Int.reduceEq, reduceIte, reduceCtorEq, UInt8.reduceOfNat, sbT]
    all_goals (first | done | exact Nat.le_refl _ | (simp; done) | (and_intros <;> first | omega | exact Nat.le_refl _ | (simp; done) | (simp; omega)))
def issC (k : Int) (c : Ct) : Ct := ⟨c.iss, c.hold, c.key, c.role, c.rt, c.fr, c.til, sigE k (rencB [bodyN c]), sigS k (rencB [bodyN c])⟩
def sgIs : Sg := fun f args ls =>
  match f, args, ls with
  | 61, [.agg [.lit (.string a), .lit (.string h), .lit (.int .i64 k), .lit (.int .i64 r), .lit (.int .i64 rt), .lit (.int .i64 fr), .lit (.int .i64 t), .lit (.int .i64 x), .lit (.int .i64 y)]], [] => some (.tup [.by_ (rencB [bodyN ⟨a.data.toList, h.data.toList, k, r, rt, fr, t, x, y⟩]), .lit (.int .i64 0)], [], checkE ⟨a.data.toList, h.data.toList, k, r, rt, fr, t, x, y⟩ = 0)
  | 62, [.lit (.int .i64 k), .by_ m], [] => some (.tup [.agg [.lit (.int .i64 (sigE k m)), .lit (.int .i64 (sigS k m))], .lit (.int .i64 0)], [], secB k = true ∧ m.length ≤ 100000000)
  | _, _, _ => none
theorem sgIs_ok : SgOK Tryd.prog sgIs := by
  intro f args ls r ls' vc h hvc
  unfold sgIs at h
  split at h <;> first | (simp only [Option.some.injEq, Prod.mk.injEq] at h; obtain ⟨rfl, rfl, rfl⟩ := h) | cases h
  · exact ⟨(fnOK Tryd.func61 (by decide) rfl), Body_s ⟨_, _, _, _, _, _, _, _, _⟩ hvc⟩
  · exact ⟨(fnOK Tryd.func62 (by decide) rfl), sign_s _ _ hvc.1 hvc.2⟩
theorem rencB_len (l : List Nd) : (rencB l).length ≤ 8198 := by
  unfold rencB
  split
  · exact rwL_len l [] (by simp)
  · simp
theorem issue_s (k : Int) (c : Ct) (h : checkE c = 0) (hk : secB k = true) : FnS Tryd.prog 47 [.lit (.int .i64 k), ctA c] [] (.tup [ctA (issC k c), .lit (.int .i64 0)]) [] := by
  have hs := sgIs_ok
  have hc0 := h
  have hl : (rencB [bodyN c]).length ≤ 100000000 := Nat.le_trans (rencB_len _) (by decide)
  obtain ⟨m, hm⟩ : ∃ m, rencB [bodyN c] = m := ⟨_, rfl⟩
  unfold issC
  rw [hm] at hl ⊢
  obtain ⟨ci, ch, ck, cr, crt, cf, ct, cx, cy⟩ := c
  unfold ctA
  refine FnS.of Tryd.func47 rfl (N := 31) rfl (by simp) (by simp) fun X hX => ?_
  simp only [tmArgs, lentH, Nat.reduceAdd]
  refine WA.regionK ty_ok hs fun K hK => ?_
  simp only [go_sem, Nat.reduceAdd, Nat.reduceLT, Nat.reduceLeDiff, Nat.reduceEqDiff, Nat.reduceSub, Nat.reduceMul, Nat.reduceBEq, Nat.reduceBNe, Nat.reducePow, Nat.reduceDiv, Int.reduceLE, Int.reduceLT, Int.reduceToNat, Int.reduceNeg, Int.reduceAdd, Int.reduceSub, Int.reduceEq, reduceIte, reduceCtorEq, UInt8.reduceOfNat, strB_list]
  repeat refine And.intro (by first | omega | assumption | (simp; done) | (simp; omega) | (simp +contextual; done) | (simp_all; done) | (simp_all; omega)) ?_
  refine hK _ ?_
  clear hK K
  refine WA.regionK ty_ok hs fun K hK => ?_
  simp only [go_sem, Nat.reduceAdd, Nat.reduceLT, Nat.reduceLeDiff, Nat.reduceEqDiff, Nat.reduceSub, Nat.reduceMul, Nat.reduceBEq, Nat.reduceBNe, Nat.reducePow, Nat.reduceDiv, Int.reduceLE, Int.reduceLT, Int.reduceToNat, Int.reduceNeg, Int.reduceAdd, Int.reduceSub, Int.reduceEq, reduceIte, reduceCtorEq, UInt8.reduceOfNat, sgIs, strB_list, hc0, hm]
  repeat refine And.intro (by first | omega | assumption | (simp; done) | (simp; omega) | (simp +contextual; done) | (simp_all; done) | (simp_all; omega)) ?_
  refine hK _ ?_
  clear hK K
  refine WA.seq ?_
  refine WA.regionK ty_ok hs fun K hK => ?_
  simp only [go_sem, Nat.reduceAdd, Nat.reduceLT, Nat.reduceLeDiff, Nat.reduceEqDiff, Nat.reduceSub, Nat.reduceMul, Nat.reduceBEq, Nat.reduceBNe, Nat.reducePow, Nat.reduceDiv, Int.reduceLE, Int.reduceLT, Int.reduceToNat, Int.reduceNeg, Int.reduceAdd, Int.reduceSub, Int.reduceEq, reduceIte, reduceCtorEq, UInt8.reduceOfNat, true_and]
  repeat refine And.intro (by first | omega | assumption | (simp; done) | (simp; omega) | (simp +contextual; done) | (simp_all; done) | (simp_all; omega)) ?_
  refine hK _ ?_
  clear hK K
  refine WA.cond rfl (fun h => ?_) (fun h => ?_)
  ·
    cases h
  ·
    with_reducible refine WA.skipN ?_
    repeat first | with_reducible refine WN.t ?_ | with_reducible refine WN.b ?_
    refine WA.regionK ty_ok hs fun K hK => ?_
    simp only [go_sem, Nat.reduceAdd, Nat.reduceLT, Nat.reduceLeDiff, Nat.reduceEqDiff, Nat.reduceSub, Nat.reduceMul, Nat.reduceBEq, Nat.reduceBNe, Nat.reducePow, Nat.reduceDiv, Int.reduceLE, Int.reduceLT, Int.reduceToNat, Int.reduceNeg, Int.reduceAdd, Int.reduceSub, Int.reduceEq, reduceIte, reduceCtorEq, UInt8.reduceOfNat, sgIs, hk, hl]
    repeat refine And.intro (by first | omega | assumption | (simp; done) | (simp; omega) | (simp +contextual; done) | (simp_all; done) | (simp_all; omega)) ?_
    refine hK _ ?_
    clear hK K
    refine WA.seq ?_
    refine WA.regionK ty_ok hs fun K hK => ?_
    simp only [go_sem, Nat.reduceAdd, Nat.reduceLT, Nat.reduceLeDiff, Nat.reduceEqDiff, Nat.reduceSub, Nat.reduceMul, Nat.reduceBEq, Nat.reduceBNe, Nat.reducePow, Nat.reduceDiv, Int.reduceLE, Int.reduceLT, Int.reduceToNat, Int.reduceNeg, Int.reduceAdd, Int.reduceSub, Int.reduceEq, reduceIte, reduceCtorEq, UInt8.reduceOfNat, true_and]
    repeat refine And.intro (by first | omega | assumption | (simp; done) | (simp; omega) | (simp +contextual; done) | (simp_all; done) | (simp_all; omega)) ?_
    refine hK _ ?_
    clear hK K
    refine WA.cond rfl (fun h => ?_) (fun h => ?_)
    ·
      cases h
    ·
      with_reducible refine WA.skipN ?_
      repeat first | with_reducible refine WN.t ?_ | with_reducible refine WN.b ?_
      refine WA.regionK ty_ok hs fun K hK => ?_
      simp only [go_sem, Nat.reduceAdd, Nat.reduceLT, Nat.reduceLeDiff, Nat.reduceEqDiff, Nat.reduceSub, Nat.reduceMul, Nat.reduceBEq, Nat.reduceBNe, Nat.reducePow, Nat.reduceDiv, Int.reduceLE, Int.reduceLT, Int.reduceToNat, Int.reduceNeg, Int.reduceAdd, Int.reduceSub, Int.reduceEq, reduceIte, reduceCtorEq, UInt8.reduceOfNat, true_and]
      repeat refine And.intro (by first | omega | assumption | (simp; done) | (simp; omega) | (simp +contextual; done) | (simp_all; done) | (simp_all; omega)) ?_
      refine hK _ ?_
      clear hK K
      refine WA.regionK ty_ok hs fun K hK => ?_
      simp only [go_sem, Nat.reduceAdd, Nat.reduceLT, Nat.reduceLeDiff, Nat.reduceEqDiff, Nat.reduceSub, Nat.reduceMul, Nat.reduceBEq, Nat.reduceBNe, Nat.reducePow, Nat.reduceDiv, Int.reduceLE, Int.reduceLT, Int.reduceToNat, Int.reduceNeg, Int.reduceAdd, Int.reduceSub, Int.reduceEq, reduceIte, reduceCtorEq, UInt8.reduceOfNat, true_and]
      repeat refine And.intro (by first | omega | assumption | (simp; done) | (simp; omega) | (simp +contextual; done) | (simp_all; done) | (simp_all; omega)) ?_
      refine hK _ ?_
      clear hK K
      refine WA.retE ty_ok (xs := [.agg [.lit (.string (strB ci)), .lit (.string (strB ch)), .lit (.int .i64 ck), .lit (.int .i64 cr), .lit (.int .i64 crt), .lit (.int .i64 cf), .lit (.int .i64 ct), .lit (.int .i64 (sigE k m)), .lit (.int .i64 (sigS k m))], .lit (.int .i64 0)]) (ls' := []) (rv := [.cell 4 44, .tmp 5]) rfl hX (by decide) (fun _ => rfl) (fun _ _ h => h) ?_
      simp only [go_sem, Nat.reduceAdd, Nat.reduceLT, Nat.reduceLeDiff, Nat.reduceEqDiff, Nat.reduceSub, Nat.reduceMul, Nat.reduceBEq, Nat.reduceBNe, Nat.reducePow, Nat.reduceDiv, Int.reduceLE, Int.reduceLT, Int.reduceToNat, Int.reduceNeg, Int.reduceAdd, Int.reduceSub, Int.reduceEq, reduceIte, reduceCtorEq, UInt8.reduceOfNat, sbT]
      all_goals (first | done | exact Nat.le_refl _ | (simp; done) | (and_intros <;> first | omega | exact Nat.le_refl _ | (simp; done) | (simp; omega)))
end Go.Proofs.YtgmmdijmlnehlaaDoor
