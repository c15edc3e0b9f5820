import Derived.Test.YtloihfflblgioaaBiP
namespace Go.Proofs.Ytloihfflblgioaa
open Go.RowKit Go.TravelBase Go.TravelAbs
set_option linter.unusedVariables false
set_option linter.unusedSimpArgs false

















/-! ### The dice's odd objects -/
mutual
def okM (b : Nat) : Nd → Prop
  | .mk _ v k => (v.length ≤ b ∧ k.length ≤ b) ∧ okMs b k
def okMs (b : Nat) : List Nd → Prop
  | [] => True
  | x :: l => okM b x ∧ okMs b l
end
theorem okMs_iff (b : Nat) : ∀ l : List Nd, okMs b l ↔ ∀ n ∈ l, okM b n
  | [] => by simp [okMs]
  | x :: l => by rw [okMs, okMs_iff b l]; simp
theorem okM_of {b : Nat} {n : Nd} : okM b n ↔ (n.val.length ≤ b ∧ n.kids.length ≤ b) ∧ okMs b n.kids := by
  cases n
  rw [okM]
  rfl
mutual
theorem okM_mono {b c : Nat} (h : b ≤ c) : ∀ n : Nd, okM b n → okM c n
  | .mk t v k => fun hn => by
    rw [okM] at hn ⊢
    exact ⟨by omega, okMs_mono h k hn.2⟩
theorem okMs_mono {b c : Nat} (h : b ≤ c) : ∀ l : List Nd, okMs b l → okMs c l
  | [] => fun _ => trivial
  | x :: l => fun hl => by
    rw [okMs] at hl ⊢
    exact ⟨okM_mono h x hl.1, okMs_mono h l hl.2⟩
end
mutual
theorem okN_M {b : Nat} (h : b ≤ 140737488351232) : ∀ n : Nd, okM b n → okN n
  | .mk t v k => fun hn => by
    rw [okM] at hn
    rw [okN]
    exact ⟨by omega, okNs_M h k hn.2⟩
theorem okNs_M {b : Nat} (h : b ≤ 140737488351232) : ∀ l : List Nd, okMs b l → okNs l
  | [] => fun _ => trivial
  | x :: l => fun hl => by
    rw [okMs] at hl
    rw [okNs]
    exact ⟨okN_M h x hl.1, okNs_M h l hl.2⟩
end
theorem okMs_set {b : Nat} {l : List Nd} {k : Nat} {n : Nd} (h : okMs b l) (hn : okM b n) : okMs b (l.set k n) := by
  rw [okMs_iff] at h ⊢
  intro x hx
  rcases List.mem_or_eq_of_mem_set hx with hx | rfl
  · exact h x hx
  · exact hn
theorem nds_set (l : List Nd) (k : Nat) (n : Nd) : (ndsA l).set k (.agg [.lit (.int .i64 n.tag), .by_ n.val, .li 3 (ndsA n.kids)]) = ndsA (l.set k n) := by
  rw [← ndA_eq, ndsA_map, ndsA_map, List.map_set]
theorem one_nds (l : List Nd) : ∀ x ∈ ndsA l, (match x with | .agg xs => xs | x => [x]).all AV.one = true := fun x hx => by
  rw [ndsA_map] at hx
  obtain ⟨n, _, rfl⟩ := List.mem_map.1 hx
  rw [ndA_eq]
  rfl
theorem cvM_nset {l : List Nd} {k : Nat} (hk : k < l.length) (x : AV) (H : List (Nat × Blk)) : cvM H ((ndsA l).set k x) = (cvX H x).map fun t => ((ndsA l).set k t.1, t.2.1, t.2.2) := cvM_set (by rw [nds_len]; exact hk) (fun y hy H => by
  rw [ndsA_map] at hy
  obtain ⟨n, _, rfl⟩ := List.mem_map.1 hy
  exact cvX_nd n H) H
def stOd (n b : Nat) : Sg2 := fun f args ls =>
  match f, args, ls with
  | 26, [.ptr 0 0 0, .li 3 xs], [.li 2 [.agg [L, .lit (.int .i64 z)]]] => some ⟨List Nd × Int, fun i => (i.1.length ≤ b + 1 ∧ okMs (b + 1) i.1) ∧ DcOK L i.2, fun i => .li 3 (ndsA i.1), fun i => [.li 2 [.agg [L, .lit (.int .i64 i.2)]]], DcOK L z ∧ (xs = ndsA (unNs xs) ∧ ndsS (unNs xs) < n) ∧ (unNs xs).length ≤ b ∧ okMs b (unNs xs)⟩
  | _, _, _ => none
set_option maxHeartbeats 2000000 in
theorem odd_e (b : Nat) (hb : 1 ≤ b ∧ b ≤ 100000) : ∀ (n : Nat) (L : AV) (z : Int) (l : List Nd), ndsS l < n → DcOK L z → l.length ≤ b → okMs b l → FnE Try.prog 26 [.ptr 0 0 0, .li 3 (ndsA l)] [.li 2 [.agg [L, .lit (.int .i64 z)]]] (I := List Nd × Int) (fun i => (i.1.length ≤ b + 1 ∧ okMs (b + 1) i.1) ∧ DcOK L i.2) (fun i => .li 3 (ndsA i.1)) (fun i => [.li 2 [.agg [L, .lit (.int .i64 i.2)]]]) := by
  intro n
  induction n with
  | zero => intro L z l h; omega
  | succ n ih =>
  intro L z l hl hd hlb hok
  have hs := sgDd_ok
  have ht : Sg2OK Try.prog (stOd n b) := by
    intro f args ls R h hvc
    unfold stOd at h
    split at h <;> first | (simp only [Option.some.injEq] at h; subst h) | cases h
    rename_i xs L z
    refine ⟨(fnOK Try.func26 (by decide) rfl), ?_⟩
    have := ih L z (unNs xs) hvc.2.1.2 hvc.1 hvc.2.2.1 hvc.2.2.2
    rw [← hvc.2.1.1] at this
    exact this
  have hT := hd.tr
  have hTl := Tr_nds l
  have hL := nds_len l
  have d1 := dc_nx hd
  have d2 := dc_nx d1
  have d3 := dc_nx d2
  refine FnE.of Try.func26 rfl (N := 75) rfl (by simp) (by simp) fun X hX => ?_
  simp only [tmArgs, lentH, Nat.reduceAdd]
  refine WA.regionK ty_ok hs fun K hK => ?_
  simp only [go_sem, Nat.reduceAdd, Nat.reduceLT, Nat.reduceLeDiff, Nat.reduceEqDiff, Nat.reduceSub, Nat.reduceMul, Nat.reduceBEq, Nat.reduceBNe, Nat.reducePow, Nat.reduceDiv, Int.reduceLE, Int.reduceLT, Int.reduceToNat, Int.reduceNeg, Int.reduceAdd, Int.reduceSub, Int.reduceEq, reduceIte, reduceCtorEq, UInt8.reduceOfNat, true_and]
  repeat refine And.intro (by first | omega | assumption | (simp; done) | (simp; omega) | (simp +contextual; done) | (simp_all; done) | (simp_all; omega)) ?_
  refine hK _ ?_
  clear hK K
  refine WA.regionK ty_ok hs fun K hK => ?_
  simp only [go_sem, Nat.reduceAdd, Nat.reduceLT, Nat.reduceLeDiff, Nat.reduceEqDiff, Nat.reduceSub, Nat.reduceMul, Nat.reduceBEq, Nat.reduceBNe, Nat.reducePow, Nat.reduceDiv, Int.reduceLE, Int.reduceLT, Int.reduceToNat, Int.reduceNeg, Int.reduceAdd, Int.reduceSub, Int.reduceEq, reduceIte, reduceCtorEq, UInt8.reduceOfNat, hL, hTl]
  refine And.intro ⟨one_nds l, by omega, by omega⟩ ?_
  refine hK _ ?_
  clear hK K
  refine WA.seq ?_
  refine WA.regionK ty_ok hs fun K hK => ?_
  simp only [go_sem, Nat.reduceAdd, Nat.reduceLT, Nat.reduceLeDiff, Nat.reduceEqDiff, Nat.reduceSub, Nat.reduceMul, Nat.reduceBEq, Nat.reduceBNe, Nat.reducePow, Nat.reduceDiv, Int.reduceLE, Int.reduceLT, Int.reduceToNat, Int.reduceNeg, Int.reduceAdd, Int.reduceSub, Int.reduceEq, reduceIte, reduceCtorEq, UInt8.reduceOfNat, true_and]
  repeat refine And.intro (by first | omega | assumption | (simp; done) | (simp; omega) | (simp +contextual; done) | (simp_all; done) | (simp_all; omega)) ?_
  refine hK _ ?_
  clear hK K
  refine WA.cond rfl (fun h => ?_) (fun h => ?_)
  ·
    have r0 := nx_rng L z 70000 (by omega)
    refine WA.regionK ty_ok hs fun K hK => ?_
    simp only [go_sem, Nat.reduceAdd, Nat.reduceLT, Nat.reduceLeDiff, Nat.reduceEqDiff, Nat.reduceSub, Nat.reduceMul, Nat.reduceBEq, Nat.reduceBNe, Nat.reducePow, Nat.reduceDiv, Int.reduceLE, Int.reduceLT, Int.reduceToNat, Int.reduceNeg, Int.reduceAdd, Int.reduceSub, Int.reduceEq, reduceIte, reduceCtorEq, UInt8.reduceOfNat, sgDd, hd, hT]
    repeat refine And.intro (by first | omega | assumption | (simp; done) | (simp; omega) | (simp +contextual; done) | (simp_all; done) | (simp_all; omega)) ?_
    refine hK _ ?_
    clear hK K
    refine WA.sb 2088 (xs' := ndsA [.mk (nxI L z 70000 - 100) [] []]) rfl ⟨⟨Wk.rfl_ _, Wk.by_, Wk.li 3 (by omega), rfl⟩, rfl⟩ ?_
    have g4 : List.take 1 (ndsA [.mk (nxI L z 70000 - 100) [] []]) = ndsA [.mk (nxI L z 70000 - 100) [] []] := rfl
    have h1 : ([Nd.mk (nxI L z 70000 - 100) [] []] : List Nd).length = 1 := rfl
    refine WA.retE ty_ok (xs := [.li 3 (ndsA [.mk (nxI L z 70000 - 100) [] []])]) (ls' := [.li 2 [.agg [L, .lit (.int .i64 (nxZ L z))]]]) (rv := [.tmp 4]) rfl hX (by simp) (fun _ => rfl) (fun _ _ h => ⟨([.mk (nxI L z 70000 - 100) [] []], nxZ L z), ⟨⟨by show 1 ≤ b + 1; omega, by simp [okMs, okM]⟩, d1⟩, h⟩) ?_
    simp only [go_sem, Nat.reduceAdd, Nat.reduceLT, Nat.reduceLeDiff, Nat.reduceEqDiff, Nat.reduceSub, Nat.reduceMul, Nat.reduceBEq, Nat.reduceBNe, Nat.reducePow, Nat.reduceDiv, Int.reduceLE, Int.reduceLT, Int.reduceToNat, Int.reduceNeg, Int.reduceAdd, Int.reduceSub, Int.reduceEq, reduceIte, reduceCtorEq, UInt8.reduceOfNat, hT, Tr_nds, TrC_nds, g4, nds_len, h1, Nat.le_refl]
  ·
    have h : ¬ (l.length : Int) = 0 := by first | (simp only [Bool.and_eq_true, Bool.or_eq_true, Bool.not_eq_true', decide_eq_true_eq, decide_eq_false_iff_not, beq_iff_eq, bne_iff_ne, ne_eq, Bool.not_eq_eq_eq_not, Bool.not_true, Bool.not_false, beq_eq_false_iff_ne, bne_eq_false_iff_eq, Bool.and_eq_false_imp, Bool.or_eq_false_iff, Bool.cond_false_right, Bool.cond_true_left, Bool.cond_false_left, Bool.cond_true_right, gt_iff_lt, ge_iff_le, true_and] at h; first | exact h | omega) | omega | simpa using h
    have r1 := nx_rng L z (l.length : Nat) (by omega)
    obtain ⟨k, e1⟩ : ∃ v, nxI L z (l.length : Nat) = v := ⟨_, rfl⟩
    rw [e1] at r1
    obtain ⟨k, rfl⟩ := Int.eq_ofNat_of_zero_le r1.1
    have hk : k < l.length := by omega
    have g := nd_at hk
    have hnk := okM_of.1 ((okMs_iff b l).1 hok l[k] (List.getElem_mem hk))
    with_reducible refine WA.skipN ?_
    repeat first | with_reducible refine WN.t ?_ | with_reducible refine WN.b ?_
    refine WA.regionK ty_ok hs fun K hK => ?_
    simp only [go_sem, Nat.reduceAdd, Nat.reduceLT, Nat.reduceLeDiff, Nat.reduceEqDiff, Nat.reduceSub, Nat.reduceMul, Nat.reduceBEq, Nat.reduceBNe, Nat.reducePow, Nat.reduceDiv, Int.reduceLE, Int.reduceLT, Int.reduceToNat, Int.reduceNeg, Int.reduceAdd, Int.reduceSub, Int.reduceEq, reduceIte, reduceCtorEq, UInt8.reduceOfNat, sgDd, hd, hT, hL, e1]
    repeat refine And.intro (by first | omega | assumption | (simp; done) | (simp; omega) | (simp +contextual; done) | (simp_all; done) | (simp_all; omega)) ?_
    refine hK _ ?_
    clear hK K
    refine WA.seq ?_
    refine WA.regionK ty_ok hs fun K hK => ?_
    simp only [go_sem, Nat.reduceAdd, Nat.reduceLT, Nat.reduceLeDiff, Nat.reduceEqDiff, Nat.reduceSub, Nat.reduceMul, Nat.reduceBEq, Nat.reduceBNe, Nat.reducePow, Nat.reduceDiv, Int.reduceLE, Int.reduceLT, Int.reduceToNat, Int.reduceNeg, Int.reduceAdd, Int.reduceSub, Int.reduceEq, reduceIte, reduceCtorEq, UInt8.reduceOfNat, sgDd, d1, hT]
    repeat refine And.intro (by first | omega | assumption | (simp; done) | (simp; omega) | (simp +contextual; done) | (simp_all; done) | (simp_all; omega)) ?_
    refine hK _ ?_
    clear hK K
    refine WA.block ?_
    refine WA.regionK ty_ok hs fun K hK => ?_
    simp only [go_sem, Nat.reduceAdd, Nat.reduceLT, Nat.reduceLeDiff, Nat.reduceEqDiff, Nat.reduceSub, Nat.reduceMul, Nat.reduceBEq, Nat.reduceBNe, Nat.reducePow, Nat.reduceDiv, Int.reduceLE, Int.reduceLT, Int.reduceToNat, Int.reduceNeg, Int.reduceAdd, Int.reduceSub, Int.reduceEq, reduceIte, reduceCtorEq, UInt8.reduceOfNat, true_and]
    repeat refine And.intro (by first | omega | assumption | (simp; done) | (simp; omega) | (simp +contextual; done) | (simp_all; done) | (simp_all; omega)) ?_
    refine hK _ ?_
    clear hK K
    refine WA.cond rfl (fun h => ?_) (fun h => ?_)
    ·
      obtain ⟨v, g2, _⟩ := pick_at (l := [0, 31, 63, 24320, 24448, 256, -1, 32590, 65536]) (nx_rng L (nxZ L (nxZ L z)) 9 (by omega))
      have r2 := nx_rng L (nxZ L (nxZ L z)) 9 (by omega)
      simp only [List.map_cons, List.map_nil] at g2
      have g3 : (ndsA l).set k (.agg [.lit (.int .i64 v), .by_ l[k].val, .li 3 (ndsA l[k].kids)]) = ndsA (l.set k (Nd.mk v l[k].val l[k].kids)) := nds_set l k (Nd.mk v l[k].val l[k].kids)
      have g4 : List.take l.length (ndsA (l.set k (Nd.mk v l[k].val l[k].kids))) = ndsA (l.set k (Nd.mk v l[k].val l[k].kids)) := List.take_of_length_le (by rw [nds_len, List.length_set]; omega)
      refine WA.regionE ty_ok hs fun K hK => ?_
      simp only [go_sem, Nat.reduceAdd, Nat.reduceLT, Nat.reduceLeDiff, Nat.reduceEqDiff, Nat.reduceSub, Nat.reduceMul, Nat.reduceBEq, Nat.reduceBNe, Nat.reducePow, Nat.reduceDiv, Int.reduceLE, Int.reduceLT, Int.reduceToNat, Int.reduceNeg, Int.reduceAdd, Int.reduceSub, Int.reduceEq, reduceIte, reduceCtorEq, UInt8.reduceOfNat, sgDd, d2, hT, g, g2, g3, hL]
      repeat refine And.intro (by first | omega | assumption | (simp; done) | (simp; omega) | (simp +contextual; done) | (simp_all; done) | (simp_all; omega)) ?_
      with_reducible refine hK _ (WN.mk ?_)
      clear hK K
      repeat first | with_reducible refine WN.t ?_ | with_reducible refine WN.b ?_
      refine WA.regionK ty_ok hs fun K hK => ?_
      simp only [go_sem, Nat.reduceAdd, Nat.reduceLT, Nat.reduceLeDiff, Nat.reduceEqDiff, Nat.reduceSub, Nat.reduceMul, Nat.reduceBEq, Nat.reduceBNe, Nat.reducePow, Nat.reduceDiv, Int.reduceLE, Int.reduceLT, Int.reduceToNat, Int.reduceNeg, Int.reduceAdd, Int.reduceSub, Int.reduceEq, reduceIte, reduceCtorEq, UInt8.reduceOfNat, true_and]
      repeat refine And.intro (by first | omega | assumption | (simp; done) | (simp; omega) | (simp +contextual; done) | (simp_all; done) | (simp_all; omega)) ?_
      refine hK _ ?_
      clear hK K
      refine WA.retE ty_ok (xs := [.li 3 (ndsA (l.set k (Nd.mk v l[k].val l[k].kids)))]) (ls' := [.li 2 [.agg [L, .lit (.int .i64 (nxZ L (nxZ L (nxZ L z))))]]]) (rv := [.tmp 4]) rfl hX (by simp) (fun _ => rfl) (fun _ _ h => ⟨(l.set k (Nd.mk v l[k].val l[k].kids), (nxZ L (nxZ L (nxZ L z)))), ⟨⟨by simp only [List.length_set]; omega, okMs_set (okMs_mono (by omega) l hok) (by rw [okM]; exact ⟨by omega, okMs_mono (by omega) _ hnk.2⟩)⟩, d3⟩, h⟩) ?_
      simp only [go_sem, Nat.reduceAdd, Nat.reduceLT, Nat.reduceLeDiff, Nat.reduceEqDiff, Nat.reduceSub, Nat.reduceMul, Nat.reduceBEq, Nat.reduceBNe, Nat.reducePow, Nat.reduceDiv, Int.reduceLE, Int.reduceLT, Int.reduceToNat, Int.reduceNeg, Int.reduceAdd, Int.reduceSub, Int.reduceEq, reduceIte, reduceCtorEq, UInt8.reduceOfNat, hT, Tr_nds, TrC_nds, g3, g4, nds_len, List.length_set, Nat.le_refl]
    clear h
    refine WA.regionK ty_ok hs fun K hK => ?_
    simp only [go_sem, Nat.reduceAdd, Nat.reduceLT, Nat.reduceLeDiff, Nat.reduceEqDiff, Nat.reduceSub, Nat.reduceMul, Nat.reduceBEq, Nat.reduceBNe, Nat.reducePow, Nat.reduceDiv, Int.reduceLE, Int.reduceLT, Int.reduceToNat, Int.reduceNeg, Int.reduceAdd, Int.reduceSub, Int.reduceEq, reduceIte, reduceCtorEq, UInt8.reduceOfNat, true_and]
    repeat refine And.intro (by first | omega | assumption | (simp; done) | (simp; omega) | (simp +contextual; done) | (simp_all; done) | (simp_all; omega)) ?_
    refine hK _ ?_
    clear hK K
    refine WA.cond rfl (fun h => ?_) (fun h => ?_)
    ·
      have g3 : (ndsA l).set k (.agg [.lit (.int .i64 l[k].tag), .by_ (l[k].val ++ [7]), .li 3 (ndsA l[k].kids)]) = ndsA (l.set k (Nd.mk l[k].tag (l[k].val ++ [7]) l[k].kids)) := nds_set l k (Nd.mk l[k].tag (l[k].val ++ [7]) l[k].kids)
      have g4 : List.take l.length (ndsA (l.set k (Nd.mk l[k].tag (l[k].val ++ [7]) l[k].kids))) = ndsA (l.set k (Nd.mk l[k].tag (l[k].val ++ [7]) l[k].kids)) := List.take_of_length_le (by rw [nds_len, List.length_set]; omega)
      refine WA.regionE ty_ok hs fun K hK => ?_
      simp only [go_sem, Nat.reduceAdd, Nat.reduceLT, Nat.reduceLeDiff, Nat.reduceEqDiff, Nat.reduceSub, Nat.reduceMul, Nat.reduceBEq, Nat.reduceBNe, Nat.reducePow, Nat.reduceDiv, Int.reduceLE, Int.reduceLT, Int.reduceToNat, Int.reduceNeg, Int.reduceAdd, Int.reduceSub, Int.reduceEq, reduceIte, reduceCtorEq, UInt8.reduceOfNat, g, hL]
      repeat refine And.intro (by first | omega | assumption | (simp; done) | (simp; omega) | (simp +contextual; done) | (simp_all; done) | (simp_all; omega)) ?_
      with_reducible refine hK _ (WN.mk ?_)
      clear hK K
      repeat first | with_reducible refine WN.t ?_ | with_reducible refine WN.b ?_
      have g8 : List.take (l[k].val.length + 1) (l[k].val ++ [7]) = l[k].val ++ [7] := List.take_of_length_le (by simp)
      refine WA.norm 2016 fun K hK => ?_
      simp only [go_sem, Nat.reduceAdd, Nat.reduceLT, Nat.reduceLeDiff, Nat.reduceEqDiff, Nat.reduceSub, Nat.reduceMul, Nat.reduceBEq, Nat.reduceBNe, Nat.reducePow, Nat.reduceDiv, Int.reduceLE, Int.reduceLT, Int.reduceToNat, Int.reduceNeg, Int.reduceAdd, Int.reduceSub, Int.reduceEq, reduceIte, reduceCtorEq, UInt8.reduceOfNat, cvM_nset hk, Tr_nds, g8, g3]
      repeat refine And.intro (by first | omega | assumption | (simp; done) | (simp; omega) | (simp +contextual; done) | (simp_all; done) | (simp_all; omega)) ?_
      refine hK _ ?_
      clear hK K
      refine WA.regionK ty_ok hs fun K hK => ?_
      simp only [go_sem, Nat.reduceAdd, Nat.reduceLT, Nat.reduceLeDiff, Nat.reduceEqDiff, Nat.reduceSub, Nat.reduceMul, Nat.reduceBEq, Nat.reduceBNe, Nat.reducePow, Nat.reduceDiv, Int.reduceLE, Int.reduceLT, Int.reduceToNat, Int.reduceNeg, Int.reduceAdd, Int.reduceSub, Int.reduceEq, reduceIte, reduceCtorEq, UInt8.reduceOfNat, true_and]
      repeat refine And.intro (by first | omega | assumption | (simp; done) | (simp; omega) | (simp +contextual; done) | (simp_all; done) | (simp_all; omega)) ?_
      refine hK _ ?_
      clear hK K
      refine WA.retE ty_ok (xs := [.li 3 (ndsA (l.set k (Nd.mk l[k].tag (l[k].val ++ [7]) l[k].kids)))]) (ls' := [.li 2 [.agg [L, .lit (.int .i64 (nxZ L (nxZ L z)))]]]) (rv := [.tmp 4]) rfl hX (by simp) (fun _ => rfl) (fun _ _ h => ⟨(l.set k (Nd.mk l[k].tag (l[k].val ++ [7]) l[k].kids), (nxZ L (nxZ L z))), ⟨⟨by simp only [List.length_set]; omega, okMs_set (okMs_mono (by omega) l hok) (by rw [okM]; exact ⟨by rw [List.length_append]; simp; omega, okMs_mono (by omega) _ hnk.2⟩)⟩, d2⟩, h⟩) ?_
      simp only [go_sem, Nat.reduceAdd, Nat.reduceLT, Nat.reduceLeDiff, Nat.reduceEqDiff, Nat.reduceSub, Nat.reduceMul, Nat.reduceBEq, Nat.reduceBNe, Nat.reducePow, Nat.reduceDiv, Int.reduceLE, Int.reduceLT, Int.reduceToNat, Int.reduceNeg, Int.reduceAdd, Int.reduceSub, Int.reduceEq, reduceIte, reduceCtorEq, UInt8.reduceOfNat, hT, Tr_nds, TrC_nds, g3, g4, nds_len, List.length_set, Nat.le_refl]
    clear h
    refine WA.regionK ty_ok hs fun K hK => ?_
    simp only [go_sem, Nat.reduceAdd, Nat.reduceLT, Nat.reduceLeDiff, Nat.reduceEqDiff, Nat.reduceSub, Nat.reduceMul, Nat.reduceBEq, Nat.reduceBNe, Nat.reducePow, Nat.reduceDiv, Int.reduceLE, Int.reduceLT, Int.reduceToNat, Int.reduceNeg, Int.reduceAdd, Int.reduceSub, Int.reduceEq, reduceIte, reduceCtorEq, UInt8.reduceOfNat, true_and]
    repeat refine And.intro (by first | omega | assumption | (simp; done) | (simp; omega) | (simp +contextual; done) | (simp_all; done) | (simp_all; omega)) ?_
    refine hK _ ?_
    clear hK K
    refine WA.cond rfl (fun h => ?_) (fun h => ?_)
    ·
      have g3 : (ndsA l).set k (.agg [.lit (.int .i64 l[k].tag), .by_ l[k].val, .li 3 (ndsA (l[k].kids ++ [Nd.mk 4 [] []]))]) = ndsA (l.set k (Nd.mk l[k].tag l[k].val (l[k].kids ++ [Nd.mk 4 [] []]))) := nds_set l k (Nd.mk l[k].tag l[k].val (l[k].kids ++ [Nd.mk 4 [] []]))
      have g4 : List.take l.length (ndsA (l.set k (Nd.mk l[k].tag l[k].val (l[k].kids ++ [Nd.mk 4 [] []])))) = ndsA (l.set k (Nd.mk l[k].tag l[k].val (l[k].kids ++ [Nd.mk 4 [] []]))) := List.take_of_length_le (by rw [nds_len, List.length_set]; omega)
      refine WA.regionE ty_ok hs fun K hK => ?_
      simp only [go_sem, Nat.reduceAdd, Nat.reduceLT, Nat.reduceLeDiff, Nat.reduceEqDiff, Nat.reduceSub, Nat.reduceMul, Nat.reduceBEq, Nat.reduceBNe, Nat.reducePow, Nat.reduceDiv, Int.reduceLE, Int.reduceLT, Int.reduceToNat, Int.reduceNeg, Int.reduceAdd, Int.reduceSub, Int.reduceEq, reduceIte, reduceCtorEq, UInt8.reduceOfNat, g, hL]
      refine And.intro ⟨by omega, hk, ⟨one_nds _, by omega, by omega⟩, ⟨by omega, by omega⟩, by omega, hk⟩ ?_
      with_reducible refine hK _ (WN.mk ?_)
      clear hK K
      repeat first | with_reducible refine WN.t ?_ | with_reducible refine WN.b ?_
      refine WA.sb 2240 (xs' := ndsA (l[k].kids ++ [Nd.mk 4 [] []])) rfl (by rw [← nds_app]; exact WkL.app (WkL.rfl_ _) ⟨⟨Wk.rfl_ _, Wk.by_, Wk.li 3 (by omega), rfl⟩, rfl⟩) ?_
      have g8 : List.take (l[k].kids.length + 1) (ndsA (l[k].kids ++ [Nd.mk 4 [] []])) = ndsA (l[k].kids ++ [Nd.mk 4 [] []]) := List.take_of_length_le (by rw [nds_len, List.length_append]; simp)
      have g9 : (l[k].kids ++ [Nd.mk 4 [] []]).length = l[k].kids.length + 1 := by simp
      refine WA.norm 2016 fun K hK => ?_
      simp only [go_sem, Nat.reduceAdd, Nat.reduceLT, Nat.reduceLeDiff, Nat.reduceEqDiff, Nat.reduceSub, Nat.reduceMul, Nat.reduceBEq, Nat.reduceBNe, Nat.reducePow, Nat.reduceDiv, Int.reduceLE, Int.reduceLT, Int.reduceToNat, Int.reduceNeg, Int.reduceAdd, Int.reduceSub, Int.reduceEq, reduceIte, reduceCtorEq, UInt8.reduceOfNat, cvM_nset hk, Tr_nds, TrC_nds, g8, g9, nds_len, g3]
      repeat refine And.intro (by first | omega | assumption | (simp; done) | (simp; omega) | (simp +contextual; done) | (simp_all; done) | (simp_all; omega)) ?_
      refine hK _ ?_
      clear hK K
      refine WA.regionK ty_ok hs fun K hK => ?_
      simp only [go_sem, Nat.reduceAdd, Nat.reduceLT, Nat.reduceLeDiff, Nat.reduceEqDiff, Nat.reduceSub, Nat.reduceMul, Nat.reduceBEq, Nat.reduceBNe, Nat.reducePow, Nat.reduceDiv, Int.reduceLE, Int.reduceLT, Int.reduceToNat, Int.reduceNeg, Int.reduceAdd, Int.reduceSub, Int.reduceEq, reduceIte, reduceCtorEq, UInt8.reduceOfNat, true_and]
      repeat refine And.intro (by first | omega | assumption | (simp; done) | (simp; omega) | (simp +contextual; done) | (simp_all; done) | (simp_all; omega)) ?_
      refine hK _ ?_
      clear hK K
      refine WA.retE ty_ok (xs := [.li 3 (ndsA (l.set k (Nd.mk l[k].tag l[k].val (l[k].kids ++ [Nd.mk 4 [] []]))))]) (ls' := [.li 2 [.agg [L, .lit (.int .i64 (nxZ L (nxZ L z)))]]]) (rv := [.tmp 4]) rfl hX (by simp) (fun _ => rfl) (fun _ _ h => ⟨(l.set k (Nd.mk l[k].tag l[k].val (l[k].kids ++ [Nd.mk 4 [] []])), (nxZ L (nxZ L z))), ⟨⟨by simp only [List.length_set]; omega, okMs_set (okMs_mono (by omega) l hok) (by
            rw [okM]
            refine ⟨by rw [g9]; omega, ?_⟩
            rw [okMs_iff]
            intro x hx
            rcases List.mem_append.1 hx with hx | hx
            · exact okM_mono (by omega) x ((okMs_iff b _).1 hnk.2 x hx)
            · rw [List.mem_singleton.1 hx]; simp [okM, okMs])⟩, d2⟩, h⟩) ?_
      simp only [go_sem, Nat.reduceAdd, Nat.reduceLT, Nat.reduceLeDiff, Nat.reduceEqDiff, Nat.reduceSub, Nat.reduceMul, Nat.reduceBEq, Nat.reduceBNe, Nat.reducePow, Nat.reduceDiv, Int.reduceLE, Int.reduceLT, Int.reduceToNat, Int.reduceNeg, Int.reduceAdd, Int.reduceSub, Int.reduceEq, reduceIte, reduceCtorEq, UInt8.reduceOfNat, hT, Tr_nds, TrC_nds, g3, g4, nds_len, List.length_set, Nat.le_refl]
    ·
      have g2 := un_nds l[k].kids
      have g5 : ndsS l[k].kids < n := by have := ndsS_at hk; omega
      refine WA.regQE ty_ok hs ht fun K hK => ?_
      simp only [go_sem, Nat.reduceAdd, Nat.reduceLT, Nat.reduceLeDiff, Nat.reduceEqDiff, Nat.reduceSub, Nat.reduceMul, Nat.reduceBEq, Nat.reduceBNe, Nat.reducePow, Nat.reduceDiv, Int.reduceLE, Int.reduceLT, Int.reduceToNat, Int.reduceNeg, Int.reduceAdd, Int.reduceSub, Int.reduceEq, reduceIte, reduceCtorEq, UInt8.reduceOfNat, stOd, d2, hT, g, g2, g5, hL, hk, hnk.1.2, hnk.2, Tr_nds]
      repeat refine And.intro (by first | omega | assumption | (simp; done) | (simp; omega) | (simp +contextual; done) | (simp_all; done) | (simp_all; omega)) ?_
      rintro ⟨m, z3⟩ ⟨⟨hm1, hm2⟩, d4⟩
      try dsimp only at hm1 hm2 d4
      try dsimp only
      repeat refine And.intro (by first | omega | assumption | (simp; done) | (simp; omega) | (simp +contextual; done) | (simp_all; done) | (simp_all; omega)) ?_
      with_reducible refine hK _ (WN.mk ?_)
      clear hK K
      repeat first | with_reducible refine WN.t ?_ | with_reducible refine WN.b ?_
      have g3 : (ndsA l).set k (.agg [.lit (.int .i64 l[k].tag), .by_ l[k].val, .li 3 (ndsA m)]) = ndsA (l.set k (Nd.mk l[k].tag l[k].val m)) := nds_set l k (Nd.mk l[k].tag l[k].val m)
      have g4 : List.take l.length (ndsA (l.set k (Nd.mk l[k].tag l[k].val m))) = ndsA (l.set k (Nd.mk l[k].tag l[k].val m)) := List.take_of_length_le (by rw [nds_len, List.length_set]; omega)
      refine WA.regionK ty_ok hs fun K hK => ?_
      simp only [go_sem, Nat.reduceAdd, Nat.reduceLT, Nat.reduceLeDiff, Nat.reduceEqDiff, Nat.reduceSub, Nat.reduceMul, Nat.reduceBEq, Nat.reduceBNe, Nat.reducePow, Nat.reduceDiv, Int.reduceLE, Int.reduceLT, Int.reduceToNat, Int.reduceNeg, Int.reduceAdd, Int.reduceSub, Int.reduceEq, reduceIte, reduceCtorEq, UInt8.reduceOfNat, true_and]
      repeat refine And.intro (by first | omega | assumption | (simp; done) | (simp; omega) | (simp +contextual; done) | (simp_all; done) | (simp_all; omega)) ?_
      refine hK _ ?_
      clear hK K
      refine WA.retE ty_ok (xs := [.li 3 (ndsA (l.set k (Nd.mk l[k].tag l[k].val m)))]) (ls' := [.li 2 [.agg [L, .lit (.int .i64 z3)]]]) (rv := [.tmp 4]) rfl hX (by simp) (fun _ => rfl) (fun _ _ h => ⟨(l.set k (Nd.mk l[k].tag l[k].val m), z3), ⟨⟨by simp only [List.length_set]; omega, okMs_set (okMs_mono (by omega) l hok) (by rw [okM]; exact ⟨by omega, hm2⟩)⟩, d4⟩, h⟩) ?_
      simp only [go_sem, Nat.reduceAdd, Nat.reduceLT, Nat.reduceLeDiff, Nat.reduceEqDiff, Nat.reduceSub, Nat.reduceMul, Nat.reduceBEq, Nat.reduceBNe, Nat.reducePow, Nat.reduceDiv, Int.reduceLE, Int.reduceLT, Int.reduceToNat, Int.reduceNeg, Int.reduceAdd, Int.reduceSub, Int.reduceEq, reduceIte, reduceCtorEq, UInt8.reduceOfNat, hT, Tr_nds, TrC_nds, g3, g4, nds_len, List.length_set, Nat.le_refl]
end Go.Proofs.Ytloihfflblgioaa
