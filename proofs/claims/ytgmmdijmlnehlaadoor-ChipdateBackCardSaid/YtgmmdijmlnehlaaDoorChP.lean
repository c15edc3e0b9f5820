import Derived.Test.YtgmmdijmlnehlaaDoorDiceA
import Derived.Lib.SliceRun
import Derived.Test.YtgmmdijmlnehlaaDoorChO
namespace Go.TravelAbs
open Go.RowKit Go.TravelBase
set_option linter.unusedVariables false
set_option linter.unusedSimpArgs false

/-! ## A slice compared with nil -/
theorem VR.li_inv {w : World} {S : CSet} {m : RMap} {es : Nat} {xs : List AV} {v : Value} (h : VR w S m (.li es xs) v) : ∃ A c, v = .slice A xs.length c ∧ (A.isNone = true → xs = []) := by
  cases h with
  | li us hn hc hm h0 hes he hA h =>
    rename_i A n c
    refine ⟨A, c, by rw [hn], fun q => ?_⟩
    have := h0 (Option.isNone_iff_eq_none.1 q)
    exact List.length_eq_zero_iff.1 (by omega)
theorem VR.by_inv {w : World} {S : CSet} {m : RMap} {bs : List UInt8} {v : Value} (h : VR w S m (.by_ bs) v) : ∃ A c, v = .slice A bs.length c ∧ (A.isNone = true → bs = []) := by
  cases h with
  | by_ hn hc hm h0 hA =>
    rename_i A n c
    refine ⟨A, c, by rw [hn], fun q => ?_⟩
    have := h0 (Option.isNone_iff_eq_none.1 q)
    exact List.length_eq_zero_iff.1 (by omega)
def isB : AV → Bool
  | .by_ _ => true
  | .li _ _ => true
  | _ => false
section
variable {P : Program} {ty : Ty} {X : Cx} {Q : Exit → Act → World → Prop}
theorem WA.nilTest {s : St} {id t t2 e a d1 d2 : Nat} {o1 o2 : Oper} {y : Code} {x : AV} (hT : TysOK P ty) (ht : P.underlying t = some (.slice e)) (h1 : o1.op = .move (.tmp a)) (g1 : o1.guard = none) (e1 : o1.dst = some d1) (h2 : o2.op = .binOp .eql t (.tmp d1) (.const (.slice none 0 0)) t2) (g2 : o2.guard = none) (e2 : o2.dst = some d2)
    (hx : gt s.tm a = x) (hi : isB x = true) (hd1 : d1 < s.sz) (hd2 : d2 < s.sz) (h : ∀ b : Bool, (b = true → cN x = 0) → WA P X y Q ⟨(d2, .lit (.bool b)) :: (d1, x) :: s.tm, s.H, s.ctr + 16, s.sz⟩) : WA P X (.seq (.region id [o1, o2].toArray false) y) Q s := by
  refine WA.seq fun ac w hR => wp_region_list ?_
  obtain ⟨S, m, hM, hm⟩ := hR.mem
  refine wpList_step fun K hK => ?_
  rw [if_pos (by simp [Region.wanted, g1])]
  have k1 : evX ty (fun _ _ _ => none) s.H s.ctr (opnd s.tm) o1.op = some ⟨x, [], True⟩ := by
    simp only [evX, h1, evA, opnd, hx]
  refine evX_ok hT (σ := fun _ _ _ => none) (fun _ _ _ _ _ _ h => by cases h) hM (opnd_VR hM.gl hm) (fun i _ => hR.kl _ (Nat.le_add_right _ _)) k1 trivial fun v w1 hL => hK _ _ ?_
  have hR1 := hR.step (o := o1) (out := ⟨x, [], True⟩) ⟨by rw [e1]; simpa [dOK] using hd1, rfl⟩ hM hm hL
  obtain ⟨S1, m1, hM1, hm1⟩ := hR1.mem
  refine wpList_step fun K' hK' => ?_
  rw [if_pos (by simp [Region.wanted, g2])]
  have hv : VR w1 S1 m1 x ((ac.put o1.dst v).eval (.tmp d1)) := by
    have := hm1 d1
    rw [stepS, e1, putT, gt, lk, if_pos rfl] at this
    rw [e1]
    exact this
  have key : ∃ A n c, (ac.put o1.dst v).eval (.tmp d1) = .slice A n c ∧ (A.isNone = true → cN x = 0) := by
    cases x with
    | by_ bs =>
      obtain ⟨A, c, q1, q2⟩ := hv.by_inv
      exact ⟨A, _, c, q1, fun q => by rw [q2 q]; rfl⟩
    | li es xs =>
      obtain ⟨A, c, q1, q2⟩ := hv.li_inv
      exact ⟨A, _, c, q1, fun q => by rw [q2 q]; rfl⟩
    | _ => simp [isB] at hi
  obtain ⟨A, n, c, q1, q2⟩ := key
  unfold Oper.wp
  have hrun : (execOp (ac.put o1.dst v).eval o2).run P w1 = .ok (.value (.bool A.isNone)) w1 := by
    unfold execOp
    rw [h2]
    simp only [Sem.run_bind, q1]
    have e3 : (ac.put o1.dst v).eval (.const (.slice none 0 0)) = .slice none 0 0 := rfl
    rw [e3]
    have e4 := Lib.run_eql_slice_nil (P := P) w1 t e A n c 0 0 ht
    simp [eqGuard, e4]
  rw [hrun]
  have hL2 : Left X (stepS s o1 ⟨x, [], True⟩).H S1 m1 w1 ⟨.lit (.bool A.isNone), [], True⟩ (.bool A.isNone) w1 := ⟨S1, m1, Adv.refl _ _ _, hM1, .lit _⟩
  have hR2 := hR1.step (o := o2) (out := ⟨.lit (.bool A.isNone), [], True⟩) ⟨by rw [e2]; exact decide_eq_true hd2, rfl⟩ hM1 hm1 hL2
  refine hK' _ _ (wpList_nil ?_)
  have := h A.isNone q2
  rw [e1, e2]
  simp only [stepS, e1, e2, putT, List.nil_append, Nat.add_assoc, Nat.reduceAdd] at hR2
  exact this _ _ hR2
end
end Go.TravelAbs

namespace Go.Proofs.YtgmmdijmlnehlaaDoor
open Go.RowKit Go.TravelBase Go.TravelAbs
set_option linter.unusedVariables false
set_option linter.unusedSimpArgs false



















/-! ### Learn -/
structure Cn where
  hold : List UInt8
  key : Int
  role : Int
  rt : Int
  fr : Int
  til : Int
def cnA (c : Cn) : AV := .agg [.lit (.string (strB c.hold)), .lit (.int .i64 c.key), .lit (.int .i64 c.role), .lit (.int .i64 c.rt), .lit (.int .i64 c.fr), .lit (.int .i64 c.til)]
theorem cl_pts (l : List Pt) : ∀ x ∈ l.map ptA, x.cl.length = 5 := fun x hx => by
  obtain ⟨p, _, rfl⟩ := List.mem_map.1 hx
  rfl
theorem pclone_s (l : List Pt) (hl : l.length ≤ 1000000000) : FnS Tryd.prog 42 [.li 5 (l.map ptA)] [] (.fr (.li 5 (l.map ptA))) [] := by
  have hs := sg0_ok
  refine FnS.of Tryd.func42 rfl (N := 8) rfl (by simp) (by simp) fun X hX => ?_
  simp only [tmArgs, lentH, Nat.reduceAdd]
  refine WA.regionK ty_ok hs fun K hK => ?_
  simp only [go_sem, Nat.reduceAdd, Nat.reduceLT, Nat.reduceLeDiff, Nat.reduceEqDiff, Nat.reduceSub, Nat.reduceMul, Nat.reduceBEq, Nat.reduceBNe, Nat.reducePow, Nat.reduceDiv, Int.reduceLE, Int.reduceLT, Int.reduceToNat, Int.reduceNeg, Int.reduceAdd, Int.reduceSub, Int.reduceEq, reduceIte, reduceCtorEq, UInt8.reduceOfNat, true_and]
  repeat refine And.intro (by first | omega | assumption | (simp; done) | (simp; omega) | (simp +contextual; done) | (simp_all; done) | (simp_all; omega)) ?_
  refine hK _ ?_
  clear hK K
  refine WA.seq ?_
  refine WA.nilTest (a := 0) ty_ok (Tryd.underlying22) rfl rfl rfl rfl rfl rfl (x := .li 5 (l.map ptA)) rfl rfl (show 3 < 8 by decide) (show 4 < 8 by decide) fun b hb => ?_
  refine WA.cond rfl (fun h => ?_) (fun h => ?_)
  ·
    have h0 : l = [] := by
      have : (l.map ptA).length = 0 := hb h
      exact List.length_eq_zero_iff.1 (by simpa using this)
    subst h0
    refine WA.regionK ty_ok hs fun K hK => ?_
    simp only [go_sem, Nat.reduceAdd, Nat.reduceLT, Nat.reduceLeDiff, Nat.reduceEqDiff, Nat.reduceSub, Nat.reduceMul, Nat.reduceBEq, Nat.reduceBNe, Nat.reducePow, Nat.reduceDiv, Int.reduceLE, Int.reduceLT, Int.reduceToNat, Int.reduceNeg, Int.reduceAdd, Int.reduceSub, Int.reduceEq, reduceIte, reduceCtorEq, UInt8.reduceOfNat, true_and]
    repeat refine And.intro (by first | omega | assumption | (simp; done) | (simp; omega) | (simp +contextual; done) | (simp_all; done) | (simp_all; omega)) ?_
    refine hK _ ?_
    clear hK K
    refine WA.own0 2 (.li 5 []) rfl rfl ?_
    refine WA.retE ty_ok (xs := [.fr (.li 5 [])]) (ls' := []) (rv := [.tmp 2]) rfl hX (by decide) (fun _ => rfl) (fun _ _ h => h) ?_
    simp only [go_sem, Nat.reduceAdd, Nat.reduceLT, Nat.reduceLeDiff, Nat.reduceEqDiff, Nat.reduceSub, Nat.reduceMul, Nat.reduceBEq, Nat.reduceBNe, Nat.reducePow, Nat.reduceDiv, Int.reduceLE, Int.reduceLT, Int.reduceToNat, Int.reduceNeg, Int.reduceAdd, Int.reduceSub, Int.reduceEq, reduceIte, reduceCtorEq, UInt8.reduceOfNat, sbT]
    all_goals (first | done | exact Nat.le_refl _ | (simp; done) | (and_intros <;> first | omega | exact Nat.le_refl _ | (simp; done) | (simp; omega)))
  ·
    with_reducible refine WA.skipN ?_
    repeat first | with_reducible refine WN.t ?_ | with_reducible refine WN.b ?_
    refine WA.regionK ty_ok hs fun K hK => ?_
    simp only [go_sem, Nat.reduceAdd, Nat.reduceLT, Nat.reduceLeDiff, Nat.reduceEqDiff, Nat.reduceSub, Nat.reduceMul, Nat.reduceBEq, Nat.reduceBNe, Nat.reducePow, Nat.reduceDiv, Int.reduceLE, Int.reduceLT, Int.reduceToNat, Int.reduceNeg, Int.reduceAdd, Int.reduceSub, Int.reduceEq, reduceIte, reduceCtorEq, UInt8.reduceOfNat, TrC_pts, take_pts, List.length_map, List.nil_append]
    refine And.intro ⟨fun x hx => by obtain ⟨p, _, rfl⟩ := List.mem_map.1 hx; rfl, by omega, by omega⟩ ?_
    refine hK _ ?_
    clear hK K
    refine WA.retE ty_ok (xs := [.fr (.li 5 (l.map ptA))]) (ls' := []) (rv := [.tmp 2]) rfl hX (by decide) (fun _ => rfl) (fun _ _ h => h) ?_
    simp only [go_sem, Nat.reduceAdd, Nat.reduceLT, Nat.reduceLeDiff, Nat.reduceEqDiff, Nat.reduceSub, Nat.reduceMul, Nat.reduceBEq, Nat.reduceBNe, Nat.reducePow, Nat.reduceDiv, Int.reduceLE, Int.reduceLT, Int.reduceToNat, Int.reduceNeg, Int.reduceAdd, Int.reduceSub, Int.reduceEq, reduceIte, reduceCtorEq, UInt8.reduceOfNat, sbT, TrC_pts, take_pts]
    all_goals (first | done | exact Nat.le_refl _ | (simp; done) | (and_intros <;> first | omega | exact Nat.le_refl _ | (simp; done) | (simp; omega)))
def datB (b : Cn) (c : Ct) : Bool := bif c.role != 4 then true else b.role == 2
theorem dates_s (b : Cn) (c : Ct) : FnS Tryd.prog 44 [cnA b, ctA c] [] (.lit (.bool (datB b c))) [] := by
  have hs := sg0_ok
  unfold cnA ctA
  refine FnS.of Tryd.func44 rfl (N := 13) rfl (by simp) (by simp) fun X hX => ?_
  simp only [tmArgs, lentH, Nat.reduceAdd]
  refine WA.regionK ty_ok hs fun K hK => ?_
  simp only [go_sem, Nat.reduceAdd, Nat.reduceLT, Nat.reduceLeDiff, Nat.reduceEqDiff, Nat.reduceSub, Nat.reduceMul, Nat.reduceBEq, Nat.reduceBNe, Nat.reducePow, Nat.reduceDiv, Int.reduceLE, Int.reduceLT, Int.reduceToNat, Int.reduceNeg, Int.reduceAdd, Int.reduceSub, Int.reduceEq, reduceIte, reduceCtorEq, UInt8.reduceOfNat, true_and]
  repeat refine And.intro (by first | omega | assumption | (simp; done) | (simp; omega) | (simp +contextual; done) | (simp_all; done) | (simp_all; omega)) ?_
  refine hK _ ?_
  clear hK K
  refine WA.regionK ty_ok hs fun K hK => ?_
  simp only [go_sem, Nat.reduceAdd, Nat.reduceLT, Nat.reduceLeDiff, Nat.reduceEqDiff, Nat.reduceSub, Nat.reduceMul, Nat.reduceBEq, Nat.reduceBNe, Nat.reducePow, Nat.reduceDiv, Int.reduceLE, Int.reduceLT, Int.reduceToNat, Int.reduceNeg, Int.reduceAdd, Int.reduceSub, Int.reduceEq, reduceIte, reduceCtorEq, UInt8.reduceOfNat, true_and]
  repeat refine And.intro (by first | omega | assumption | (simp; done) | (simp; omega) | (simp +contextual; done) | (simp_all; done) | (simp_all; omega)) ?_
  refine hK _ ?_
  clear hK K
  refine WA.retE ty_ok (xs := [.lit (.bool (datB b c))]) (ls' := []) (rv := [.tmp 4]) rfl hX (by decide) (fun _ => rfl) (fun _ _ h => h) ?_
  simp only [go_sem, Nat.reduceAdd, Nat.reduceLT, Nat.reduceLeDiff, Nat.reduceEqDiff, Nat.reduceSub, Nat.reduceMul, Nat.reduceBEq, Nat.reduceBNe, Nat.reducePow, Nat.reduceDiv, Int.reduceLE, Int.reduceLT, Int.reduceToNat, Int.reduceNeg, Int.reduceAdd, Int.reduceSub, Int.reduceEq, reduceIte, reduceCtorEq, UInt8.reduceOfNat, sbT, datB]
  all_goals (first | done | exact Nat.le_refl _ | (simp; done) | (and_intros <;> first | omega | exact Nat.le_refl _ | (simp; done) | (simp; omega)))
def nowI (t : Sto) (b : Cn) (c : Ct) : Int := if datB b c = true then max t.now c.fr else t.now
def newP (b : Cn) (c : Ct) : Pt := ⟨c.hold, c.key, bits .and .i64 c.rt b.rt, c.fr, c.til⟩
def keepL (now : Int) (l : List Pt) : List Pt := l.filter fun p => decide (now ≤ p.til)
def learnL (t : Sto) (b : Cn) (c : Ct) : List Pt := keepL (nowI t b c) t.pts ++ [newP b c]
def learnS (t : Sto) (b : Cn) (c : Ct) : Sto :=
  if validE t ≠ 0 ∨ checkE c ≠ 0 then t
  else if c.role ≠ 1 ∨ hasB t.pts c.hold = true then ⟨t.pts, nowI t b c⟩
  else ⟨if 2 < (learnL t b c).length then (learnL t b c).drop 1 else learnL t b c, nowI t b c⟩
def unC : AV → Cn
  | .agg [.lit (.string h), .lit (.int .i64 k), .lit (.int .i64 r), .lit (.int .i64 rt), .lit (.int .i64 f), .lit (.int .i64 t)] => ⟨h.data.toList, k, r, rt, f, t⟩
  | _ => ⟨[], 0, 0, 0, 0, 0⟩
def sgL : Sg := fun f args ls =>
  match f, args, ls with
  | 42, [.li es xs], [] => some (.fr (.li es xs), [], es = 5 ∧ xs = (xs.map unT).map ptA ∧ xs.length ≤ 1000000000)
  | 11, [.agg [.li es xs, .lit (.int .i64 now)]], [] => some (.lit (.int .i64 (validE ⟨xs.map unT, now⟩)), [], es = 5 ∧ xs = (xs.map unT).map ptA)
  | 43, [.agg [.lit (.string a), .lit (.string h), .lit (.int .i64 k), .lit (.int .i64 r), .lit (.int .i64 rt), .lit (.int .i64 fr), .lit (.int .i64 t), .lit (.int .i64 x), .lit (.int .i64 y)]], [] => some (.lit (.int .i64 (checkE ⟨a.data.toList, h.data.toList, k, r, rt, fr, t, x, y⟩)), [], True)
  | 44, [.agg [.lit (.string h'), .lit (.int .i64 k'), .lit (.int .i64 r'), .lit (.int .i64 rt'), .lit (.int .i64 fr'), .lit (.int .i64 t')], .agg [.lit (.string a), .lit (.string h), .lit (.int .i64 k), .lit (.int .i64 r), .lit (.int .i64 rt), .lit (.int .i64 fr), .lit (.int .i64 t), .lit (.int .i64 x), .lit (.int .i64 y)]], [] => some (.lit (.bool (datB ⟨h'.data.toList, k', r', rt', fr', t'⟩ ⟨a.data.toList, h.data.toList, k, r, rt, fr, t, x, y⟩)), [], True)
  | 27, [.li es xs, .lit (.string h)], [] => some (.lit (.bool (hasB (xs.map unT) (h.data.toList))), [], es = 5 ∧ xs = (xs.map unT).map ptA)
  | _, _, _ => none
theorem sgL_ok : SgOK Tryd.prog sgL := by
  intro f args ls r ls' vc h hvc
  unfold sgL at h
  split at h <;> first | (simp only [Option.some.injEq, Prod.mk.injEq] at h; obtain ⟨rfl, rfl, rfl⟩ := h) | cases h
  · obtain ⟨rfl, h2, h3⟩ := hvc
    refine ⟨(fnOK Tryd.func42 (by decide) rfl), ?_⟩
    rename_i xs
    have := pclone_s (xs.map unT) (by simpa using h3)
    rw [← h2] at this
    exact this
  · obtain ⟨rfl, h2⟩ := hvc
    refine ⟨(fnOK Tryd.func11 (by decide) rfl), ?_⟩
    rename_i xs now
    have := valid_s ⟨xs.map unT, now⟩
    unfold stoA at this
    rw [← h2] at this
    exact this
  · exact ⟨(fnOK Tryd.func43 (by decide) rfl), check_s ⟨_, _, _, _, _, _, _, _, _⟩⟩
  · exact ⟨(fnOK Tryd.func44 (by decide) rfl), dates_s ⟨_, _, _, _, _, _⟩ ⟨_, _, _, _, _, _, _, _, _⟩⟩
  · obtain ⟨rfl, h2⟩ := hvc
    refine ⟨(fnOK Tryd.func27 (by decide) rfl), ?_⟩
    rename_i xs h
    have := has_s (xs.map unT) h.data.toList
    rw [← h2] at this
    exact this
def kpI (N : Int) (l : List Pt) (np : Pt) (i : Nat) : List Pt := if i ≤ l.length then keepL N (l.take i) else keepL N l ++ [np]
theorem kpI_len (N : Int) (l : List Pt) (np : Pt) (i : Nat) : (kpI N l np i).length ≤ i := by
  unfold kpI keepL
  split
  · have := List.length_filter_le (fun p : Pt => decide (N ≤ p.til)) (l.take i)
    rw [List.length_take] at this
    omega
  · have := List.length_filter_le (fun p : Pt => decide (N ≤ p.til)) l
    rw [List.length_append, List.length_singleton]
    omega
theorem kpI_succ (N : Int) (l : List Pt) (np : Pt) {i : Nat} (h : i < (l ++ [np]).length) : kpI N l np (i + 1) = if i = l.length ∨ N ≤ (l ++ [np])[i].til then kpI N l np i ++ [(l ++ [np])[i]] else kpI N l np i := by
  rw [List.length_append, List.length_singleton] at h
  by_cases e : i = l.length
  · subst e
    rw [if_pos (.inl rfl)]
    unfold kpI
    rw [if_neg (by omega), if_pos (Nat.le_refl _), List.take_length]
    simp
  · have hi : i < l.length := by omega
    have k1 : kpI N l np (i + 1) = keepL N (l.take (i + 1)) := if_pos (by omega)
    have k2 : kpI N l np i = keepL N (l.take i) := if_pos (by omega)
    rw [k1, k2, List.take_add_one, List.getElem?_eq_getElem hi, List.getElem_append_left hi]
    unfold keepL
    rw [List.filter_append]
    by_cases e2 : N ≤ l[i].til
    · rw [if_pos (.inr e2)]
      simp [e2]
    · rw [if_neg (by omega)]
      simp [e2]
theorem kpI_end (N : Int) (l : List Pt) (np : Pt) : kpI N l np (l.length + 1) = keepL N l ++ [np] := by
  unfold kpI
  rw [if_neg (by omega)]
theorem learn_s (t : Sto) (b : Cn) (c : Ct) (hl : t.pts.length ≤ 1000000) : FnS Tryd.prog 20 [stoA t, cnA b, ctA c] [] (stoA (learnS t b c)) [] := by
  obtain ⟨l, now⟩ := t
  obtain ⟨bh, bk, br, brt, bf, bt⟩ := b
  obtain ⟨ci, ch, ck, cr, crt, cf, ct, cx, cy⟩ := c
  simp only at hl
  have hs := sgL_ok
  unfold stoA cnA ctA
  refine FnS.of Tryd.func20 rfl (N := 101) rfl (by simp) (by simp) fun X hX => ?_
  simp only [tmArgs, lentH, Nat.reduceAdd]
  refine WA.regionK ty_ok hs fun K hK => ?_
  simp only [go_sem, Nat.reduceAdd, Nat.reduceLT, Nat.reduceLeDiff, Nat.reduceEqDiff, Nat.reduceSub, Nat.reduceMul, Nat.reduceBEq, Nat.reduceBNe, Nat.reducePow, Nat.reduceDiv, Int.reduceLE, Int.reduceLT, Int.reduceToNat, Int.reduceNeg, Int.reduceAdd, Int.reduceSub, Int.reduceEq, reduceIte, reduceCtorEq, UInt8.reduceOfNat, TrC_pts, Tr_pts, take_pts]
  repeat refine And.intro (by first | omega | assumption | (simp; done) | (simp; omega) | (simp +contextual; done) | (simp_all; done) | (simp_all; omega)) ?_
  refine hK _ ?_
  clear hK K
  have hl9 : l.length ≤ 1000000000 := by omega
  refine WA.drawnK mixed_ ty_ok hs (tbl := [[], [0], [0, 1], [], [3], [0, 1, 2, 3, 4], [], [0, 1, 2, 3, 4, 5, 6]]) (nb := [1, 2, 4, 7]) (by kernel_rfl) fun K hK => ?_
  simp only [go_sem, Nat.reduceAdd, Nat.reduceLT, Nat.reduceLeDiff, Nat.reduceEqDiff, Nat.reduceSub, Nat.reduceMul, Nat.reduceBEq, Nat.reduceBNe, Nat.reducePow, Nat.reduceDiv, Int.reduceLE, Int.reduceLT, Int.reduceToNat, Int.reduceNeg, Int.reduceAdd, Int.reduceSub, Int.reduceEq, reduceIte, reduceCtorEq, UInt8.reduceOfNat, sgL, un_pts, hl9, TrC_pts, Tr_pts, take_pts]
  repeat refine And.intro (by first | omega | assumption | (simp; done) | (simp; omega) | (simp +contextual; done) | (simp_all; done) | (simp_all; omega)) ?_
  refine hK _ ?_
  clear hK K
  refine WA.seq ?_
  refine WA.regionK ty_ok hs fun K hK => ?_
  simp only [go_sem, Nat.reduceAdd, Nat.reduceLT, Nat.reduceLeDiff, Nat.reduceEqDiff, Nat.reduceSub, Nat.reduceMul, Nat.reduceBEq, Nat.reduceBNe, Nat.reducePow, Nat.reduceDiv, Int.reduceLE, Int.reduceLT, Int.reduceToNat, Int.reduceNeg, Int.reduceAdd, Int.reduceSub, Int.reduceEq, reduceIte, reduceCtorEq, UInt8.reduceOfNat, sgL, un_pts, Tr_pts, strB_list]
  repeat refine And.intro (by first | omega | assumption | (simp; done) | (simp; omega) | (simp +contextual; done) | (simp_all; done) | (simp_all; omega)) ?_
  refine hK _ ?_
  clear hK K
  refine WA.cond rfl (fun h => ?_) (fun h => ?_)
  ·
    have e : learnS ⟨l, now⟩ ⟨bh, bk, br, brt, bf, bt⟩ ⟨ci, ch, ck, cr, crt, cf, ct, cx, cy⟩ = ⟨l, now⟩ := by
      unfold learnS
      rw [if_pos]
      simpa using h
    rw [e]
    refine WA.regionK ty_ok hs fun K hK => ?_
    simp only [go_sem, Nat.reduceAdd, Nat.reduceLT, Nat.reduceLeDiff, Nat.reduceEqDiff, Nat.reduceSub, Nat.reduceMul, Nat.reduceBEq, Nat.reduceBNe, Nat.reducePow, Nat.reduceDiv, Int.reduceLE, Int.reduceLT, Int.reduceToNat, Int.reduceNeg, Int.reduceAdd, Int.reduceSub, Int.reduceEq, reduceIte, reduceCtorEq, UInt8.reduceOfNat, true_and]
    repeat refine And.intro (by first | omega | assumption | (simp; done) | (simp; omega) | (simp +contextual; done) | (simp_all; done) | (simp_all; omega)) ?_
    refine hK _ ?_
    clear hK K
    refine WA.retE ty_ok (xs := [.agg [.li 5 (l.map ptA), .lit (.int .i64 now)]]) (ls' := []) (rv := [.cell 6 24]) rfl hX (by decide) (fun _ => rfl) (fun _ _ h => h) ?_
    simp only [go_sem, Nat.reduceAdd, Nat.reduceLT, Nat.reduceLeDiff, Nat.reduceEqDiff, Nat.reduceSub, Nat.reduceMul, Nat.reduceBEq, Nat.reduceBNe, Nat.reducePow, Nat.reduceDiv, Int.reduceLE, Int.reduceLT, Int.reduceToNat, Int.reduceNeg, Int.reduceAdd, Int.reduceSub, Int.reduceEq, reduceIte, reduceCtorEq, UInt8.reduceOfNat, sbT, TrC_pts, take_pts, Tr_pts]
    all_goals (first | done | exact Nat.le_refl _ | (simp; done) | (and_intros <;> first | omega | exact Nat.le_refl _ | (simp; done) | (simp; omega)))
  ·
    have h9 : ¬ (validE ⟨l, now⟩ ≠ 0 ∨ checkE ⟨ci, ch, ck, cr, crt, cf, ct, cx, cy⟩ ≠ 0) := by
      intro q
      simp only [cond_eq_ite] at h
      revert h
      simp
      rcases q with q | q
      · exact fun h => absurd h q
      · exact fun _ => q
    have e : learnS ⟨l, now⟩ ⟨bh, bk, br, brt, bf, bt⟩ ⟨ci, ch, ck, cr, crt, cf, ct, cx, cy⟩ = if cr ≠ 1 ∨ hasB l ch = true then ⟨l, nowI ⟨l, now⟩ ⟨bh, bk, br, brt, bf, bt⟩ ⟨ci, ch, ck, cr, crt, cf, ct, cx, cy⟩⟩ else ⟨if 2 < (learnL ⟨l, now⟩ ⟨bh, bk, br, brt, bf, bt⟩ ⟨ci, ch, ck, cr, crt, cf, ct, cx, cy⟩).length then (learnL ⟨l, now⟩ ⟨bh, bk, br, brt, bf, bt⟩ ⟨ci, ch, ck, cr, crt, cf, ct, cx, cy⟩).drop 1 else learnL ⟨l, now⟩ ⟨bh, bk, br, brt, bf, bt⟩ ⟨ci, ch, ck, cr, crt, cf, ct, cx, cy⟩, nowI ⟨l, now⟩ ⟨bh, bk, br, brt, bf, bt⟩ ⟨ci, ch, ck, cr, crt, cf, ct, cx, cy⟩⟩ := by
      unfold learnS
      rw [if_neg h9]
    rw [e]
    clear e h
    have hN : nowI ⟨l, now⟩ ⟨bh, bk, br, brt, bf, bt⟩ ⟨ci, ch, ck, cr, crt, cf, ct, cx, cy⟩ = if datB ⟨bh, bk, br, brt, bf, bt⟩ ⟨ci, ch, ck, cr, crt, cf, ct, cx, cy⟩ = true then max now cf else now := rfl
    obtain ⟨N, hN2⟩ : ∃ x, nowI ⟨l, now⟩ ⟨bh, bk, br, brt, bf, bt⟩ ⟨ci, ch, ck, cr, crt, cf, ct, cx, cy⟩ = x := ⟨_, rfl⟩
    rw [hN2] at hN ⊢
    with_reducible refine WA.skipN ?_
    repeat first | with_reducible refine WN.t ?_ | with_reducible refine WN.b ?_
    refine WA.join (fun (_ : Unit) => ⟨[(4, .ptr 3008 0 0), (5, .ptr 3016 0 0), (6, .ptr 3024 0 0), (7, .ptr 3032 0 0)], [(3008, ⟨.li 6 [.agg [.lit (.string (strB bh)), .lit (.int .i64 bk), .lit (.int .i64 br), .lit (.int .i64 brt), .lit (.int .i64 bf), .lit (.int .i64 bt)]], 0, false⟩), (3016, ⟨.li 9 [.agg [.lit (.string (strB ci)), .lit (.string (strB ch)), .lit (.int .i64 ck), .lit (.int .i64 cr), .lit (.int .i64 crt), .lit (.int .i64 cf), .lit (.int .i64 ct), .lit (.int .i64 cx), .lit (.int .i64 cy)]], 0, false⟩), (3024, ⟨.li 2 [.agg [.lit (.slice none 0 0), .lit (.int .i64 0)]], 0, false⟩), (3032, ⟨.li 2 [.agg [.sl 3040 5 0 l.length, .lit (.int .i64 N)]], 0, false⟩), (3040, ⟨.li 5 (l.map ptA), 0, false⟩)], 4000, 101⟩) (fun _ => True) ?_ ?_
    ·
      refine WA.regionK ty_ok hs fun K hK => ?_
      simp only [go_sem, Nat.reduceAdd, Nat.reduceLT, Nat.reduceLeDiff, Nat.reduceEqDiff, Nat.reduceSub, Nat.reduceMul, Nat.reduceBEq, Nat.reduceBNe, Nat.reducePow, Nat.reduceDiv, Int.reduceLE, Int.reduceLT, Int.reduceToNat, Int.reduceNeg, Int.reduceAdd, Int.reduceSub, Int.reduceEq, reduceIte, reduceCtorEq, UInt8.reduceOfNat, sgL, strB_list]
      repeat refine And.intro (by first | omega | assumption | (simp; done) | (simp; omega) | (simp +contextual; done) | (simp_all; done) | (simp_all; omega)) ?_
      refine hK _ ?_
      clear hK K
      refine WA.cond rfl (fun h => ?_) (fun h => ?_)
      ·
        rw [if_pos h] at hN
        subst hN
        refine WA.regionE ty_ok hs fun K hK => ?_
        simp only [go_sem, Nat.reduceAdd, Nat.reduceLT, Nat.reduceLeDiff, Nat.reduceEqDiff, Nat.reduceSub, Nat.reduceMul, Nat.reduceBEq, Nat.reduceBNe, Nat.reducePow, Nat.reduceDiv, Int.reduceLE, Int.reduceLT, Int.reduceToNat, Int.reduceNeg, Int.reduceAdd, Int.reduceSub, Int.reduceEq, reduceIte, reduceCtorEq, UInt8.reduceOfNat, true_and]
        repeat refine And.intro (by first | omega | assumption | (simp; done) | (simp; omega) | (simp +contextual; done) | (simp_all; done) | (simp_all; omega)) ?_
        refine hK _ (WN.mk ?_)
        repeat with_reducible refine WN.b ?_
        refine WN.join hX (fun k => if k = 3008 then 2008 else if k = 3016 then 2016 else if k = 3024 then 2024 else if k = 3032 then 2080 else if k = 3040 then 2048 else k) (()) (trivial) (by simp only [go_sem, Int.natCast_add, Nat.reduceAdd, Nat.reduceLT, Nat.reduceLeDiff, Nat.reduceEqDiff, Nat.reduceSub, Nat.reduceMul, Nat.reduceBEq, Nat.reduceBNe, Nat.reducePow, Nat.reduceDiv, Int.reduceLE, Int.reduceLT, Int.reduceToNat, Int.reduceNeg, Int.reduceAdd, Int.reduceSub, Int.reduceEq, reduceIte, reduceCtorEq, UInt8.reduceOfNat, TrC_pts] <;> (try and_intros) <;> (try omega))
      ·
        rw [if_neg (by rw [h]; decide)] at hN
        subst hN
        refine WA.skipN ?_
        repeat with_reducible refine WN.b ?_
        refine WN.join hX (fun k => if k = 3008 then 2008 else if k = 3016 then 2016 else if k = 3024 then 2024 else if k = 3032 then 2080 else if k = 3040 then 2048 else k) (()) (trivial) (by simp only [go_sem, Int.natCast_add, Nat.reduceAdd, Nat.reduceLT, Nat.reduceLeDiff, Nat.reduceEqDiff, Nat.reduceSub, Nat.reduceMul, Nat.reduceBEq, Nat.reduceBNe, Nat.reducePow, Nat.reduceDiv, Int.reduceLE, Int.reduceLT, Int.reduceToNat, Int.reduceNeg, Int.reduceAdd, Int.reduceSub, Int.reduceEq, reduceIte, reduceCtorEq, UInt8.reduceOfNat, TrC_pts] <;> (try and_intros) <;> (try omega))
    rintro - -
    refine WA.seq ?_
    by_cases hr : cr = 1
    ·
      subst hr
      have e11 : ((1 : Int) != 1) = false := by decide
      refine WA.regionK ty_ok hs fun K hK => ?_
      simp only [go_sem, Nat.reduceAdd, Nat.reduceLT, Nat.reduceLeDiff, Nat.reduceEqDiff, Nat.reduceSub, Nat.reduceMul, Nat.reduceBEq, Nat.reduceBNe, Nat.reducePow, Nat.reduceDiv, Int.reduceLE, Int.reduceLT, Int.reduceToNat, Int.reduceNeg, Int.reduceAdd, Int.reduceSub, Int.reduceEq, reduceIte, reduceCtorEq, UInt8.reduceOfNat, sgL, un_pts, Tr_pts, strB_list, TrC_pts, take_pts, e11]
      repeat refine And.intro (by first | omega | assumption | (simp; done) | (simp; omega) | (simp +contextual; done) | (simp_all; done) | (simp_all; omega)) ?_
      refine hK _ ?_
      clear hK K
      refine WA.cond rfl (fun h => ?_) (fun h => ?_)
      ·
        rw [if_pos (.inr h)]
        refine WA.regionK ty_ok hs fun K hK => ?_
        simp only [go_sem, Nat.reduceAdd, Nat.reduceLT, Nat.reduceLeDiff, Nat.reduceEqDiff, Nat.reduceSub, Nat.reduceMul, Nat.reduceBEq, Nat.reduceBNe, Nat.reducePow, Nat.reduceDiv, Int.reduceLE, Int.reduceLT, Int.reduceToNat, Int.reduceNeg, Int.reduceAdd, Int.reduceSub, Int.reduceEq, reduceIte, reduceCtorEq, UInt8.reduceOfNat, true_and]
        repeat refine And.intro (by first | omega | assumption | (simp; done) | (simp; omega) | (simp +contextual; done) | (simp_all; done) | (simp_all; omega)) ?_
        refine hK _ ?_
        clear hK K
        refine WA.retE ty_ok (xs := [.agg [.li 5 (l.map ptA), .lit (.int .i64 N)]]) (ls' := []) (rv := [.cell 6 24]) rfl hX (by decide) (fun _ => rfl) (fun _ _ h => h) ?_
        simp only [go_sem, Nat.reduceAdd, Nat.reduceLT, Nat.reduceLeDiff, Nat.reduceEqDiff, Nat.reduceSub, Nat.reduceMul, Nat.reduceBEq, Nat.reduceBNe, Nat.reducePow, Nat.reduceDiv, Int.reduceLE, Int.reduceLT, Int.reduceToNat, Int.reduceNeg, Int.reduceAdd, Int.reduceSub, Int.reduceEq, reduceIte, reduceCtorEq, UInt8.reduceOfNat, sbT, TrC_pts, take_pts, Tr_pts]
        all_goals (first | done | exact Nat.le_refl _ | (simp; done) | (and_intros <;> first | omega | exact Nat.le_refl _ | (simp; done) | (simp; omega)))
      ·
        rw [if_neg (fun q => by rcases q with q | q; exact q rfl; rw [h] at q; cases q)]
        with_reducible refine WA.skipN ?_
        repeat first | with_reducible refine WN.t ?_ | with_reducible refine WN.b ?_
        refine WA.regionK ty_ok hs fun K hK => ?_
        simp only [go_sem, Nat.reduceAdd, Nat.reduceLT, Nat.reduceLeDiff, Nat.reduceEqDiff, Nat.reduceSub, Nat.reduceMul, Nat.reduceBEq, Nat.reduceBNe, Nat.reducePow, Nat.reduceDiv, Int.reduceLE, Int.reduceLT, Int.reduceToNat, Int.reduceNeg, Int.reduceAdd, Int.reduceSub, Int.reduceEq, reduceIte, reduceCtorEq, UInt8.reduceOfNat, List.length_map]
        repeat refine And.intro (by first | omega | assumption | (simp; done) | (simp; omega) | (simp +contextual; done) | (simp_all; done) | (simp_all; omega)) ?_
        refine hK _ ?_
        clear hK K
        obtain ⟨np, hnp⟩ : ∃ np : Pt, (⟨ch, ck, bits .and .i64 crt brt, cf, ct⟩ : Pt) = np := ⟨_, rfl⟩
        have enp : newP ⟨bh, bk, br, brt, bf, bt⟩ ⟨ci, ch, ck, 1, crt, cf, ct, cx, cy⟩ = np := hnp
        obtain ⟨o, ho⟩ : ∃ o, l ++ [np] = o := ⟨_, rfl⟩
        have hol : l.length + 1 = o.length := by rw [← ho]; simp
        have hom : l.map ptA ++ [AV.agg [.lit (.string (strB ch)), .lit (.int .i64 ck), .lit (.int .i64 (bits .and .i64 crt brt)), .lit (.int .i64 cf), .lit (.int .i64 ct)]] = o.map ptA := by
          rw [← ho, ← hnp]
          simp [ptA]
        have hL : learnL ⟨l, now⟩ ⟨bh, bk, br, brt, bf, bt⟩ ⟨ci, ch, ck, 1, crt, cf, ct, cx, cy⟩ = keepL N l ++ [np] := by
          unfold learnL
          rw [hN2, enp]
        have kp0 : kpI N l np 0 = [] := rfl
        have hKl : ∀ i, (kpI N l np i).length ≤ i := kpI_len N l np
        rw [hL, hom, hol]
        refine WA.regionK ty_ok hs fun K hK => ?_
        simp only [go_sem, Nat.reduceAdd, Nat.reduceLT, Nat.reduceLeDiff, Nat.reduceEqDiff, Nat.reduceSub, Nat.reduceMul, Nat.reduceBEq, Nat.reduceBNe, Nat.reducePow, Nat.reduceDiv, Int.reduceLE, Int.reduceLT, Int.reduceToNat, Int.reduceNeg, Int.reduceAdd, Int.reduceSub, Int.reduceEq, reduceIte, reduceCtorEq, UInt8.reduceOfNat, true_and]
        repeat refine And.intro (by first | omega | assumption | (simp; done) | (simp; omega) | (simp +contextual; done) | (simp_all; done) | (simp_all; omega)) ?_
        refine hK _ ?_
        clear hK K
        refine WA.own0 8 (.li 5 []) rfl rfl ?_
        refine WA.seq ?_
        refine WA.regionK ty_ok hs fun K hK => ?_
        simp only [go_sem, Nat.reduceAdd, Nat.reduceLT, Nat.reduceLeDiff, Nat.reduceEqDiff, Nat.reduceSub, Nat.reduceMul, Nat.reduceBEq, Nat.reduceBNe, Nat.reducePow, Nat.reduceDiv, Int.reduceLE, Int.reduceLT, Int.reduceToNat, Int.reduceNeg, Int.reduceAdd, Int.reduceSub, Int.reduceEq, reduceIte, reduceCtorEq, UInt8.reduceOfNat, true_and]
        repeat refine And.intro (by first | omega | assumption | (simp; done) | (simp; omega) | (simp +contextual; done) | (simp_all; done) | (simp_all; omega)) ?_
        refine hK _ ?_
        clear hK K
        refine WA.block ?_
        refine WA.loopW hX (fun k => if k = 3048 then 4248 else if k = 3040 then 4216 else k) ((fun (i : Nat) => ⟨[(6, .ptr 3024 0 0), (7, .ptr 3032 0 0), (8, .sl 3048 5 0 (kpI N l np i).length), (66, .sl 3040 5 0 o.length), (67, .lit (.int .i64 (o.length : Nat))), (68, .lit (.int .i64 (i : Nat)))], [(3024, ⟨.li 2 [.agg [.lit (.slice none 0 0), .lit (.int .i64 0)]], 0, false⟩), (3032, ⟨.li 2 [.agg [.sl 3040 5 0 o.length, .lit (.int .i64 N)]], 0, false⟩), (3040, ⟨.li 5 (o.map ptA), 1, false⟩), (3048, ⟨.li 5 ((kpI N l np i).map ptA), 0, false⟩)], 5000, 101⟩ : _ → St)) (fun i => o.length - i) (fun i => i ≤ o.length) (i0 := 0) (Nat.zero_le _) (by simp only [go_sem, Int.natCast_add, Nat.reduceAdd, Nat.reduceLT, Nat.reduceLeDiff, Nat.reduceEqDiff, Nat.reduceSub, Nat.reduceMul, Nat.reduceBEq, Nat.reduceBNe, Nat.reducePow, Nat.reduceDiv, Int.reduceLE, Int.reduceLT, Int.reduceToNat, Int.reduceNeg, Int.reduceAdd, Int.reduceSub, Int.reduceEq, reduceIte, reduceCtorEq, UInt8.reduceOfNat, TrC_pts, Int.natCast_zero, kp0] <;> (try and_intros) <;> (try omega)) fun i hi => ?_
        refine WA.regionK ty_ok hs fun K hK => ?_
        simp only [go_sem, Nat.reduceAdd, Nat.reduceLT, Nat.reduceLeDiff, Nat.reduceEqDiff, Nat.reduceSub, Nat.reduceMul, Nat.reduceBEq, Nat.reduceBNe, Nat.reducePow, Nat.reduceDiv, Int.reduceLE, Int.reduceLT, Int.reduceToNat, Int.reduceNeg, Int.reduceAdd, Int.reduceSub, Int.reduceEq, reduceIte, reduceCtorEq, UInt8.reduceOfNat, true_and]
        repeat refine And.intro (by first | omega | assumption | (simp; done) | (simp; omega) | (simp +contextual; done) | (simp_all; done) | (simp_all; omega)) ?_
        refine hK _ ?_
        clear hK K
        refine WA.seq ?_
        refine WA.cond rfl (fun h => ?_) (fun h => ?_)
        ·
          with_reducible refine WA.skipN ?_
          repeat first | with_reducible refine WN.t ?_ | with_reducible refine WN.b ?_
          have h : i < o.length := by first | (simp only [Bool.and_eq_true, Bool.or_eq_true, Bool.not_eq_true', decide_eq_true_eq, decide_eq_false_iff_not, beq_iff_eq, bne_iff_ne, ne_eq, Bool.not_eq_eq_eq_not, Bool.not_true, Bool.not_false, beq_eq_false_iff_ne, bne_eq_false_iff_eq, Bool.and_eq_false_imp, Bool.or_eq_false_iff, Bool.cond_false_right, Bool.cond_true_left, Bool.cond_false_left, Bool.cond_true_right, gt_iff_lt, ge_iff_le, true_and] at h; first | exact h | omega) | omega | simpa using h
          have g := pt_at h
          have hKl2 := hKl i
          refine WA.seq ?_
          refine WA.block ?_
          refine WA.regionK ty_ok hs fun K hK => ?_
          simp only [go_sem, Nat.reduceAdd, Nat.reduceLT, Nat.reduceLeDiff, Nat.reduceEqDiff, Nat.reduceSub, Nat.reduceMul, Nat.reduceBEq, Nat.reduceBNe, Nat.reducePow, Nat.reduceDiv, Int.reduceLE, Int.reduceLT, Int.reduceToNat, Int.reduceNeg, Int.reduceAdd, Int.reduceSub, Int.reduceEq, reduceIte, reduceCtorEq, UInt8.reduceOfNat, g, List.length_map]
          repeat refine And.intro (by first | omega | assumption | (simp; done) | (simp; omega) | (simp +contextual; done) | (simp_all; done) | (simp_all; omega)) ?_
          refine hK _ ?_
          clear hK K
          refine WA.regionK ty_ok hs fun K hK => ?_
          simp only [go_sem, Nat.reduceAdd, Nat.reduceLT, Nat.reduceLeDiff, Nat.reduceEqDiff, Nat.reduceSub, Nat.reduceMul, Nat.reduceBEq, Nat.reduceBNe, Nat.reducePow, Nat.reduceDiv, Int.reduceLE, Int.reduceLT, Int.reduceToNat, Int.reduceNeg, Int.reduceAdd, Int.reduceSub, Int.reduceEq, reduceIte, reduceCtorEq, UInt8.reduceOfNat, g, List.length_map]
          repeat refine And.intro (by first | omega | assumption | (simp; done) | (simp; omega) | (simp +contextual; done) | (simp_all; done) | (simp_all; omega)) ?_
          refine hK _ ?_
          clear hK K
          have z1 : kpI N l np (i + 1) = if i = l.length ∨ N ≤ o[i].til then kpI N l np i ++ [o[i]] else kpI N l np i := by
            subst ho
            exact kpI_succ N l np h
          have hl9 : (kpI N l np i).length ≤ 1000001 := by omega
          refine WA.cond rfl (fun h2 => ?_) (fun h2 => ?_)
          ·
            have h3 : i = l.length ∨ N ≤ o[i].til := by
              cases e : ((i : Int) == (o.length : Int) - 1)
              · rw [e] at h2
                exact .inr (of_decide_eq_true h2)
              · simp only [beq_iff_eq] at e
                exact .inl (by omega)
            rw [if_pos h3] at z1
            have t9 := TrC_pts (kpI N l np (i + 1))
            rw [z1] at t9
            simp only [List.map_append, List.map_cons, List.map_nil, ptA] at t9
            refine WA.regionE ty_ok hs fun K hK => ?_
            simp only [go_sem, Nat.reduceAdd, Nat.reduceLT, Nat.reduceLeDiff, Nat.reduceEqDiff, Nat.reduceSub, Nat.reduceMul, Nat.reduceBEq, Nat.reduceBNe, Nat.reducePow, Nat.reduceDiv, Int.reduceLE, Int.reduceLT, Int.reduceToNat, Int.reduceNeg, Int.reduceAdd, Int.reduceSub, Int.reduceEq, reduceIte, reduceCtorEq, UInt8.reduceOfNat, true_and]
            repeat refine And.intro (by first | omega | assumption | (simp; done) | (simp; omega) | (simp +contextual; done) | (simp_all; done) | (simp_all; omega)) ?_
            with_reducible refine hK _ (WN.mk ?_)
            clear hK K
            repeat first | with_reducible refine WN.t ?_ | with_reducible refine WN.b ?_
            refine WA.regionE ty_ok hs fun K hK => ?_
            simp only [go_sem, Nat.reduceAdd, Nat.reduceLT, Nat.reduceLeDiff, Nat.reduceEqDiff, Nat.reduceSub, Nat.reduceMul, Nat.reduceBEq, Nat.reduceBNe, Nat.reducePow, Nat.reduceDiv, Int.reduceLE, Int.reduceLT, Int.reduceToNat, Int.reduceNeg, Int.reduceAdd, Int.reduceSub, Int.reduceEq, reduceIte, reduceCtorEq, UInt8.reduceOfNat, true_and]
            repeat refine And.intro (by first | omega | assumption | (simp; done) | (simp; omega) | (simp +contextual; done) | (simp_all; done) | (simp_all; omega)) ?_
            refine hK _ (roundE hX (fun k => if k = 3048 then 5184 else k) (j := i + 1) (by omega) (by first | omega | (dsimp only; omega) | (simp; omega)) (by simp only [go_sem, Int.natCast_add, Nat.reduceAdd, Nat.reduceLT, Nat.reduceLeDiff, Nat.reduceEqDiff, Nat.reduceSub, Nat.reduceMul, Nat.reduceBEq, Nat.reduceBNe, Nat.reducePow, Nat.reduceDiv, Int.reduceLE, Int.reduceLT, Int.reduceToNat, Int.reduceNeg, Int.reduceAdd, Int.reduceSub, Int.reduceEq, reduceIte, reduceCtorEq, UInt8.reduceOfNat, t9, z1, List.map_append, List.map_cons, List.map_nil, ptA, List.length_append, List.length_cons, List.length_nil, TrC_pts] <;> (try and_intros) <;> (try omega)))
          ·
            have h3 : ¬ (i = l.length ∨ N ≤ o[i].til) := by
              cases e : ((i : Int) == (o.length : Int) - 1)
              · rw [e] at h2
                have h4 := of_decide_eq_false (show decide (o[i].til ≥ N) = false from h2)
                rw [beq_eq_false_iff_ne] at e
                omega
              · rw [e] at h2
                cases h2
            rw [if_neg h3] at z1
            with_reducible refine WA.skipN ?_
            repeat first | with_reducible refine WN.t ?_ | with_reducible refine WN.b ?_
            refine WA.regionE ty_ok hs fun K hK => ?_
            simp only [go_sem, Nat.reduceAdd, Nat.reduceLT, Nat.reduceLeDiff, Nat.reduceEqDiff, Nat.reduceSub, Nat.reduceMul, Nat.reduceBEq, Nat.reduceBNe, Nat.reducePow, Nat.reduceDiv, Int.reduceLE, Int.reduceLT, Int.reduceToNat, Int.reduceNeg, Int.reduceAdd, Int.reduceSub, Int.reduceEq, reduceIte, reduceCtorEq, UInt8.reduceOfNat, true_and]
            repeat refine And.intro (by first | omega | assumption | (simp; done) | (simp; omega) | (simp +contextual; done) | (simp_all; done) | (simp_all; omega)) ?_
            refine hK _ (roundE hX (fun k => k) (j := i + 1) (by omega) (by first | omega | (dsimp only; omega) | (simp; omega)) (by simp only [go_sem, Int.natCast_add, Nat.reduceAdd, Nat.reduceLT, Nat.reduceLeDiff, Nat.reduceEqDiff, Nat.reduceSub, Nat.reduceMul, Nat.reduceBEq, Nat.reduceBNe, Nat.reducePow, Nat.reduceDiv, Int.reduceLE, Int.reduceLT, Int.reduceToNat, Int.reduceNeg, Int.reduceAdd, Int.reduceSub, Int.reduceEq, reduceIte, reduceCtorEq, UInt8.reduceOfNat, z1, TrC_pts] <;> (try and_intros) <;> (try omega)))
        ·
          with_reducible refine WA.exitX ?_
          repeat first | with_reducible refine WX.b ?_ | with_reducible refine WX.t ?_ | (with_reducible refine WX.n ?hne ?_; case hne => rfl)
          have h : ¬ i < o.length := by first | (simp only [Bool.and_eq_true, Bool.or_eq_true, Bool.not_eq_true', decide_eq_true_eq, decide_eq_false_iff_not, beq_iff_eq, bne_iff_ne, ne_eq, Bool.not_eq_eq_eq_not, Bool.not_true, Bool.not_false, beq_eq_false_iff_ne, bne_eq_false_iff_eq, Bool.and_eq_false_imp, Bool.or_eq_false_iff, Bool.cond_false_right, Bool.cond_true_left, Bool.cond_false_left, Bool.cond_true_right, gt_iff_lt, ge_iff_le, true_and] at h; first | exact h | omega) | omega | simpa using h
          have hi9 : i = l.length + 1 := by omega
          subst hi9
          rw [kpI_end]
          obtain ⟨K, hK9⟩ : ∃ K, keepL N l ++ [np] = K := ⟨_, rfl⟩
          rw [hK9]
          have hKl3 : K.length ≤ 1000001 := by
            have := hKl (l.length + 1)
            rw [kpI_end, hK9] at this
            omega
          refine WA.regionK ty_ok hs fun K hK => ?_
          simp only [go_sem, Nat.reduceAdd, Nat.reduceLT, Nat.reduceLeDiff, Nat.reduceEqDiff, Nat.reduceSub, Nat.reduceMul, Nat.reduceBEq, Nat.reduceBNe, Nat.reducePow, Nat.reduceDiv, Int.reduceLE, Int.reduceLT, Int.reduceToNat, Int.reduceNeg, Int.reduceAdd, Int.reduceSub, Int.reduceEq, reduceIte, reduceCtorEq, UInt8.reduceOfNat, true_and]
          repeat refine And.intro (by first | omega | assumption | (simp; done) | (simp; omega) | (simp +contextual; done) | (simp_all; done) | (simp_all; omega)) ?_
          refine hK _ ?_
          clear hK K
          refine WA.seq ?_
          refine WA.regionK ty_ok hs fun K hK => ?_
          simp only [go_sem, Nat.reduceAdd, Nat.reduceLT, Nat.reduceLeDiff, Nat.reduceEqDiff, Nat.reduceSub, Nat.reduceMul, Nat.reduceBEq, Nat.reduceBNe, Nat.reducePow, Nat.reduceDiv, Int.reduceLE, Int.reduceLT, Int.reduceToNat, Int.reduceNeg, Int.reduceAdd, Int.reduceSub, Int.reduceEq, reduceIte, reduceCtorEq, UInt8.reduceOfNat, true_and]
          repeat refine And.intro (by first | omega | assumption | (simp; done) | (simp; omega) | (simp +contextual; done) | (simp_all; done) | (simp_all; omega)) ?_
          refine hK _ ?_
          clear hK K
          refine WA.cond rfl (fun h => ?_) (fun h => ?_)
          ·
            have h : 2 < K.length := by first | (simp only [Bool.and_eq_true, Bool.or_eq_true, Bool.not_eq_true', decide_eq_true_eq, decide_eq_false_iff_not, beq_iff_eq, bne_iff_ne, ne_eq, Bool.not_eq_eq_eq_not, Bool.not_true, Bool.not_false, beq_eq_false_iff_ne, bne_eq_false_iff_eq, Bool.and_eq_false_imp, Bool.or_eq_false_iff, Bool.cond_false_right, Bool.cond_true_left, Bool.cond_false_left, Bool.cond_true_right, gt_iff_lt, ge_iff_le, true_and] at h; first | exact h | omega) | omega | simpa using h
            rw [if_pos h]
            have d1 : List.take (K.length - 1) (List.drop 1 (K.map ptA)) = (K.drop 1).map ptA := by
              rw [← List.map_drop]
              exact List.take_of_length_le (by simp)
            have d2 : (K.drop 1).length ≤ 1000000000 := by rw [List.length_drop]; omega
            obtain ⟨D, hD⟩ : ∃ D, K.drop 1 = D := ⟨_, rfl⟩
            rw [hD] at d1 d2 ⊢
            refine WA.regionE ty_ok hs fun K hK => ?_
            simp only [go_sem, Nat.reduceAdd, Nat.reduceLT, Nat.reduceLeDiff, Nat.reduceEqDiff, Nat.reduceSub, Nat.reduceMul, Nat.reduceBEq, Nat.reduceBNe, Nat.reducePow, Nat.reduceDiv, Int.reduceLE, Int.reduceLT, Int.reduceToNat, Int.reduceNeg, Int.reduceAdd, Int.reduceSub, Int.reduceEq, reduceIte, reduceCtorEq, UInt8.reduceOfNat, sgL, d1, un_pts, TrC_pts, Tr_pts, d2]
            repeat refine And.intro (by first | omega | assumption | (simp; done) | (simp; omega) | (simp +contextual; done) | (simp_all; done) | (simp_all; omega)) ?_
            with_reducible refine hK _ (WN.mk ?_)
            clear hK K
            repeat first | with_reducible refine WN.t ?_ | with_reducible refine WN.b ?_
            refine WA.regionK ty_ok hs fun K hK => ?_
            simp only [go_sem, Nat.reduceAdd, Nat.reduceLT, Nat.reduceLeDiff, Nat.reduceEqDiff, Nat.reduceSub, Nat.reduceMul, Nat.reduceBEq, Nat.reduceBNe, Nat.reducePow, Nat.reduceDiv, Int.reduceLE, Int.reduceLT, Int.reduceToNat, Int.reduceNeg, Int.reduceAdd, Int.reduceSub, Int.reduceEq, reduceIte, reduceCtorEq, UInt8.reduceOfNat, true_and]
            repeat refine And.intro (by first | omega | assumption | (simp; done) | (simp; omega) | (simp +contextual; done) | (simp_all; done) | (simp_all; omega)) ?_
            refine hK _ ?_
            clear hK K
            refine WA.retE ty_ok (xs := [.agg [.li 5 (D.map ptA), .lit (.int .i64 N)]]) (ls' := []) (rv := [.cell 6 24]) rfl hX (by decide) (fun _ => rfl) (fun _ _ h => h) ?_
            simp only [go_sem, Nat.reduceAdd, Nat.reduceLT, Nat.reduceLeDiff, Nat.reduceEqDiff, Nat.reduceSub, Nat.reduceMul, Nat.reduceBEq, Nat.reduceBNe, Nat.reducePow, Nat.reduceDiv, Int.reduceLE, Int.reduceLT, Int.reduceToNat, Int.reduceNeg, Int.reduceAdd, Int.reduceSub, Int.reduceEq, reduceIte, reduceCtorEq, UInt8.reduceOfNat, sbT, TrC_pts, take_pts, Tr_pts]
            all_goals (first | done | exact Nat.le_refl _ | (simp; done) | (and_intros <;> first | omega | exact Nat.le_refl _ | (simp; done) | (simp; omega)))
          ·
            have h : ¬ 2 < K.length := by first | (simp only [Bool.and_eq_true, Bool.or_eq_true, Bool.not_eq_true', decide_eq_true_eq, decide_eq_false_iff_not, beq_iff_eq, bne_iff_ne, ne_eq, Bool.not_eq_eq_eq_not, Bool.not_true, Bool.not_false, beq_eq_false_iff_ne, bne_eq_false_iff_eq, Bool.and_eq_false_imp, Bool.or_eq_false_iff, Bool.cond_false_right, Bool.cond_true_left, Bool.cond_false_left, Bool.cond_true_right, gt_iff_lt, ge_iff_le, true_and] at h; first | exact h | omega) | omega | simpa using h
            rw [if_neg h]
            with_reducible refine WA.skipN ?_
            repeat first | with_reducible refine WN.t ?_ | with_reducible refine WN.b ?_
            refine WA.regionK ty_ok hs fun K hK => ?_
            simp only [go_sem, Nat.reduceAdd, Nat.reduceLT, Nat.reduceLeDiff, Nat.reduceEqDiff, Nat.reduceSub, Nat.reduceMul, Nat.reduceBEq, Nat.reduceBNe, Nat.reducePow, Nat.reduceDiv, Int.reduceLE, Int.reduceLT, Int.reduceToNat, Int.reduceNeg, Int.reduceAdd, Int.reduceSub, Int.reduceEq, reduceIte, reduceCtorEq, UInt8.reduceOfNat, true_and]
            repeat refine And.intro (by first | omega | assumption | (simp; done) | (simp; omega) | (simp +contextual; done) | (simp_all; done) | (simp_all; omega)) ?_
            refine hK _ ?_
            clear hK K
            refine WA.retE ty_ok (xs := [.agg [.li 5 (K.map ptA), .lit (.int .i64 N)]]) (ls' := []) (rv := [.cell 6 24]) rfl hX (by decide) (fun _ => rfl) (fun _ _ h => h) ?_
            simp only [go_sem, Nat.reduceAdd, Nat.reduceLT, Nat.reduceLeDiff, Nat.reduceEqDiff, Nat.reduceSub, Nat.reduceMul, Nat.reduceBEq, Nat.reduceBNe, Nat.reducePow, Nat.reduceDiv, Int.reduceLE, Int.reduceLT, Int.reduceToNat, Int.reduceNeg, Int.reduceAdd, Int.reduceSub, Int.reduceEq, reduceIte, reduceCtorEq, UInt8.reduceOfNat, sbT, TrC_pts, take_pts, Tr_pts]
            all_goals (first | done | exact Nat.le_refl _ | (simp; done) | (and_intros <;> first | omega | exact Nat.le_refl _ | (simp; done) | (simp; omega)))
    ·
      have hr2 : (cr == 1) = false := by simpa using hr
      rw [if_pos (.inl hr)]
      refine WA.regionK ty_ok hs fun K hK => ?_
      simp only [go_sem, Nat.reduceAdd, Nat.reduceLT, Nat.reduceLeDiff, Nat.reduceEqDiff, Nat.reduceSub, Nat.reduceMul, Nat.reduceBEq, Nat.reduceBNe, Nat.reducePow, Nat.reduceDiv, Int.reduceLE, Int.reduceLT, Int.reduceToNat, Int.reduceNeg, Int.reduceAdd, Int.reduceSub, Int.reduceEq, reduceIte, reduceCtorEq, UInt8.reduceOfNat, sgL, un_pts, Tr_pts, strB_list, TrC_pts, take_pts, bne, hr2]
      repeat refine And.intro (by first | omega | assumption | (simp; done) | (simp; omega) | (simp +contextual; done) | (simp_all; done) | (simp_all; omega)) ?_
      refine hK _ ?_
      clear hK K
      refine WA.cond rfl (fun h => ?_) (fun h => ?_)
      ·
        refine WA.regionK ty_ok hs fun K hK => ?_
        simp only [go_sem, Nat.reduceAdd, Nat.reduceLT, Nat.reduceLeDiff, Nat.reduceEqDiff, Nat.reduceSub, Nat.reduceMul, Nat.reduceBEq, Nat.reduceBNe, Nat.reducePow, Nat.reduceDiv, Int.reduceLE, Int.reduceLT, Int.reduceToNat, Int.reduceNeg, Int.reduceAdd, Int.reduceSub, Int.reduceEq, reduceIte, reduceCtorEq, UInt8.reduceOfNat, true_and]
        repeat refine And.intro (by first | omega | assumption | (simp; done) | (simp; omega) | (simp +contextual; done) | (simp_all; done) | (simp_all; omega)) ?_
        refine hK _ ?_
        clear hK K
        refine WA.retE ty_ok (xs := [.agg [.li 5 (l.map ptA), .lit (.int .i64 N)]]) (ls' := []) (rv := [.cell 6 24]) rfl hX (by decide) (fun _ => rfl) (fun _ _ h => h) ?_
        simp only [go_sem, Nat.reduceAdd, Nat.reduceLT, Nat.reduceLeDiff, Nat.reduceEqDiff, Nat.reduceSub, Nat.reduceMul, Nat.reduceBEq, Nat.reduceBNe, Nat.reducePow, Nat.reduceDiv, Int.reduceLE, Int.reduceLT, Int.reduceToNat, Int.reduceNeg, Int.reduceAdd, Int.reduceSub, Int.reduceEq, reduceIte, reduceCtorEq, UInt8.reduceOfNat, sbT, TrC_pts, take_pts, Tr_pts]
        all_goals (first | done | exact Nat.le_refl _ | (simp; done) | (and_intros <;> first | omega | exact Nat.le_refl _ | (simp; done) | (simp; omega)))
      ·
        cases h
end Go.Proofs.YtgmmdijmlnehlaaDoor
