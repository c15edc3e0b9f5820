import Derived.Test.YtloihfflblgioaaCom
namespace Go.Proofs.Ytloihfflblgioaa
open Go.RowKit Go.TravelBase Go.TravelAbs
set_option linter.unusedVariables false
set_option linter.unusedSimpArgs false

















/-! ### Dice over the abstract machine -/
def iA (z : Int) : AV := .lit (.int .i64 z)
def unI : AV → Int
  | .lit (.int _ z) => z
  | _ => 0
def DcOK (L : AV) (z : Int) : Prop := ∃ l : List Int, L = .li 1 (l.map iA) ∧ (∀ y ∈ l, -9223372036854775808 ≤ y ∧ y ≤ 9223372036854775807) ∧ 0 ≤ z ∧ z ≤ l.length ∧ l.length ≤ 400
/-- The next number, and the place behind it. -/
def nxI (L : AV) (z n : Int) : Int := if z < cN L then unI (cAt L z.toNat) % n else 0
def nxZ (L : AV) (z : Int) : Int := if z < cN L then z + 1 else z
theorem Tr_ia (l : List Int) : Tr (.li 1 (l.map iA)) = True := eq_true (Tr.li fun x hx y hy => by
  obtain ⟨z, _, rfl⟩ := List.mem_map.1 hx
  simp only [iA, AV.cl, List.mem_cons, List.not_mem_nil, or_false] at hy
  subst hy
  exact Tr.lit _)
theorem DcOK.tr {L : AV} {z : Int} (h : DcOK L z) : Tr L = True := by
  obtain ⟨l, rfl, _⟩ := h
  exact Tr_ia l
theorem dc_nx {L : AV} {z : Int} (h : DcOK L z) : DcOK L (nxZ L z) := by
  obtain ⟨l, rfl, h1, h2, h3, h4⟩ := h
  refine ⟨l, rfl, h1, ?_⟩
  unfold nxZ
  simp only [cN, List.length_map]
  split <;> omega
theorem nx_rng (L : AV) (z n : Int) (h : 1 ≤ n) : 0 ≤ nxI L z n ∧ nxI L z n < n := by
  unfold nxI
  split
  · exact ⟨Int.emod_nonneg _ (by omega), Int.emod_lt_of_pos _ (by omega)⟩
  · omega
theorem ia_at {l : List Int} {i : Nat} (h : i < l.length) : (l.map iA).getD i .any = .lit (.int .i64 l[i]) := by
  simp [List.getD, List.getElem?_eq_getElem h, iA]
theorem mod_neg (x n : Int) (hn : 1 ≤ n) (h : x.tmod n < 0) : x % n = x.tmod n + n := by
  have h1 := Int.tmod_add_mul_tdiv x n
  have h2 := Int.lt_tmod_of_pos x (show (0 : Int) < n by omega)
  have h3 : x = x.tmod n + n * x.tdiv n := by omega
  have h4 : x % n = (x.tmod n + n) % n := by
    conv => lhs; rw [h3]
    simp
  rw [h4]
  exact Int.emod_eq_of_lt (by omega) (by omega)
theorem mod_pos (x n : Int) (hn : 1 ≤ n) (h : ¬ x.tmod n < 0) : x % n = x.tmod n := by
  have h1 := Int.tmod_add_mul_tdiv x n
  have h2 := Int.tmod_lt_of_pos x (show (0 : Int) < n by omega)
  have h3 : x = x.tmod n + n * x.tdiv n := by omega
  have h4 : x % n = (x.tmod n) % n := by
    conv => lhs; rw [h3]
    simp
  rw [h4]
  exact Int.emod_eq_of_lt (by omega) h2
def sg0 : Sg := fun _ _ _ => none
theorem sg0_ok : SgOK Try.prog sg0 := fun _ _ _ _ _ _ h => by cases h
def st0 : Sg2 := fun _ _ _ => none
theorem st0_ok : Sg2OK Try.prog st0 := fun _ _ _ _ h => by cases h

theorem mod_s (x n : Int) (h1 : 1 ≤ n) (h2 : n ≤ 4611686018427387904) (hx : -9223372036854775808 ≤ x ∧ x ≤ 9223372036854775807) : FnS Try.prog 42 [.lit (.int .i64 x), .lit (.int .i64 n)] [] (.lit (.int .i64 (x % n))) [] := by
  have hs := sg0_ok
  have l1 := Int.lt_tmod_of_pos x (show (0 : Int) < n by omega)
  have l2 := Int.tmod_lt_of_pos x (show (0 : Int) < n by omega)
  refine FnS.of Try.func42 rfl (N := 14) rfl (by simp) (by simp) fun X hX => ?_
  simp only [tmArgs, lentH, Nat.reduceAdd]
  refine WA.regionK ty_ok hs fun K hK => ?_
  simp only [go_sem, Nat.reduceAdd, Nat.reduceLT, Nat.reduceLeDiff, Nat.reduceEqDiff, Nat.reduceSub, Nat.reduceMul, Nat.reduceBEq, Nat.reduceBNe, Nat.reducePow, Nat.reduceDiv, Int.reduceLE, Int.reduceLT, Int.reduceToNat, Int.reduceNeg, Int.reduceAdd, Int.reduceSub, Int.reduceEq, reduceIte, reduceCtorEq, UInt8.reduceOfNat, sg0]
  repeat refine And.intro (by first | omega | assumption | (simp; done) | (simp; omega) | (simp +contextual; done) | (simp_all; done) | (simp_all; omega)) ?_
  refine hK _ ?_
  clear hK K
  refine WA.regionK ty_ok hs fun K hK => ?_
  simp only [go_sem, Nat.reduceAdd, Nat.reduceLT, Nat.reduceLeDiff, Nat.reduceEqDiff, Nat.reduceSub, Nat.reduceMul, Nat.reduceBEq, Nat.reduceBNe, Nat.reducePow, Nat.reduceDiv, Int.reduceLE, Int.reduceLT, Int.reduceToNat, Int.reduceNeg, Int.reduceAdd, Int.reduceSub, Int.reduceEq, reduceIte, reduceCtorEq, UInt8.reduceOfNat, sg0]
  repeat refine And.intro (by first | omega | assumption | (simp; done) | (simp; omega) | (simp +contextual; done) | (simp_all; done) | (simp_all; omega)) ?_
  refine hK _ ?_
  clear hK K
  refine WA.seq ?_
  refine WA.regionK ty_ok hs fun K hK => ?_
  simp only [go_sem, Nat.reduceAdd, Nat.reduceLT, Nat.reduceLeDiff, Nat.reduceEqDiff, Nat.reduceSub, Nat.reduceMul, Nat.reduceBEq, Nat.reduceBNe, Nat.reducePow, Nat.reduceDiv, Int.reduceLE, Int.reduceLT, Int.reduceToNat, Int.reduceNeg, Int.reduceAdd, Int.reduceSub, Int.reduceEq, reduceIte, reduceCtorEq, UInt8.reduceOfNat, sg0]
  repeat refine And.intro (by first | omega | assumption | (simp; done) | (simp; omega) | (simp +contextual; done) | (simp_all; done) | (simp_all; omega)) ?_
  refine hK _ ?_
  clear hK K
  refine WA.cond rfl (fun h => ?_) (fun h => ?_)
  ·
    have e := mod_neg x n h1 (of_decide_eq_true h)
    refine WA.regionE ty_ok hs fun K hK => ?_
    simp only [go_sem, Nat.reduceAdd, Nat.reduceLT, Nat.reduceLeDiff, Nat.reduceEqDiff, Nat.reduceSub, Nat.reduceMul, Nat.reduceBEq, Nat.reduceBNe, Nat.reducePow, Nat.reduceDiv, Int.reduceLE, Int.reduceLT, Int.reduceToNat, Int.reduceNeg, Int.reduceAdd, Int.reduceSub, Int.reduceEq, reduceIte, reduceCtorEq, UInt8.reduceOfNat, sg0]
    refine And.intro (by omega) ?_
    with_reducible refine hK _ (WN.mk ?_)
    clear hK K
    repeat first | with_reducible refine WN.t ?_ | with_reducible refine WN.b ?_
    refine WA.regionK ty_ok hs fun K hK => ?_
    simp only [go_sem, Nat.reduceAdd, Nat.reduceLT, Nat.reduceLeDiff, Nat.reduceEqDiff, Nat.reduceSub, Nat.reduceMul, Nat.reduceBEq, Nat.reduceBNe, Nat.reducePow, Nat.reduceDiv, Int.reduceLE, Int.reduceLT, Int.reduceToNat, Int.reduceNeg, Int.reduceAdd, Int.reduceSub, Int.reduceEq, reduceIte, reduceCtorEq, UInt8.reduceOfNat, sg0]
    repeat refine And.intro (by first | omega | assumption | (simp; done) | (simp; omega) | (simp +contextual; done) | (simp_all; done) | (simp_all; omega)) ?_
    refine hK _ ?_
    clear hK K
    refine WA.retE ty_ok (xs := [.lit (.int .i64 (x % n))]) (ls' := []) (rv := [.tmp 4]) rfl hX (by decide) (fun _ => rfl) (fun _ _ h => h) ?_
    simp only [go_sem, Nat.reduceAdd, Nat.reduceLT, Nat.reduceLeDiff, Nat.reduceEqDiff, Nat.reduceSub, Nat.reduceMul, Nat.reduceBEq, Nat.reduceBNe, Nat.reducePow, Nat.reduceDiv, Int.reduceLE, Int.reduceLT, Int.reduceToNat, Int.reduceNeg, Int.reduceAdd, Int.reduceSub, Int.reduceEq, reduceIte, reduceCtorEq, UInt8.reduceOfNat, e]
  ·
    with_reducible refine WA.skipN ?_
    repeat first | with_reducible refine WN.t ?_ | with_reducible refine WN.b ?_
    have e := mod_pos x n h1 (of_decide_eq_false h)
    refine WA.regionK ty_ok hs fun K hK => ?_
    simp only [go_sem, Nat.reduceAdd, Nat.reduceLT, Nat.reduceLeDiff, Nat.reduceEqDiff, Nat.reduceSub, Nat.reduceMul, Nat.reduceBEq, Nat.reduceBNe, Nat.reducePow, Nat.reduceDiv, Int.reduceLE, Int.reduceLT, Int.reduceToNat, Int.reduceNeg, Int.reduceAdd, Int.reduceSub, Int.reduceEq, reduceIte, reduceCtorEq, UInt8.reduceOfNat, sg0]
    repeat refine And.intro (by first | omega | assumption | (simp; done) | (simp; omega) | (simp +contextual; done) | (simp_all; done) | (simp_all; omega)) ?_
    refine hK _ ?_
    clear hK K
    refine WA.retE ty_ok (xs := [.lit (.int .i64 (x % n))]) (ls' := []) (rv := [.tmp 4]) rfl hX (by decide) (fun _ => rfl) (fun _ _ h => h) ?_
    simp only [go_sem, Nat.reduceAdd, Nat.reduceLT, Nat.reduceLeDiff, Nat.reduceEqDiff, Nat.reduceSub, Nat.reduceMul, Nat.reduceBEq, Nat.reduceBNe, Nat.reducePow, Nat.reduceDiv, Int.reduceLE, Int.reduceLT, Int.reduceToNat, Int.reduceNeg, Int.reduceAdd, Int.reduceSub, Int.reduceEq, reduceIte, reduceCtorEq, UInt8.reduceOfNat, e]

def sgM : Sg := fun f args ls =>
  match f, args, ls with
  | 42, [.lit (.int .i64 x), .lit (.int .i64 n)], [] => some (.lit (.int .i64 (x % n)), [], (1 ≤ n ∧ n ≤ 4611686018427387904) ∧ -9223372036854775808 ≤ x ∧ x ≤ 9223372036854775807)
  | _, _, _ => none
theorem sgM_ok : SgOK Try.prog sgM := by
  intro f args ls r ls' vc h hvc
  unfold sgM at h
  split at h <;> first | (simp only [Option.some.injEq, Prod.mk.injEq] at h; obtain ⟨rfl, rfl, rfl⟩ := h) | cases h
  exact ⟨fnOK Try.func42 (by decide) rfl, mod_s _ _ hvc.1.1 hvc.1.2 hvc.2⟩
theorem next_s (L : AV) (z n : Int) (hd : DcOK L z) (h1 : 1 ≤ n) (h2 : n ≤ 4611686018427387904) : FnS Try.prog 23 [.ptr 0 0 0, .lit (.int .i64 n)] [.li 2 [.agg [L, .lit (.int .i64 z)]]] (.lit (.int .i64 (nxI L z n))) [.li 2 [.agg [L, .lit (.int .i64 (nxZ L z))]]] := by
  have hs := sgM_ok
  obtain ⟨l, rfl, hl, z0, z1, z2⟩ := hd
  obtain ⟨k, rfl⟩ := Int.eq_ofNat_of_zero_le z0
  refine FnS.of Try.func23 rfl (N := 35) rfl (by simp) (by simp) fun X hX => ?_
  simp only [tmArgs, lentH, Nat.reduceAdd]
  have t1 := Tr_ia l
  refine WA.regionK ty_ok hs fun K hK => ?_
  simp only [go_sem, Nat.reduceAdd, Nat.reduceLT, Nat.reduceLeDiff, Nat.reduceEqDiff, Nat.reduceSub, Nat.reduceMul, Nat.reduceBEq, Nat.reduceBNe, Nat.reducePow, Nat.reduceDiv, Int.reduceLE, Int.reduceLT, Int.reduceToNat, Int.reduceNeg, Int.reduceAdd, Int.reduceSub, Int.reduceEq, reduceIte, reduceCtorEq, UInt8.reduceOfNat, sgM]
  repeat refine And.intro (by first | omega | assumption | (simp; done) | (simp; omega) | (simp +contextual; done) | (simp_all; done) | (simp_all; omega)) ?_
  refine hK _ ?_
  clear hK K
  refine WA.seq ?_
  refine WA.drawnK mixed_ ty_ok hs (tbl := [[], [0], [0, 1], [0, 1, 2], [], [4], [4, 5], [4, 5, 6], [4, 5, 6, 7], [0, 1, 2, 3, 4, 5, 6, 7, 8]]) (nb := [3, 7]) (by kernel_rfl) fun K hK => ?_
  simp only [go_sem, Nat.reduceAdd, Nat.reduceLT, Nat.reduceLeDiff, Nat.reduceEqDiff, Nat.reduceSub, Nat.reduceMul, Nat.reduceBEq, Nat.reduceBNe, Nat.reducePow, Nat.reduceDiv, Int.reduceLE, Int.reduceLT, Int.reduceToNat, Int.reduceNeg, Int.reduceAdd, Int.reduceSub, Int.reduceEq, reduceIte, reduceCtorEq, UInt8.reduceOfNat, sgM]
  repeat refine And.intro (by first | omega | assumption | (simp; done) | (simp; omega) | (simp +contextual; done) | (simp_all; done) | (simp_all; omega)) ?_
  refine hK _ ?_
  clear hK K
  refine WA.cond rfl (fun h => ?_) (fun h => ?_)
  ·
    have h6 : ¬ (k : Int) < (l.length : Nat) := by have := of_decide_eq_true h; omega
    refine WA.regionK ty_ok hs fun K hK => ?_
    simp only [go_sem, Nat.reduceAdd, Nat.reduceLT, Nat.reduceLeDiff, Nat.reduceEqDiff, Nat.reduceSub, Nat.reduceMul, Nat.reduceBEq, Nat.reduceBNe, Nat.reducePow, Nat.reduceDiv, Int.reduceLE, Int.reduceLT, Int.reduceToNat, Int.reduceNeg, Int.reduceAdd, Int.reduceSub, Int.reduceEq, reduceIte, reduceCtorEq, UInt8.reduceOfNat, sgM]
    repeat refine And.intro (by first | omega | assumption | (simp; done) | (simp; omega) | (simp +contextual; done) | (simp_all; done) | (simp_all; omega)) ?_
    refine hK _ ?_
    clear hK K
    refine WA.retE ty_ok (xs := [.lit (.int .i64 (nxI (.li 1 (l.map iA)) k n))]) (ls' := [.li 2 [.agg [.li 1 (l.map iA), .lit (.int .i64 (nxZ (.li 1 (l.map iA)) k))]]]) (rv := [.tmp 4]) rfl hX (by simp) (fun _ => rfl) (fun _ _ h => h) ?_
    simp only [go_sem, Nat.reduceAdd, Nat.reduceLT, Nat.reduceLeDiff, Nat.reduceEqDiff, Nat.reduceSub, Nat.reduceMul, Nat.reduceBEq, Nat.reduceBNe, Nat.reducePow, Nat.reduceDiv, Int.reduceLE, Int.reduceLT, Int.reduceToNat, Int.reduceNeg, Int.reduceAdd, Int.reduceSub, Int.reduceEq, reduceIte, reduceCtorEq, UInt8.reduceOfNat, nxI, nxZ, h6, t1]
  ·
    with_reducible refine WA.skipN ?_
    repeat first | with_reducible refine WN.t ?_ | with_reducible refine WN.b ?_
    have h6 : k < l.length := by have := of_decide_eq_false h; omega
    have h7 : (k : Int) < (l.length : Nat) := by omega
    have g := ia_at h6
    have e1 : (k : Int) + 1 - 1 = k := by omega
    refine WA.regionK ty_ok hs fun K hK => ?_
    simp only [go_sem, Nat.reduceAdd, Nat.reduceLT, Nat.reduceLeDiff, Nat.reduceEqDiff, Nat.reduceSub, Nat.reduceMul, Nat.reduceBEq, Nat.reduceBNe, Nat.reducePow, Nat.reduceDiv, Int.reduceLE, Int.reduceLT, Int.reduceToNat, Int.reduceNeg, Int.reduceAdd, Int.reduceSub, Int.reduceEq, reduceIte, reduceCtorEq, UInt8.reduceOfNat, sgM]
    repeat refine And.intro (by first | omega | assumption | (simp; done) | (simp; omega) | (simp +contextual; done) | (simp_all; done) | (simp_all; omega)) ?_
    refine hK _ ?_
    clear hK K
    have g2 := hl _ (List.getElem_mem h6)
    refine WA.drawnK mixed_ ty_ok hs (tbl := [[], [0], [0, 1], [0, 1, 2], [], [4], [4, 5], [4, 5, 6], [4, 5, 6, 7], [0, 1, 2, 3, 4, 5, 6, 7, 8], [0, 1, 2, 3, 4, 5, 6, 7, 8, 9], [], [0, 1, 2, 3, 4, 5, 6, 7, 8, 9, 10, 11], [0, 1, 2, 3, 4, 5, 6, 7, 8, 9, 10, 11, 12]]) (nb := [3, 7, 10, 12]) (by kernel_rfl) fun K hK => ?_
    simp only [go_sem, Nat.reduceAdd, Nat.reduceLT, Nat.reduceLeDiff, Nat.reduceEqDiff, Nat.reduceSub, Nat.reduceMul, Nat.reduceBEq, Nat.reduceBNe, Nat.reducePow, Nat.reduceDiv, Int.reduceLE, Int.reduceLT, Int.reduceToNat, Int.reduceNeg, Int.reduceAdd, Int.reduceSub, Int.reduceEq, reduceIte, reduceCtorEq, UInt8.reduceOfNat, sgM, g, e1]
    repeat refine And.intro (by first | omega | assumption | (simp; done) | (simp; omega) | (simp +contextual; done) | (simp_all; done) | (simp_all; omega)) ?_
    refine hK _ ?_
    clear hK K
    refine WA.retE ty_ok (xs := [.lit (.int .i64 (nxI (.li 1 (l.map iA)) k n))]) (ls' := [.li 2 [.agg [.li 1 (l.map iA), .lit (.int .i64 (nxZ (.li 1 (l.map iA)) k))]]]) (rv := [.tmp 4]) rfl hX (by simp) (fun _ => rfl) (fun _ _ h => h) ?_
    simp only [go_sem, Nat.reduceAdd, Nat.reduceLT, Nat.reduceLeDiff, Nat.reduceEqDiff, Nat.reduceSub, Nat.reduceMul, Nat.reduceBEq, Nat.reduceBNe, Nat.reducePow, Nat.reduceDiv, Int.reduceLE, Int.reduceLT, Int.reduceToNat, Int.reduceNeg, Int.reduceAdd, Int.reduceSub, Int.reduceEq, reduceIte, reduceCtorEq, UInt8.reduceOfNat, nxI, nxZ, h7, t1, g, unI]

def sgD : Sg := fun f args ls =>
  match f, args, ls with
  | 23, [.ptr 0 0 0, .lit (.int .i64 n)], [.li 2 [.agg [L, .lit (.int .i64 z)]]] => some (.lit (.int .i64 (nxI L z n)), [.li 2 [.agg [L, .lit (.int .i64 (nxZ L z))]]], DcOK L z ∧ 1 ≤ n ∧ n ≤ 4611686018427387904)
  | _, _, _ => none
theorem sgD_ok : SgOK Try.prog sgD := by
  intro f args ls r ls' vc h hvc
  unfold sgD at h
  split at h <;> first | (simp only [Option.some.injEq, Prod.mk.injEq] at h; obtain ⟨rfl, rfl, rfl⟩ := h) | cases h
  exact ⟨fnOK Try.func23 (by decide) rfl, next_s _ _ _ hvc.1 hvc.2.1 hvc.2.2⟩
theorem one_s (L : AV) (z n : Int) (hd : DcOK L z) (h1 : 1 ≤ n) (h2 : n ≤ 4611686018427387904) : FnS Try.prog 24 [.ptr 0 0 0, .lit (.int .i64 n)] [.li 2 [.agg [L, .lit (.int .i64 z)]]] (.lit (.bool (nxI L z n == n - 1))) [.li 2 [.agg [L, .lit (.int .i64 (nxZ L z))]]] := by
  have hs := sgD_ok
  have ht := hd.tr
  refine FnS.of Try.func24 rfl (N := 11) rfl (by simp) (by simp) fun X hX => ?_
  simp only [tmArgs, lentH, Nat.reduceAdd]
  refine WA.regionK ty_ok hs fun K hK => ?_
  simp only [go_sem, Nat.reduceAdd, Nat.reduceLT, Nat.reduceLeDiff, Nat.reduceEqDiff, Nat.reduceSub, Nat.reduceMul, Nat.reduceBEq, Nat.reduceBNe, Nat.reducePow, Nat.reduceDiv, Int.reduceLE, Int.reduceLT, Int.reduceToNat, Int.reduceNeg, Int.reduceAdd, Int.reduceSub, Int.reduceEq, reduceIte, reduceCtorEq, UInt8.reduceOfNat, sgD, hd, ht]
  repeat refine And.intro (by first | omega | assumption | (simp; done) | (simp; omega) | (simp +contextual; done) | (simp_all; done) | (simp_all; omega)) ?_
  refine hK _ ?_
  clear hK K
  refine WA.regionK ty_ok hs fun K hK => ?_
  simp only [go_sem, Nat.reduceAdd, Nat.reduceLT, Nat.reduceLeDiff, Nat.reduceEqDiff, Nat.reduceSub, Nat.reduceMul, Nat.reduceBEq, Nat.reduceBNe, Nat.reducePow, Nat.reduceDiv, Int.reduceLE, Int.reduceLT, Int.reduceToNat, Int.reduceNeg, Int.reduceAdd, Int.reduceSub, Int.reduceEq, reduceIte, reduceCtorEq, UInt8.reduceOfNat, sgD, hd, ht]
  repeat refine And.intro (by first | omega | assumption | (simp; done) | (simp; omega) | (simp +contextual; done) | (simp_all; done) | (simp_all; omega)) ?_
  refine hK _ ?_
  clear hK K
  refine WA.retE ty_ok (xs := [.lit (.bool (nxI L z n == n - 1))]) (ls' := [.li 2 [.agg [L, .lit (.int .i64 (nxZ L z))]]]) (rv := [.tmp 4]) rfl hX (by simp) (fun _ => rfl) (fun _ _ h => h) ?_
  simp only [go_sem, Nat.reduceAdd, Nat.reduceLT, Nat.reduceLeDiff, Nat.reduceEqDiff, Nat.reduceSub, Nat.reduceMul, Nat.reduceBEq, Nat.reduceBNe, Nat.reducePow, Nat.reduceDiv, Int.reduceLE, Int.reduceLT, Int.reduceToNat, Int.reduceNeg, Int.reduceAdd, Int.reduceSub, Int.reduceEq, reduceIte, reduceCtorEq, UInt8.reduceOfNat, ht]

/-- Next with many outcomes: a number below n, and the dice further on. -/
def stD : Sg2 := fun f args ls =>
  match f, args, ls with
  | 23, [.ptr 0 0 0, .lit (.int .i64 n)], [.li 2 [.agg [L, .lit (.int .i64 z)]]] => some ⟨Int × Int, fun i => (0 ≤ i.1 ∧ i.1 < n) ∧ DcOK L i.2, fun i => .lit (.int .i64 i.1), fun i => [.li 2 [.agg [L, .lit (.int .i64 i.2)]]], DcOK L z ∧ 1 ≤ n ∧ n ≤ 4611686018427387904⟩
  | _, _, _ => none
theorem stD_ok : Sg2OK Try.prog stD := by
  intro f args ls R h hvc
  unfold stD at h
  split at h <;> first | (simp only [Option.some.injEq] at h; subst h) | cases h
  rename_i n L z
  exact ⟨fnOK Try.func23 (by decide) rfl, (next_s L z n hvc.1 hvc.2.1 hvc.2.2).toE (i := (nxI L z n, nxZ L z)) ⟨nx_rng L z n hvc.2.1, dc_nx hvc.1⟩ rfl rfl⟩
theorem bytes_e (L : AV) (z most : Int) (hd : DcOK L z) (h1 : 0 ≤ most) (h2 : most ≤ 1000000) : FnE Try.prog 50 [.ptr 0 0 0, .lit (.int .i64 most)] [.li 2 [.agg [L, .lit (.int .i64 z)]]] (I := List UInt8 × Int) (fun i => (i.1.length : Int) ≤ most ∧ DcOK L i.2) (fun i => .fr (.by_ i.1)) (fun i => [.li 2 [.agg [L, .lit (.int .i64 i.2)]]]) := by
  have hs := sg0_ok
  have ht := stD_ok
  have hT := hd.tr
  refine FnE.of Try.func50 rfl (N := 22) rfl (by simp) (by simp) fun X hX => ?_
  simp only [tmArgs, lentH, Nat.reduceAdd]
  refine WA.regionK ty_ok hs fun K hK => ?_
  simp only [go_sem, Nat.reduceAdd, Nat.reduceLT, Nat.reduceLeDiff, Nat.reduceEqDiff, Nat.reduceSub, Nat.reduceMul, Nat.reduceBEq, Nat.reduceBNe, Nat.reducePow, Nat.reduceDiv, Int.reduceLE, Int.reduceLT, Int.reduceToNat, Int.reduceNeg, Int.reduceAdd, Int.reduceSub, Int.reduceEq, reduceIte, reduceCtorEq, UInt8.reduceOfNat, sg0]
  repeat refine And.intro (by first | omega | assumption | (simp; done) | (simp; omega) | (simp +contextual; done) | (simp_all; done) | (simp_all; omega)) ?_
  refine hK _ ?_
  clear hK K
  refine WA.regionK ty_ok hs fun K hK => ?_
  simp only [go_sem, Nat.reduceAdd, Nat.reduceLT, Nat.reduceLeDiff, Nat.reduceEqDiff, Nat.reduceSub, Nat.reduceMul, Nat.reduceBEq, Nat.reduceBNe, Nat.reducePow, Nat.reduceDiv, Int.reduceLE, Int.reduceLT, Int.reduceToNat, Int.reduceNeg, Int.reduceAdd, Int.reduceSub, Int.reduceEq, reduceIte, reduceCtorEq, UInt8.reduceOfNat, sg0]
  repeat refine And.intro (by first | omega | assumption | (simp; done) | (simp; omega) | (simp +contextual; done) | (simp_all; done) | (simp_all; omega)) ?_
  refine hK _ ?_
  clear hK K
  refine WA.own0 5 (.by_ []) rfl rfl ?_
  refine WA.seq ?_
  refine WA.regQ ty_ok hs ht fun K hK => ?_
  simp only [go_sem, Nat.reduceAdd, Nat.reduceLT, Nat.reduceLeDiff, Nat.reduceEqDiff, Nat.reduceSub, Nat.reduceMul, Nat.reduceBEq, Nat.reduceBNe, Nat.reducePow, Nat.reduceDiv, Int.reduceLE, Int.reduceLT, Int.reduceToNat, Int.reduceNeg, Int.reduceAdd, Int.reduceSub, Int.reduceEq, reduceIte, reduceCtorEq, UInt8.reduceOfNat, stD, hd, hT]
  repeat refine And.intro (by first | omega | assumption | (simp; done) | (simp; omega) | (simp +contextual; done) | (simp_all; done) | (simp_all; omega)) ?_
  rintro ⟨a, b⟩ ⟨ha, hd2⟩
  try dsimp only at ha hd2
  try dsimp only
  repeat refine And.intro (by first | omega | assumption | (simp; done) | (simp; omega) | (simp +contextual; done) | (simp_all; done) | (simp_all; omega)) ?_
  refine hK _ ?_
  clear hK K
  refine WA.block ?_
  refine WA.loopW hX (fun k => if k = 3000 then 2016 else k) ((fun (i : List UInt8 × Nat × Int) => ⟨[(0, .ptr 0 0 0), (5, .sl 3000 1 0 i.1.length), (6, .lit (.int .i64 (i.2.1 : Nat)))], [(3000, ⟨.by_ i.1, 0, false⟩), (0, ⟨.li 2 [.agg [L, .lit (.int .i64 i.2.2)]], 0, true⟩)], 4000, 22⟩ : _ → St)) (fun i => i.2.1) (fun i => (i.1.length : Int) + i.2.1 ≤ most ∧ DcOK L i.2.2) (i0 := ([], a.toNat, b)) (⟨by simp; omega, hd2⟩) (by simp only [go_sem, Int.natCast_add, Nat.reduceAdd, Nat.reduceLT, Nat.reduceLeDiff, Nat.reduceEqDiff, Nat.reduceSub, Nat.reduceMul, Nat.reduceBEq, Nat.reduceBNe, Nat.reducePow, Nat.reduceDiv, Int.reduceLE, Int.reduceLT, Int.reduceToNat, Int.reduceNeg, Int.reduceAdd, Int.reduceSub, Int.reduceEq, reduceIte, reduceCtorEq, UInt8.reduceOfNat, hT] <;> (try and_intros) <;> (try omega)) fun ⟨bs, n, z⟩ hi => ?_
  simp only at hi
  obtain ⟨hi, hd2⟩ := hi
  refine WA.seq ?_
  refine WA.regionK ty_ok hs fun K hK => ?_
  simp only [go_sem, Nat.reduceAdd, Nat.reduceLT, Nat.reduceLeDiff, Nat.reduceEqDiff, Nat.reduceSub, Nat.reduceMul, Nat.reduceBEq, Nat.reduceBNe, Nat.reducePow, Nat.reduceDiv, Int.reduceLE, Int.reduceLT, Int.reduceToNat, Int.reduceNeg, Int.reduceAdd, Int.reduceSub, Int.reduceEq, reduceIte, reduceCtorEq, UInt8.reduceOfNat, sg0]
  repeat refine And.intro (by first | omega | assumption | (simp; done) | (simp; omega) | (simp +contextual; done) | (simp_all; done) | (simp_all; omega)) ?_
  refine hK _ ?_
  clear hK K
  refine WA.cond rfl (fun h => ?_) (fun h => ?_)
  ·
    with_reducible refine WA.skipN ?_
    repeat first | with_reducible refine WN.t ?_ | with_reducible refine WN.b ?_
    have h6 : 0 < n := by have := of_decide_eq_true h; omega
    clear h
    refine WA.seq ?_
    refine WA.block ?_
    refine WA.regQE ty_ok hs ht fun K hK => ?_
    simp only [go_sem, Nat.reduceAdd, Nat.reduceLT, Nat.reduceLeDiff, Nat.reduceEqDiff, Nat.reduceSub, Nat.reduceMul, Nat.reduceBEq, Nat.reduceBNe, Nat.reducePow, Nat.reduceDiv, Int.reduceLE, Int.reduceLT, Int.reduceToNat, Int.reduceNeg, Int.reduceAdd, Int.reduceSub, Int.reduceEq, reduceIte, reduceCtorEq, UInt8.reduceOfNat, stD, hd2, hT]
    repeat refine And.intro (by first | omega | assumption | (simp; done) | (simp; omega) | (simp +contextual; done) | (simp_all; done) | (simp_all; omega)) ?_
    rintro ⟨a2, b2⟩ ⟨ha2, hd3⟩
    try dsimp only at ha2 hd3
    try dsimp only
    and_intros
    all_goals try omega
    with_reducible refine hK _ (WN.mk ?_)
    clear hK K
    repeat first | with_reducible refine WN.t ?_ | with_reducible refine WN.b ?_
    refine WA.regionE ty_ok hs fun K hK => ?_
    simp only [go_sem, Nat.reduceAdd, Nat.reduceLT, Nat.reduceLeDiff, Nat.reduceEqDiff, Nat.reduceSub, Nat.reduceMul, Nat.reduceBEq, Nat.reduceBNe, Nat.reducePow, Nat.reduceDiv, Int.reduceLE, Int.reduceLT, Int.reduceToNat, Int.reduceNeg, Int.reduceAdd, Int.reduceSub, Int.reduceEq, reduceIte, reduceCtorEq, UInt8.reduceOfNat, sg0]
    refine And.intro (by omega) ?_
    refine hK _ (roundE hX (fun k => if k = 3000 then 4056 else k) (j := (bs ++ [UInt8.ofNat (IntKind.u8.wrap a2).toNat], n - 1, b2)) (⟨by simp; omega, hd3⟩) (by first | omega | (dsimp only; omega) | (simp; omega)) (by simp only [go_sem, Int.natCast_add, Nat.reduceAdd, Nat.reduceLT, Nat.reduceLeDiff, Nat.reduceEqDiff, Nat.reduceSub, Nat.reduceMul, Nat.reduceBEq, Nat.reduceBNe, Nat.reducePow, Nat.reduceDiv, Int.reduceLE, Int.reduceLT, Int.reduceToNat, Int.reduceNeg, Int.reduceAdd, Int.reduceSub, Int.reduceEq, reduceIte, reduceCtorEq, UInt8.reduceOfNat, hT] <;> (try and_intros) <;> (try omega)))
  ·
    with_reducible refine WA.exitX ?_
    repeat first | with_reducible refine WX.b ?_ | with_reducible refine WX.t ?_ | (with_reducible refine WX.n ?hne ?_; case hne => rfl)
    have h6 : n = 0 := by have := of_decide_eq_false h; omega
    refine WA.regionK ty_ok hs fun K hK => ?_
    simp only [go_sem, Nat.reduceAdd, Nat.reduceLT, Nat.reduceLeDiff, Nat.reduceEqDiff, Nat.reduceSub, Nat.reduceMul, Nat.reduceBEq, Nat.reduceBNe, Nat.reducePow, Nat.reduceDiv, Int.reduceLE, Int.reduceLT, Int.reduceToNat, Int.reduceNeg, Int.reduceAdd, Int.reduceSub, Int.reduceEq, reduceIte, reduceCtorEq, UInt8.reduceOfNat, sg0]
    repeat refine And.intro (by first | omega | assumption | (simp; done) | (simp; omega) | (simp +contextual; done) | (simp_all; done) | (simp_all; omega)) ?_
    refine hK _ ?_
    clear hK K
    refine WA.retE ty_ok (xs := [.fr (.by_ bs)]) (ls' := [.li 2 [.agg [L, .lit (.int .i64 z)]]]) (rv := [.tmp 4]) rfl hX (by simp) (fun _ => rfl) (fun _ _ h => ⟨(bs, z), ⟨by show (bs.length : Int) ≤ most; omega, hd2⟩, h⟩) ?_
    simp only [go_sem, Nat.reduceAdd, Nat.reduceLT, Nat.reduceLeDiff, Nat.reduceEqDiff, Nat.reduceSub, Nat.reduceMul, Nat.reduceBEq, Nat.reduceBNe, Nat.reducePow, Nat.reduceDiv, Int.reduceLE, Int.reduceLT, Int.reduceToNat, Int.reduceNeg, Int.reduceAdd, Int.reduceSub, Int.reduceEq, reduceIte, reduceCtorEq, UInt8.reduceOfNat, hT]

theorem light_s (xs : List AV) : FnS Try.prog 20 [.li 1 xs] [] (.lit (.bool (decide ((xs.length : Int) ≤ 400)))) [] := by
  have hs := sg0_ok
  refine FnS.of Try.func20 rfl (N := 6) rfl (by simp) (by simp) fun X hX => ?_
  simp only [tmArgs, lentH, Nat.reduceAdd]
  refine WA.regionK ty_ok hs fun K hK => ?_
  simp only [go_sem, Nat.reduceAdd, Nat.reduceLT, Nat.reduceLeDiff, Nat.reduceEqDiff, Nat.reduceSub, Nat.reduceMul, Nat.reduceBEq, Nat.reduceBNe, Nat.reducePow, Nat.reduceDiv, Int.reduceLE, Int.reduceLT, Int.reduceToNat, Int.reduceNeg, Int.reduceAdd, Int.reduceSub, Int.reduceEq, reduceIte, reduceCtorEq, UInt8.reduceOfNat, sg0]
  repeat refine And.intro (by first | omega | assumption | (simp; done) | (simp; omega) | (simp +contextual; done) | (simp_all; done) | (simp_all; omega)) ?_
  refine hK _ ?_
  clear hK K
  refine WA.regionK ty_ok hs fun K hK => ?_
  simp only [go_sem, Nat.reduceAdd, Nat.reduceLT, Nat.reduceLeDiff, Nat.reduceEqDiff, Nat.reduceSub, Nat.reduceMul, Nat.reduceBEq, Nat.reduceBNe, Nat.reducePow, Nat.reduceDiv, Int.reduceLE, Int.reduceLT, Int.reduceToNat, Int.reduceNeg, Int.reduceAdd, Int.reduceSub, Int.reduceEq, reduceIte, reduceCtorEq, UInt8.reduceOfNat, sg0]
  repeat refine And.intro (by first | omega | assumption | (simp; done) | (simp; omega) | (simp +contextual; done) | (simp_all; done) | (simp_all; omega)) ?_
  refine hK _ ?_
  clear hK K
  refine WA.retE ty_ok (xs := [.lit (.bool (decide ((xs.length : Int) ≤ 400)))]) (ls' := []) (rv := [.tmp 2]) rfl hX (by decide) (fun _ => rfl) (fun _ _ h => h) ?_
  simp only [go_sem, Nat.reduceAdd, Nat.reduceLT, Nat.reduceLeDiff, Nat.reduceEqDiff, Nat.reduceSub, Nat.reduceMul, Nat.reduceBEq, Nat.reduceBNe, Nat.reducePow, Nat.reduceDiv, Int.reduceLE, Int.reduceLT, Int.reduceToNat, Int.reduceNeg, Int.reduceAdd, Int.reduceSub, Int.reduceEq, reduceIte, reduceCtorEq, UInt8.reduceOfNat, sbT]

theorem roll_s (xs : List AV) (hT : Tr (.li 1 xs) = True) : FnS Try.prog 21 [.li 1 xs] [] (.fr (.opt true (.li 2 [.agg [.li 1 xs, .lit (.int .i64 0)]]))) [] := by
  have hs := sg0_ok
  refine FnS.of Try.func21 rfl (N := 6) rfl (by simp) (by simp) fun X hX => ?_
  simp only [tmArgs, lentH, Nat.reduceAdd]
  refine WA.regionK ty_ok hs fun K hK => ?_
  simp only [go_sem, Nat.reduceAdd, Nat.reduceLT, Nat.reduceLeDiff, Nat.reduceEqDiff, Nat.reduceSub, Nat.reduceMul, Nat.reduceBEq, Nat.reduceBNe, Nat.reducePow, Nat.reduceDiv, Int.reduceLE, Int.reduceLT, Int.reduceToNat, Int.reduceNeg, Int.reduceAdd, Int.reduceSub, Int.reduceEq, reduceIte, reduceCtorEq, UInt8.reduceOfNat, sg0]
  repeat refine And.intro (by first | omega | assumption | (simp; done) | (simp; omega) | (simp +contextual; done) | (simp_all; done) | (simp_all; omega)) ?_
  refine hK _ ?_
  clear hK K
  refine WA.regionK ty_ok hs fun K hK => ?_
  simp only [go_sem, Nat.reduceAdd, Nat.reduceLT, Nat.reduceLeDiff, Nat.reduceEqDiff, Nat.reduceSub, Nat.reduceMul, Nat.reduceBEq, Nat.reduceBNe, Nat.reducePow, Nat.reduceDiv, Int.reduceLE, Int.reduceLT, Int.reduceToNat, Int.reduceNeg, Int.reduceAdd, Int.reduceSub, Int.reduceEq, reduceIte, reduceCtorEq, UInt8.reduceOfNat, sg0]
  repeat refine And.intro (by first | omega | assumption | (simp; done) | (simp; omega) | (simp +contextual; done) | (simp_all; done) | (simp_all; omega)) ?_
  refine hK _ ?_
  clear hK K
  refine WA.retE ty_ok (xs := [.fr (.opt true (.li 2 [.agg [.li 1 xs, .lit (.int .i64 0)]]))]) (ls' := []) (rv := [.tmp 2]) rfl hX (by decide) (fun _ => rfl) (fun _ _ h => h) ?_
  simp only [go_sem, Nat.reduceAdd, Nat.reduceLT, Nat.reduceLeDiff, Nat.reduceEqDiff, Nat.reduceSub, Nat.reduceMul, Nat.reduceBEq, Nat.reduceBNe, Nat.reducePow, Nat.reduceDiv, Int.reduceLE, Int.reduceLT, Int.reduceToNat, Int.reduceNeg, Int.reduceAdd, Int.reduceSub, Int.reduceEq, reduceIte, reduceCtorEq, UInt8.reduceOfNat, sbT, hT]

theorem dc_roll {l : List Int} (h : ∀ y ∈ l, -9223372036854775808 ≤ y ∧ y ≤ 9223372036854775807) (h1 : l.length ≤ 400) : DcOK (.li 1 (l.map iA)) 0 := ⟨l, rfl, h, by omega, by omega, h1⟩
end Go.Proofs.Ytloihfflblgioaa
