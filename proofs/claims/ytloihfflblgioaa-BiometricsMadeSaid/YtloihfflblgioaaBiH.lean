import Derived.Test.YtloihfflblgioaaBiG
namespace Go.Proofs.Ytloihfflblgioaa
open Go.RowKit Go.TravelBase Go.TravelAbs
set_option linter.unusedVariables false
set_option linter.unusedSimpArgs false

















/-! ### Reading a template -/
def nd0 : Nd := .mk 0 [] []
/-- What is left of a header begins with the number that must come next. -/
def gooH (h : List Nd) : Bool := isB (h.headD nd0).tag (h.headD nd0).val.length (h.headD nd0).kids.length (fldT (6 - h.length)) && ((h.headD nd0).val.length : Int) == fldS (6 - h.length)
def nxH (h : List Nd) : List Nd := if gooH h = true then h.drop 1 else h
def nvH (h : List Nd) : Int := if gooH h = true then numV (h.headD nd0).val else 0
theorem nxH_len {h : List Nd} (h1 : 1 ≤ h.length) : h.length - 1 ≤ (nxH h).length ∧ (nxH h).length ≤ h.length := by
  unfold nxH
  split
  · rw [List.length_drop]; omega
  · omega
def sgNh : Sg := fun f args ls =>
  match f, args, ls with
  | 32, [.agg [.lit (.int .i64 x), .by_ v, .li 3 xs], .lit (.int .i64 tag)], [] => some (.lit (.bool (isB x v.length xs.length tag)), [], True)
  | 43, [], [] => some (.li 2 fldL, [], True)
  | 49, [.by_ bs], [] => some (.tup [.lit (.int .i64 (numV bs)), .lit (.int .i64 (numE bs))], [], True)
  | _, _, _ => none
theorem sgNh_ok : SgOK Try.prog sgNh := by
  intro f args ls r ls' vc h hvc
  unfold sgNh at h
  split at h <;> first | (simp only [Option.some.injEq, Prod.mk.injEq] at h; obtain ⟨rfl, rfl, rfl⟩ := h) | cases h
  · exact ⟨(fnOK Try.func32 (by decide) rfl), is_s _ _ _ _⟩
  · exact ⟨(fnOK Try.func43 (by decide) rfl), fields_s⟩
  · exact ⟨(fnOK Try.func49 (by decide) rfl), number_s _⟩
set_option maxHeartbeats 1000000 in
theorem tnext_s (x : Nd) (hd : List Nd) (b : Bool) (hx : 1 ≤ x.kids.length) (hk : x.kids[0].kids.length = 6) (h1 : 1 ≤ hd.length) (h2 : hd.length ≤ 6) :
    FnS Try.prog 48 [.ptr 0 0 0, .ptr 1 0 0, .ptr 2 0 0] [.li 3 [.agg [.lit (.int .i64 x.tag), .by_ x.val, .li 3 (ndsA x.kids)]], .li 1 [.li 3 (ndsA hd)], .li 1 [.lit (.bool b)]] (.lit (.int .i64 (nvH hd))) [.li 3 [.agg [.lit (.int .i64 x.tag), .by_ x.val, .li 3 (ndsA x.kids)]], .li 1 [.li 3 (ndsA (nxH hd))], .li 1 [.lit (.bool (b && gooH hd))]] := by
  have hs := sgNh_ok
  have g1 := nd_at (l := x.kids) (i := 0) hx
  have g2 := nd_at (l := hd) (i := 0) h1
  have e3 : hd[0] = hd.headD nd0 := by cases hd with
    | nil => simp at h1
    | cons a r => rfl
  rw [e3] at g2
  obtain ⟨n, hn⟩ : ∃ n, hd.headD nd0 = n := ⟨_, rfl⟩
  rw [hn] at g2
  obtain ⟨j, hj⟩ : ∃ j, 6 - hd.length = j := ⟨_, rfl⟩
  have hj6 : j < 6 := by omega
  have e1 : (6 : Int) - (hd.length : Nat) = (j : Nat) := by omega
  have e2 : (((hd.length : Nat) : Int) == 0) = false := beq_eq_false_iff_ne.2 (by omega)
  have g3 := fld_at hj6
  have g4 : fldL.length = 6 := rfl
  have hT := Tr_nds hd
  have hT2 := Tr_nds x.kids
  have g5 : gooH hd = (isB n.tag n.val.length n.kids.length (fldT j) && (n.val.length : Int) == fldS j) := by unfold gooH; rw [hn, hj]
  have g6 : (x.kids[0].kids.length : Int) = 6 := by omega
  refine FnS.of Try.func48 rfl (N := 54) rfl (by simp) (by simp) fun X hX => ?_
  simp only [tmArgs, lentH, Nat.reduceAdd]
  refine WA.regionK ty_ok hs fun K hK => ?_
  simp only [go_sem, Nat.reduceAdd, Nat.reduceLT, Nat.reduceLeDiff, Nat.reduceEqDiff, Nat.reduceSub, Nat.reduceMul, Nat.reduceBEq, Nat.reduceBNe, Nat.reducePow, Nat.reduceDiv, Int.reduceLE, Int.reduceLT, Int.reduceToNat, Int.reduceNeg, Int.reduceAdd, Int.reduceSub, Int.reduceEq, reduceIte, reduceCtorEq, UInt8.reduceOfNat, true_and]
  repeat refine And.intro (by first | omega | assumption | (simp; done) | (simp; omega) | (simp +contextual; done) | (simp_all; done) | (simp_all; omega)) ?_
  refine hK _ ?_
  clear hK K
  refine WA.drawnK mixed_ ty_ok hs (tbl := [[], [0], [0, 1], [0, 1, 2], [0, 1, 2, 3], [0, 1, 2, 3, 4], [], [6], [0, 1, 2, 3, 4, 5, 6, 7], [0, 1, 2, 3, 4, 5, 6, 7, 8]]) (nb := [1, 4, 6]) (by kernel_rfl) fun K hK => ?_
  simp only [go_sem, Nat.reduceAdd, Nat.reduceLT, Nat.reduceLeDiff, Nat.reduceEqDiff, Nat.reduceSub, Nat.reduceMul, Nat.reduceBEq, Nat.reduceBNe, Nat.reducePow, Nat.reduceDiv, Int.reduceLE, Int.reduceLT, Int.reduceToNat, Int.reduceNeg, Int.reduceAdd, Int.reduceSub, Int.reduceEq, reduceIte, reduceCtorEq, UInt8.reduceOfNat, g1, g6, hk, nds_len]
  repeat refine And.intro (by first | omega | assumption | (simp; done) | (simp; omega) | (simp +contextual; done) | (simp_all; done) | (simp_all; omega)) ?_
  refine hK _ ?_
  clear hK K
  refine WA.regionK ty_ok hs fun K hK => ?_
  simp only [go_sem, Nat.reduceAdd, Nat.reduceLT, Nat.reduceLeDiff, Nat.reduceEqDiff, Nat.reduceSub, Nat.reduceMul, Nat.reduceBEq, Nat.reduceBNe, Nat.reducePow, Nat.reduceDiv, Int.reduceLE, Int.reduceLT, Int.reduceToNat, Int.reduceNeg, Int.reduceAdd, Int.reduceSub, Int.reduceEq, reduceIte, reduceCtorEq, UInt8.reduceOfNat, sgNh, e1, g3, g4, Tr_fld]
  repeat refine And.intro (by first | omega | assumption | (simp; done) | (simp; omega) | (simp +contextual; done) | (simp_all; done) | (simp_all; omega)) ?_
  refine hK _ ?_
  clear hK K
  refine WA.seq ?_
  refine WA.drawnK mixed_ ty_ok hs (tbl := [[], [0], [0, 1], [0, 1, 2], [0, 1, 2, 3], [0, 1, 2, 3, 4], [0, 1, 2, 3, 4, 5], [0, 1, 2, 3], [0, 1, 2, 3, 7], [0, 1, 2, 3, 4, 5, 6, 7, 8], [0, 1, 2, 3, 4, 5, 6, 7, 8, 9], [0, 1, 2, 3, 4, 5, 6, 7, 8, 9, 10], [0, 1, 2, 3, 4, 5, 6, 7, 8, 9, 10, 11], [0, 1, 2, 3, 4, 5, 6, 7, 8, 9, 10, 11, 12], [0, 1, 2, 3, 4, 5, 6, 7, 8, 9, 10, 11, 12, 13], [0, 1, 2, 3, 4, 5, 6, 7, 8, 9, 10, 11, 12, 13, 14], [0, 1, 2, 3, 4, 5, 6, 7, 8, 9, 10, 11, 12, 13, 14, 15], [0, 1, 2, 3, 4, 5, 6, 7, 8, 9, 10, 11, 12, 13, 14, 15, 16], [0, 1, 2, 3, 4, 5, 6, 7, 8, 9, 10, 11, 12], [0, 1, 2, 3, 4, 5, 6, 7, 8, 9, 10, 11, 12, 18], [0, 1, 2, 3, 4, 5, 6, 7, 8, 9, 10, 11, 12, 13, 14, 15, 16, 17, 18, 19], [0, 1, 2, 3, 4, 5, 6, 7, 8, 9, 10, 11, 12, 13, 14, 15, 16, 17, 18, 19, 20]]) (nb := [0, 4, 6, 8, 9, 13, 16, 19]) (by kernel_rfl) fun K hK => ?_
  simp only [go_sem, Nat.reduceAdd, Nat.reduceLT, Nat.reduceLeDiff, Nat.reduceEqDiff, Nat.reduceSub, Nat.reduceMul, Nat.reduceBEq, Nat.reduceBNe, Nat.reducePow, Nat.reduceDiv, Int.reduceLE, Int.reduceLT, Int.reduceToNat, Int.reduceNeg, Int.reduceAdd, Int.reduceSub, Int.reduceEq, reduceIte, reduceCtorEq, UInt8.reduceOfNat, sgNh, e2, g2, nds_len, Tr_nds]
  refine And.intro ⟨by omega, fun q => ⟨q, by omega⟩, fun q => by simpa using q⟩ ?_
  refine hK _ ?_
  clear hK K
  refine WA.cond rfl (fun h => ?_) (fun h => ?_)
  ·
    have g7 : gooH hd = false := by
      rw [g5]
      cases hq : isB n.tag n.val.length n.kids.length (fldT j) with
      | false => rfl
      | true =>
        rw [hq] at h
        simpa using h
    have e5 : nvH hd = 0 := if_neg (by simp [g7])
    have e6 : nxH hd = hd := if_neg (by simp [g7])
    rw [e5, e6, g7, Bool.and_false]
    refine WA.regionK ty_ok hs fun K hK => ?_
    simp only [go_sem, Nat.reduceAdd, Nat.reduceLT, Nat.reduceLeDiff, Nat.reduceEqDiff, Nat.reduceSub, Nat.reduceMul, Nat.reduceBEq, Nat.reduceBNe, Nat.reducePow, Nat.reduceDiv, Int.reduceLE, Int.reduceLT, Int.reduceToNat, Int.reduceNeg, Int.reduceAdd, Int.reduceSub, Int.reduceEq, reduceIte, reduceCtorEq, UInt8.reduceOfNat, true_and]
    repeat refine And.intro (by first | omega | assumption | (simp; done) | (simp; omega) | (simp +contextual; done) | (simp_all; done) | (simp_all; omega)) ?_
    refine hK _ ?_
    clear hK K
    refine WA.regionK ty_ok hs fun K hK => ?_
    simp only [go_sem, Nat.reduceAdd, Nat.reduceLT, Nat.reduceLeDiff, Nat.reduceEqDiff, Nat.reduceSub, Nat.reduceMul, Nat.reduceBEq, Nat.reduceBNe, Nat.reducePow, Nat.reduceDiv, Int.reduceLE, Int.reduceLT, Int.reduceToNat, Int.reduceNeg, Int.reduceAdd, Int.reduceSub, Int.reduceEq, reduceIte, reduceCtorEq, UInt8.reduceOfNat, true_and]
    repeat refine And.intro (by first | omega | assumption | (simp; done) | (simp; omega) | (simp +contextual; done) | (simp_all; done) | (simp_all; omega)) ?_
    refine hK _ ?_
    clear hK K
    refine WA.retE ty_ok (xs := [.lit (.int .i64 0)]) (ls' := [.li 3 [.agg [.lit (.int .i64 x.tag), .by_ x.val, .li 3 (ndsA x.kids)]], .li 1 [.li 3 (ndsA hd)], .li 1 [.lit (.bool false)]]) (rv := [.tmp 3]) rfl hX (by simp) (fun _ => rfl) (fun _ _ h => h) ?_
    simp only [go_sem, Nat.reduceAdd, Nat.reduceLT, Nat.reduceLeDiff, Nat.reduceEqDiff, Nat.reduceSub, Nat.reduceMul, Nat.reduceBEq, Nat.reduceBNe, Nat.reducePow, Nat.reduceDiv, Int.reduceLE, Int.reduceLT, Int.reduceToNat, Int.reduceNeg, Int.reduceAdd, Int.reduceSub, Int.reduceEq, reduceIte, reduceCtorEq, UInt8.reduceOfNat, sbT, Tr_nds, Tr_nd]
  ·
    have g7 : gooH hd = true := by
      rw [g5]
      cases hq : isB n.tag n.val.length n.kids.length (fldT j) with
      | false =>
        rw [hq] at h
        simp at h
      | true =>
        rw [hq] at h
        simpa using h
    have e5 : nvH hd = numV n.val := by unfold nvH; rw [if_pos g7, hn]
    have e6 : nxH hd = hd.drop 1 := if_pos g7
    rw [e5, e6, g7, Bool.and_true]
    with_reducible refine WA.skipN ?_
    repeat first | with_reducible refine WN.t ?_ | with_reducible refine WN.b ?_
    refine WA.regionK ty_ok hs fun K hK => ?_
    simp only [go_sem, Nat.reduceAdd, Nat.reduceLT, Nat.reduceLeDiff, Nat.reduceEqDiff, Nat.reduceSub, Nat.reduceMul, Nat.reduceBEq, Nat.reduceBNe, Nat.reducePow, Nat.reduceDiv, Int.reduceLE, Int.reduceLT, Int.reduceToNat, Int.reduceNeg, Int.reduceAdd, Int.reduceSub, Int.reduceEq, reduceIte, reduceCtorEq, UInt8.reduceOfNat, sgNh, g2, nds_len]
    repeat refine And.intro (by first | omega | assumption | (simp; done) | (simp; omega) | (simp +contextual; done) | (simp_all; done) | (simp_all; omega)) ?_
    refine hK _ ?_
    clear hK K
    refine WA.regionK ty_ok hs fun K hK => ?_
    simp only [go_sem, Nat.reduceAdd, Nat.reduceLT, Nat.reduceLeDiff, Nat.reduceEqDiff, Nat.reduceSub, Nat.reduceMul, Nat.reduceBEq, Nat.reduceBNe, Nat.reducePow, Nat.reduceDiv, Int.reduceLE, Int.reduceLT, Int.reduceToNat, Int.reduceNeg, Int.reduceAdd, Int.reduceSub, Int.reduceEq, reduceIte, reduceCtorEq, UInt8.reduceOfNat, nds_len]
    repeat refine And.intro (by first | omega | assumption | (simp; done) | (simp; omega) | (simp +contextual; done) | (simp_all; done) | (simp_all; omega)) ?_
    refine hK _ ?_
    clear hK K
    refine WA.regionK ty_ok hs fun K hK => ?_
    simp only [go_sem, Nat.reduceAdd, Nat.reduceLT, Nat.reduceLeDiff, Nat.reduceEqDiff, Nat.reduceSub, Nat.reduceMul, Nat.reduceBEq, Nat.reduceBNe, Nat.reducePow, Nat.reduceDiv, Int.reduceLE, Int.reduceLT, Int.reduceToNat, Int.reduceNeg, Int.reduceAdd, Int.reduceSub, Int.reduceEq, reduceIte, reduceCtorEq, UInt8.reduceOfNat, true_and]
    repeat refine And.intro (by first | omega | assumption | (simp; done) | (simp; omega) | (simp +contextual; done) | (simp_all; done) | (simp_all; omega)) ?_
    refine hK _ ?_
    clear hK K
    refine WA.retE ty_ok (xs := [.lit (.int .i64 (numV n.val))]) (ls' := [.li 3 [.agg [.lit (.int .i64 x.tag), .by_ x.val, .li 3 (ndsA x.kids)]], .li 1 [.li 3 (ndsA (hd.drop 1))], .li 1 [.lit (.bool b)]]) (rv := [.tmp 3]) rfl hX (by simp) (fun _ => rfl) (fun _ _ h => h) ?_
    simp only [go_sem, Nat.reduceAdd, Nat.reduceLT, Nat.reduceLeDiff, Nat.reduceEqDiff, Nat.reduceSub, Nat.reduceMul, Nat.reduceBEq, Nat.reduceBNe, Nat.reducePow, Nat.reduceDiv, Int.reduceLE, Int.reduceLT, Int.reduceToNat, Int.reduceNeg, Int.reduceAdd, Int.reduceSub, Int.reduceEq, reduceIte, reduceCtorEq, UInt8.reduceOfNat, sbT, Tr_nds, Tr_nd]
    all_goals (rw [List.take_of_length_le (by rw [nds_len]; omega), nds_drop])
/-- The header of a template's object, and the form of the object. -/
def hdrT (x : Nd) : List Nd := (x.kids.headD nd0).kids
def secT (x : Nd) : Nd := (x.kids.drop 1).headD nd0
def forB (x : Nd) : Bool := isB x.tag x.val.length x.kids.length 32608 && x.kids.length == 2 && isB (x.kids.headD nd0).tag (x.kids.headD nd0).val.length (hdrT x).length 161 && isB (secT x).tag (secT x).val.length (secT x).kids.length 24366
def itH : Nat → List Nd → List Nd
  | 0, h => h
  | i + 1, h => nxH (itH i h)
def tplT (x : Nd) : Tm := ⟨nvH (itH 0 (hdrT x)), nvH (itH 1 (hdrT x)), nvH (itH 2 (hdrT x)), nvH (itH 3 (hdrT x)), nvH (itH 5 (hdrT x)), nvH (itH 4 (hdrT x)), (secT x).val⟩
def tplB (x : Nd) : Bool := (((((true && gooH (itH 0 (hdrT x))) && gooH (itH 1 (hdrT x))) && gooH (itH 2 (hdrT x))) && gooH (itH 3 (hdrT x))) && gooH (itH 4 (hdrT x))) && gooH (itH 5 (hdrT x))
def tm0 : Tm := ⟨0, 0, 0, 0, 0, 0, []⟩
def tmpT (x : Nd) : Tm := if forB x && (hdrT x).length == 6 then tplT x else tm0
def tmpB (x : Nd) : Bool := if forB x && (hdrT x).length == 6 then tplB x else false
theorem itH_len {h : List Nd} (h1 : h.length = 6) : ∀ i, i ≤ 6 → 6 - i ≤ (itH i h).length ∧ (itH i h).length ≤ 6
  | 0, _ => by rw [itH]; omega
  | i + 1, hi => by
    have h2 := itH_len h1 i (by omega)
    have h3 := nxH_len (h := itH i h) (by omega)
    rw [itH]
    omega
def sgTp : Sg := fun f args ls =>
  match f, args, ls with
  | 32, [.agg [.lit (.int .i64 x), .by_ v, .li 3 xs], .lit (.int .i64 tag)], [] => some (.lit (.bool (isB x v.length xs.length tag)), [], True)
  | 32, [.agg [.any], .lit (.int .i64 tag)], [] => some (.lit (.bool false), [], False)
  | 43, [], [] => some (.li 2 fldL, [], True)
  | 45, [.by_ bs], [] => some (.fr (.by_ bs), [], bs.length ≤ 140737488355328)
  | 48, [.ptr 0 0 0, .ptr 1 0 0, .ptr 2 0 0], [.li 3 [.agg [.lit (.int .i64 t), .by_ v, .li 3 xs]], .li 1 [.li 3 hs], .li 1 [.lit (.bool b)]] =>
    some (.lit (.int .i64 (nvH (unNs hs))), [.li 3 [.agg [.lit (.int .i64 t), .by_ v, .li 3 xs]], .li 1 [.li 3 (ndsA (nxH (unNs hs)))], .li 1 [.lit (.bool (b && gooH (unNs hs)))]], (hs = ndsA (unNs hs) ∧ 1 ≤ (unNs hs).length ∧ (unNs hs).length ≤ 6) ∧ xs = ndsA (unNs xs) ∧ 1 ≤ (unNs xs).length ∧ ((unNs xs).headD nd0).kids.length = 6)
  | _, _, _ => none
theorem sgTp_ok : SgOK Try.prog sgTp := by
  intro f args ls r ls' vc h hvc
  unfold sgTp at h
  split at h <;> first | (simp only [Option.some.injEq, Prod.mk.injEq] at h; obtain ⟨rfl, rfl, rfl⟩ := h) | cases h
  · exact ⟨(fnOK Try.func32 (by decide) rfl), is_s _ _ _ _⟩
  · exact hvc.elim
  · exact ⟨(fnOK Try.func43 (by decide) rfl), fields_s⟩
  · exact ⟨(fnOK Try.func45 (by decide) rfl), sclone_s _ hvc⟩
  · rename_i t v xs hs b
    refine ⟨(fnOK Try.func48 (by decide) rfl), ?_⟩
    obtain ⟨⟨q1, q2, q3⟩, q4, q5, q6⟩ := hvc
    have key : ∀ (l : List Nd) (h : 1 ≤ l.length), (l.headD nd0).kids.length = 6 → l[0].kids.length = 6 := fun l h hl => by
      cases l with
      | nil => simp at h
      | cons a r => simpa using hl
    have := tnext_s (.mk t v (unNs xs)) (unNs hs) b q5 (key _ q5 q6) q2 q3
    simp only [Nd.tag, Nd.val, Nd.kids] at this
    rw [← q1, ← q4] at this
    exact this
theorem template_s (x : Nd) (hz : (secT x).val.length ≤ 140737488355328) : FnS Try.prog 33 [.agg [.lit (.int .i64 x.tag), .by_ x.val, .li 3 (ndsA x.kids)]] [] (.tup [.agg [.lit (.int .i64 (tmpT x).kind), .lit (.int .i64 (tmpT x).part), .lit (.int .i64 (tmpT x).fr), .lit (.int .i64 (tmpT x).to), .lit (.int .i64 (tmpT x).fmt), .lit (.int .i64 (tmpT x).q), .by_ (tmpT x).data], .lit (.bool (tmpB x))]) [] := by
  have hs := sgTp_ok
  have hT := Tr_nd x
  by_cases hk : x.kids.length = 2
  · obtain ⟨a, b, hab⟩ : ∃ a b, x.kids = [a, b] := by
      match hq : x.kids, hk with
      | [a, b], _ => exact ⟨a, b, rfl⟩
    have eK : ndsA x.kids = [.agg [.lit (.int .i64 a.tag), .by_ a.val, .li 3 (ndsA a.kids)], .agg [.lit (.int .i64 b.tag), .by_ b.val, .li 3 (ndsA b.kids)]] := by rw [hab]; simp only [ndsA, ndA_eq]
    have eL : (x.kids.length : Int) = 2 := by omega
    refine FnS.of Try.func33 rfl (N := 68) rfl (by simp) (by simp) fun X hX => ?_
    simp only [tmArgs, lentH, Nat.reduceAdd]
    refine WA.regionK ty_ok hs fun K hK => ?_
    simp only [go_sem, Nat.reduceAdd, Nat.reduceLT, Nat.reduceLeDiff, Nat.reduceEqDiff, Nat.reduceSub, Nat.reduceMul, Nat.reduceBEq, Nat.reduceBNe, Nat.reducePow, Nat.reduceDiv, Int.reduceLE, Int.reduceLT, Int.reduceToNat, Int.reduceNeg, Int.reduceAdd, Int.reduceSub, Int.reduceEq, reduceIte, reduceCtorEq, UInt8.reduceOfNat, true_and]
    repeat refine And.intro (by first | omega | assumption | (simp; done) | (simp; omega) | (simp +contextual; done) | (simp_all; done) | (simp_all; omega)) ?_
    refine hK _ ?_
    clear hK K
    refine WA.seq ?_
    obtain ⟨p1, h1⟩ : ∃ p, isB x.tag x.val.length 2 32608 = p := ⟨_, rfl⟩
    obtain ⟨p2, h2⟩ : ∃ p, isB a.tag a.val.length a.kids.length 161 = p := ⟨_, rfl⟩
    obtain ⟨p3, h3⟩ : ∃ p, isB b.tag b.val.length b.kids.length 24366 = p := ⟨_, rfl⟩
    have hf : forB x = (p1 && p2 && p3) := by
      unfold forB hdrT secT
      rw [hab]
      simp only [List.length_cons, List.length_nil, Nat.zero_add, Nat.reduceAdd, List.headD_cons, List.drop_succ_cons, List.drop_zero, h1, h2, h3]
      cases p1 <;> rfl
    have hT2 := Tr_nds x.kids
    rw [eK] at hT2
    have e22 : ((2 : Int) != 2) = false := rfl
    refine WA.regionK ty_ok hs fun K hK => ?_
    simp only [go_sem, Nat.reduceAdd, Nat.reduceLT, Nat.reduceLeDiff, Nat.reduceEqDiff, Nat.reduceSub, Nat.reduceMul, Nat.reduceBEq, Nat.reduceBNe, Nat.reducePow, Nat.reduceDiv, Int.reduceLE, Int.reduceLT, Int.reduceToNat, Int.reduceNeg, Int.reduceAdd, Int.reduceSub, Int.reduceEq, reduceIte, reduceCtorEq, UInt8.reduceOfNat, sgTp, eK, h1, h2, h3, nds_len, Tr_nds, hT2, e22, Bool.cond_false_right]
    refine And.intro (by cases p1 <;> cases p2 <;> simp) ?_
    refine hK _ ?_
    clear hK K
    refine WA.cond rfl (fun h => ?_) (fun h => ?_)
    ·
      have f0 : forB x = false := by rw [hf]; revert h; cases p1 <;> cases p2 <;> cases p3 <;> simp
      have e1 : tmpT x = tm0 := if_neg (by simp [f0])
      have e2 : tmpB x = false := if_neg (by simp [f0])
      rw [e1, e2]
      refine WA.regionK ty_ok hs fun K hK => ?_
      simp only [go_sem, Nat.reduceAdd, Nat.reduceLT, Nat.reduceLeDiff, Nat.reduceEqDiff, Nat.reduceSub, Nat.reduceMul, Nat.reduceBEq, Nat.reduceBNe, Nat.reducePow, Nat.reduceDiv, Int.reduceLE, Int.reduceLT, Int.reduceToNat, Int.reduceNeg, Int.reduceAdd, Int.reduceSub, Int.reduceEq, reduceIte, reduceCtorEq, UInt8.reduceOfNat, true_and]
      repeat refine And.intro (by first | omega | assumption | (simp; done) | (simp; omega) | (simp +contextual; done) | (simp_all; done) | (simp_all; omega)) ?_
      refine hK _ ?_
      clear hK K
      refine WA.retE ty_ok (xs := [.agg [.lit (.int .i64 tm0.kind), .lit (.int .i64 tm0.part), .lit (.int .i64 tm0.fr), .lit (.int .i64 tm0.to), .lit (.int .i64 tm0.fmt), .lit (.int .i64 tm0.q), .by_ tm0.data], .lit (.bool false)]) (ls' := []) (rv := [.cell 2 37, .tmp 3]) rfl hX (by decide) (fun _ => rfl) (fun _ _ h => h) ?_
      simp only [go_sem, Nat.reduceAdd, Nat.reduceLT, Nat.reduceLeDiff, Nat.reduceEqDiff, Nat.reduceSub, Nat.reduceMul, Nat.reduceBEq, Nat.reduceBNe, Nat.reducePow, Nat.reduceDiv, Int.reduceLE, Int.reduceLT, Int.reduceToNat, Int.reduceNeg, Int.reduceAdd, Int.reduceSub, Int.reduceEq, reduceIte, reduceCtorEq, UInt8.reduceOfNat, sbT, tm0]
      all_goals (first | done | exact Nat.le_refl _ | (simp; done) | (and_intros <;> first | omega | exact Nat.le_refl _ | (simp; done) | (simp; omega)))
    ·
      have f0 : forB x = true := by rw [hf]; revert h; cases p1 <;> cases p2 <;> cases p3 <;> simp
      have ha : hdrT x = a.kids := by unfold hdrT; rw [hab]; rfl
      have hb2 : secT x = b := by unfold secT; rw [hab]; rfl
      rw [hb2] at hz
      with_reducible refine WA.skipN ?_
      repeat first | with_reducible refine WN.t ?_ | with_reducible refine WN.b ?_
      refine WA.regionK ty_ok hs fun K hK => ?_
      simp only [go_sem, Nat.reduceAdd, Nat.reduceLT, Nat.reduceLeDiff, Nat.reduceEqDiff, Nat.reduceSub, Nat.reduceMul, Nat.reduceBEq, Nat.reduceBNe, Nat.reducePow, Nat.reduceDiv, Int.reduceLE, Int.reduceLT, Int.reduceToNat, Int.reduceNeg, Int.reduceAdd, Int.reduceSub, Int.reduceEq, reduceIte, reduceCtorEq, UInt8.reduceOfNat, eK]
      repeat refine And.intro (by first | omega | assumption | (simp; done) | (simp; omega) | (simp +contextual; done) | (simp_all; done) | (simp_all; omega)) ?_
      refine hK _ ?_
      clear hK K
      refine WA.regionK ty_ok hs fun K hK => ?_
      simp only [go_sem, Nat.reduceAdd, Nat.reduceLT, Nat.reduceLeDiff, Nat.reduceEqDiff, Nat.reduceSub, Nat.reduceMul, Nat.reduceBEq, Nat.reduceBNe, Nat.reducePow, Nat.reduceDiv, Int.reduceLE, Int.reduceLT, Int.reduceToNat, Int.reduceNeg, Int.reduceAdd, Int.reduceSub, Int.reduceEq, reduceIte, reduceCtorEq, UInt8.reduceOfNat, true_and]
      repeat refine And.intro (by first | omega | assumption | (simp; done) | (simp; omega) | (simp +contextual; done) | (simp_all; done) | (simp_all; omega)) ?_
      refine hK _ ?_
      clear hK K
      refine WA.seq ?_
      have g6 : fldL.length = 6 := rfl
      refine WA.drawnK mixed_ ty_ok hs (tbl := [[], [0], [], [2], [0, 1, 2, 3]]) (nb := [0, 2]) (by kernel_rfl) fun K hK => ?_
      simp only [go_sem, Nat.reduceAdd, Nat.reduceLT, Nat.reduceLeDiff, Nat.reduceEqDiff, Nat.reduceSub, Nat.reduceMul, Nat.reduceBEq, Nat.reduceBNe, Nat.reducePow, Nat.reduceDiv, Int.reduceLE, Int.reduceLT, Int.reduceToNat, Int.reduceNeg, Int.reduceAdd, Int.reduceSub, Int.reduceEq, reduceIte, reduceCtorEq, UInt8.reduceOfNat, sgTp, nds_len, Tr_fld, g6]
      repeat refine And.intro (by first | omega | assumption | (simp; done) | (simp; omega) | (simp +contextual; done) | (simp_all; done) | (simp_all; omega)) ?_
      refine hK _ ?_
      clear hK K
      refine WA.cond rfl (fun h => ?_) (fun h => ?_)
      ·
        have h : ¬ (a.kids.length : Int) = 6 := by first | (simp only [Bool.and_eq_true, Bool.or_eq_true, Bool.not_eq_true', decide_eq_true_eq, decide_eq_false_iff_not, beq_iff_eq, bne_iff_ne, ne_eq, Bool.not_eq_eq_eq_not, Bool.not_true, Bool.not_false, beq_eq_false_iff_ne, bne_eq_false_iff_eq, Bool.and_eq_false_imp, Bool.or_eq_false_iff, Bool.cond_false_right, Bool.cond_true_left, Bool.cond_false_left, Bool.cond_true_right, gt_iff_lt, ge_iff_le, true_and] at h; first | exact h | omega) | omega | simpa using h
        have e1 : tmpT x = tm0 := if_neg (by rw [ha]; simp; intro _; omega)
        have e2 : tmpB x = false := if_neg (by rw [ha]; simp; intro _; omega)
        rw [e1, e2]
        refine WA.regionK ty_ok hs fun K hK => ?_
        simp only [go_sem, Nat.reduceAdd, Nat.reduceLT, Nat.reduceLeDiff, Nat.reduceEqDiff, Nat.reduceSub, Nat.reduceMul, Nat.reduceBEq, Nat.reduceBNe, Nat.reducePow, Nat.reduceDiv, Int.reduceLE, Int.reduceLT, Int.reduceToNat, Int.reduceNeg, Int.reduceAdd, Int.reduceSub, Int.reduceEq, reduceIte, reduceCtorEq, UInt8.reduceOfNat, true_and]
        repeat refine And.intro (by first | omega | assumption | (simp; done) | (simp; omega) | (simp +contextual; done) | (simp_all; done) | (simp_all; omega)) ?_
        refine hK _ ?_
        clear hK K
        refine WA.retE ty_ok (xs := [.agg [.lit (.int .i64 tm0.kind), .lit (.int .i64 tm0.part), .lit (.int .i64 tm0.fr), .lit (.int .i64 tm0.to), .lit (.int .i64 tm0.fmt), .lit (.int .i64 tm0.q), .by_ tm0.data], .lit (.bool false)]) (ls' := []) (rv := [.cell 2 37, .tmp 3]) rfl hX (by decide) (fun _ => rfl) (fun _ _ h => h) ?_
        simp only [go_sem, Nat.reduceAdd, Nat.reduceLT, Nat.reduceLeDiff, Nat.reduceEqDiff, Nat.reduceSub, Nat.reduceMul, Nat.reduceBEq, Nat.reduceBNe, Nat.reducePow, Nat.reduceDiv, Int.reduceLE, Int.reduceLT, Int.reduceToNat, Int.reduceNeg, Int.reduceAdd, Int.reduceSub, Int.reduceEq, reduceIte, reduceCtorEq, UInt8.reduceOfNat, sbT, tm0]
        all_goals (first | done | exact Nat.le_refl _ | (simp; done) | (and_intros <;> first | omega | exact Nat.le_refl _ | (simp; done) | (simp; omega)))
      ·
        have h : (a.kids.length : Int) = 6 := by first | (simp only [Bool.and_eq_true, Bool.or_eq_true, Bool.not_eq_true', decide_eq_true_eq, decide_eq_false_iff_not, beq_iff_eq, bne_iff_ne, ne_eq, Bool.not_eq_eq_eq_not, Bool.not_true, Bool.not_false, beq_eq_false_iff_ne, bne_eq_false_iff_eq, Bool.and_eq_false_imp, Bool.or_eq_false_iff, Bool.cond_false_right, Bool.cond_true_left, Bool.cond_false_left, Bool.cond_true_right, gt_iff_lt, ge_iff_le, true_and] at h; first | exact h | omega) | omega | simpa using h
        have h6 : a.kids.length = 6 := by omega
        have e1 : tmpT x = tplT x := if_pos (by rw [ha]; simp [f0, h6])
        have e2 : tmpB x = tplB x := if_pos (by rw [ha]; simp [f0, h6])
        rw [e1, e2]
        unfold tplT tplB
        rw [ha, hb2]
        have q0 : itH 0 a.kids = a.kids := rfl
        have qs : ∀ i, nxH (itH i a.kids) = itH (i + 1) a.kids := fun i => rfl
        have ql := fun i hi => itH_len h6 i hi
        have l0 := ql 0 (by omega)
        have l1 := ql 1 (by omega)
        have l2 := ql 2 (by omega)
        have l3 := ql 3 (by omega)
        have l4 := ql 4 (by omega)
        have l5 := ql 5 (by omega)
        rw [q0] at l0 ⊢
        have q1 := qs 0
        rw [q0] at q1
        have q2 := qs 1
        have q3 := qs 2
        have q4 := qs 3
        have q5 := qs 4
        have q6 := qs 5
        have hd1 : ([a, b].headD nd0).kids.length = 6 := h6
        have hu := un_nds x.kids
        rw [eK] at hu
        rw [hab] at hu
        have l9 : (1 ≤ [a, b].length) = True := eq_true (by simp)
        with_reducible refine WA.skipN ?_
        repeat first | with_reducible refine WN.t ?_ | with_reducible refine WN.b ?_
        have eK2 : ndsA [a, b] = [.agg [.lit (.int .i64 a.tag), .by_ a.val, .li 3 (ndsA a.kids)], .agg [.lit (.int .i64 b.tag), .by_ b.val, .li 3 (ndsA b.kids)]] := by simp only [ndsA, ndA_eq]
        refine WA.regionK ty_ok hs fun K hK => ?_
        simp only [go_sem, Nat.reduceAdd, Nat.reduceLT, Nat.reduceLeDiff, Nat.reduceEqDiff, Nat.reduceSub, Nat.reduceMul, Nat.reduceBEq, Nat.reduceBNe, Nat.reducePow, Nat.reduceDiv, Int.reduceLE, Int.reduceLT, Int.reduceToNat, Int.reduceNeg, Int.reduceAdd, Int.reduceSub, Int.reduceEq, reduceIte, reduceCtorEq, UInt8.reduceOfNat, sgTp, eK, eK2, hu, un_nds, l9, hd1, q1, q2, q3, q4, q5, q6, Tr_nds, hT2]
        repeat refine And.intro (by first | omega | assumption | (simp; done) | (simp; omega) | (simp +contextual; done) | (simp_all; done) | (simp_all; omega)) ?_
        refine hK _ ?_
        clear hK K
        refine WA.regionK ty_ok hs fun K hK => ?_
        simp only [go_sem, Nat.reduceAdd, Nat.reduceLT, Nat.reduceLeDiff, Nat.reduceEqDiff, Nat.reduceSub, Nat.reduceMul, Nat.reduceBEq, Nat.reduceBNe, Nat.reducePow, Nat.reduceDiv, Int.reduceLE, Int.reduceLT, Int.reduceToNat, Int.reduceNeg, Int.reduceAdd, Int.reduceSub, Int.reduceEq, reduceIte, reduceCtorEq, UInt8.reduceOfNat, sgTp, eK, hz]
        repeat refine And.intro (by first | omega | assumption | (simp; done) | (simp; omega) | (simp +contextual; done) | (simp_all; done) | (simp_all; omega)) ?_
        refine hK _ ?_
        clear hK K
        refine WA.drawnH mixed_ ty_ok hs (tbl := [[], [], [0], [0, 1, 2]]) (nb := [0, 1, 2]) (hk := [[], [2008], [], []]) (by kernel_rfl) fun K hK => ?_
        simp only [go_sem, Nat.reduceAdd, Nat.reduceLT, Nat.reduceLeDiff, Nat.reduceEqDiff, Nat.reduceSub, Nat.reduceMul, Nat.reduceBEq, Nat.reduceBNe, Nat.reducePow, Nat.reduceDiv, Int.reduceLE, Int.reduceLT, Int.reduceToNat, Int.reduceNeg, Int.reduceAdd, Int.reduceSub, Int.reduceEq, reduceIte, reduceCtorEq, UInt8.reduceOfNat, true_and]
        repeat refine And.intro (by first | omega | assumption | (simp; done) | (simp; omega) | (simp +contextual; done) | (simp_all; done) | (simp_all; omega)) ?_
        refine hK _ ?_
        clear hK K
        refine WA.norm 2008 fun K hK => ?_
        simp only [go_sem, Nat.reduceAdd, Nat.reduceLT, Nat.reduceLeDiff, Nat.reduceEqDiff, Nat.reduceSub, Nat.reduceMul, Nat.reduceBEq, Nat.reduceBNe, Nat.reducePow, Nat.reduceDiv, Int.reduceLE, Int.reduceLT, Int.reduceToNat, Int.reduceNeg, Int.reduceAdd, Int.reduceSub, Int.reduceEq, reduceIte, reduceCtorEq, UInt8.reduceOfNat, true_and]
        repeat refine And.intro (by first | omega | assumption | (simp; done) | (simp; omega) | (simp +contextual; done) | (simp_all; done) | (simp_all; omega)) ?_
        refine hK _ ?_
        clear hK K
        refine WA.retE ty_ok (xs := [.agg [.lit (.int .i64 (⟨nvH a.kids, nvH (itH 1 a.kids), nvH (itH 2 a.kids), nvH (itH 3 a.kids), nvH (itH 5 a.kids), nvH (itH 4 a.kids), b.val⟩ : Tm).kind), .lit (.int .i64 (⟨nvH a.kids, nvH (itH 1 a.kids), nvH (itH 2 a.kids), nvH (itH 3 a.kids), nvH (itH 5 a.kids), nvH (itH 4 a.kids), b.val⟩ : Tm).part), .lit (.int .i64 (⟨nvH a.kids, nvH (itH 1 a.kids), nvH (itH 2 a.kids), nvH (itH 3 a.kids), nvH (itH 5 a.kids), nvH (itH 4 a.kids), b.val⟩ : Tm).fr), .lit (.int .i64 (⟨nvH a.kids, nvH (itH 1 a.kids), nvH (itH 2 a.kids), nvH (itH 3 a.kids), nvH (itH 5 a.kids), nvH (itH 4 a.kids), b.val⟩ : Tm).to), .lit (.int .i64 (⟨nvH a.kids, nvH (itH 1 a.kids), nvH (itH 2 a.kids), nvH (itH 3 a.kids), nvH (itH 5 a.kids), nvH (itH 4 a.kids), b.val⟩ : Tm).fmt), .lit (.int .i64 (⟨nvH a.kids, nvH (itH 1 a.kids), nvH (itH 2 a.kids), nvH (itH 3 a.kids), nvH (itH 5 a.kids), nvH (itH 4 a.kids), b.val⟩ : Tm).q), .by_ (⟨nvH a.kids, nvH (itH 1 a.kids), nvH (itH 2 a.kids), nvH (itH 3 a.kids), nvH (itH 5 a.kids), nvH (itH 4 a.kids), b.val⟩ : Tm).data], .lit (.bool (gooH a.kids && gooH (itH 1 a.kids) && gooH (itH 2 a.kids) && gooH (itH 3 a.kids) && gooH (itH 4 a.kids) && gooH (itH 5 a.kids)))]) (ls' := []) (rv := [.cell 2 37, .tmp 3]) rfl hX (by decide) (fun _ => rfl) (fun _ _ h => h) ?_
        simp only [go_sem, Nat.reduceAdd, Nat.reduceLT, Nat.reduceLeDiff, Nat.reduceEqDiff, Nat.reduceSub, Nat.reduceMul, Nat.reduceBEq, Nat.reduceBNe, Nat.reducePow, Nat.reduceDiv, Int.reduceLE, Int.reduceLT, Int.reduceToNat, Int.reduceNeg, Int.reduceAdd, Int.reduceSub, Int.reduceEq, reduceIte, reduceCtorEq, UInt8.reduceOfNat, sbT]
  · have eL : ((x.kids.length : Int) != 2) = true := bne_iff_ne.2 (by omega)
    have e1 : tmpT x = tm0 := if_neg (by simp [forB, hk])
    have e2 : tmpB x = false := if_neg (by simp [forB, hk])
    rw [e1, e2]
    refine FnS.of Try.func33 rfl (N := 68) rfl (by simp) (by simp) fun X hX => ?_
    simp only [tmArgs, lentH, Nat.reduceAdd]
    refine WA.regionK ty_ok hs fun K hK => ?_
    simp only [go_sem, Nat.reduceAdd, Nat.reduceLT, Nat.reduceLeDiff, Nat.reduceEqDiff, Nat.reduceSub, Nat.reduceMul, Nat.reduceBEq, Nat.reduceBNe, Nat.reducePow, Nat.reduceDiv, Int.reduceLE, Int.reduceLT, Int.reduceToNat, Int.reduceNeg, Int.reduceAdd, Int.reduceSub, Int.reduceEq, reduceIte, reduceCtorEq, UInt8.reduceOfNat, true_and]
    repeat refine And.intro (by first | omega | assumption | (simp; done) | (simp; omega) | (simp +contextual; done) | (simp_all; done) | (simp_all; omega)) ?_
    refine hK _ ?_
    clear hK K
    refine WA.seq ?_
    obtain ⟨p1, h1⟩ : ∃ p, isB x.tag x.val.length x.kids.length 32608 = p := ⟨_, rfl⟩
    have e02 : ((0 : Int) != 2) = true := rfl
    have e12 : ((1 : Int) != 2) = true := rfl
    match hq : x.kids, hk with
    | [], _ =>
      rw [hq] at h1
      simp only [List.length_nil] at h1
      refine WA.regionK ty_ok hs fun K hK => ?_
      simp only [go_sem, Nat.reduceAdd, Nat.reduceLT, Nat.reduceLeDiff, Nat.reduceEqDiff, Nat.reduceSub, Nat.reduceMul, Nat.reduceBEq, Nat.reduceBNe, Nat.reducePow, Nat.reduceDiv, Int.reduceLE, Int.reduceLT, Int.reduceToNat, Int.reduceNeg, Int.reduceAdd, Int.reduceSub, Int.reduceEq, reduceIte, reduceCtorEq, UInt8.reduceOfNat, sgTp, hq, h1, e02, ndsA, nds_len, Bool.cond_self, List.getD_nil, List.take_succ_cons, List.take_zero, List.take_nil, Bool.not_true, false_implies, reduceCtorEq]
      refine And.intro (by cases p1 <;> simp) ?_
      refine hK _ ?_
      clear hK K
      refine WA.cond rfl (fun h => ?_) (fun h => ?_)
      ·
        refine WA.regionK ty_ok hs fun K hK => ?_
        simp only [go_sem, Nat.reduceAdd, Nat.reduceLT, Nat.reduceLeDiff, Nat.reduceEqDiff, Nat.reduceSub, Nat.reduceMul, Nat.reduceBEq, Nat.reduceBNe, Nat.reducePow, Nat.reduceDiv, Int.reduceLE, Int.reduceLT, Int.reduceToNat, Int.reduceNeg, Int.reduceAdd, Int.reduceSub, Int.reduceEq, reduceIte, reduceCtorEq, UInt8.reduceOfNat, true_and]
        repeat refine And.intro (by first | omega | assumption | (simp; done) | (simp; omega) | (simp +contextual; done) | (simp_all; done) | (simp_all; omega)) ?_
        refine hK _ ?_
        clear hK K
        refine WA.retE ty_ok (xs := [.agg [.lit (.int .i64 tm0.kind), .lit (.int .i64 tm0.part), .lit (.int .i64 tm0.fr), .lit (.int .i64 tm0.to), .lit (.int .i64 tm0.fmt), .lit (.int .i64 tm0.q), .by_ tm0.data], .lit (.bool false)]) (ls' := []) (rv := [.cell 2 37, .tmp 3]) rfl hX (by decide) (fun _ => rfl) (fun _ _ h => h) ?_
        simp only [go_sem, Nat.reduceAdd, Nat.reduceLT, Nat.reduceLeDiff, Nat.reduceEqDiff, Nat.reduceSub, Nat.reduceMul, Nat.reduceBEq, Nat.reduceBNe, Nat.reducePow, Nat.reduceDiv, Int.reduceLE, Int.reduceLT, Int.reduceToNat, Int.reduceNeg, Int.reduceAdd, Int.reduceSub, Int.reduceEq, reduceIte, reduceCtorEq, UInt8.reduceOfNat, sbT, tm0]
        all_goals (first | done | exact Nat.le_refl _ | (simp; done) | (and_intros <;> first | omega | exact Nat.le_refl _ | (simp; done) | (simp; omega)))
      · simp at h
    | [a], _ =>
      have hT2 := Tr_nds [a]
      simp only [ndsA, ndA_eq] at hT2
      rw [hq] at h1
      simp only [List.length_cons, List.length_nil, Nat.zero_add] at h1
      refine WA.regionK ty_ok hs fun K hK => ?_
      simp only [go_sem, Nat.reduceAdd, Nat.reduceLT, Nat.reduceLeDiff, Nat.reduceEqDiff, Nat.reduceSub, Nat.reduceMul, Nat.reduceBEq, Nat.reduceBNe, Nat.reducePow, Nat.reduceDiv, Int.reduceLE, Int.reduceLT, Int.reduceToNat, Int.reduceNeg, Int.reduceAdd, Int.reduceSub, Int.reduceEq, reduceIte, reduceCtorEq, UInt8.reduceOfNat, sgTp, hq, h1, e12, ndsA, ndA_eq, nds_len, hT2, Tr_nds, Bool.cond_self, List.getD_nil, List.take_succ_cons, List.take_zero, List.take_nil, Bool.not_true, false_implies, reduceCtorEq]
      refine And.intro (by cases p1 <;> simp) ?_
      refine hK _ ?_
      clear hK K
      refine WA.cond rfl (fun h => ?_) (fun h => ?_)
      ·
        refine WA.regionK ty_ok hs fun K hK => ?_
        simp only [go_sem, Nat.reduceAdd, Nat.reduceLT, Nat.reduceLeDiff, Nat.reduceEqDiff, Nat.reduceSub, Nat.reduceMul, Nat.reduceBEq, Nat.reduceBNe, Nat.reducePow, Nat.reduceDiv, Int.reduceLE, Int.reduceLT, Int.reduceToNat, Int.reduceNeg, Int.reduceAdd, Int.reduceSub, Int.reduceEq, reduceIte, reduceCtorEq, UInt8.reduceOfNat, true_and]
        repeat refine And.intro (by first | omega | assumption | (simp; done) | (simp; omega) | (simp +contextual; done) | (simp_all; done) | (simp_all; omega)) ?_
        refine hK _ ?_
        clear hK K
        refine WA.retE ty_ok (xs := [.agg [.lit (.int .i64 tm0.kind), .lit (.int .i64 tm0.part), .lit (.int .i64 tm0.fr), .lit (.int .i64 tm0.to), .lit (.int .i64 tm0.fmt), .lit (.int .i64 tm0.q), .by_ tm0.data], .lit (.bool false)]) (ls' := []) (rv := [.cell 2 37, .tmp 3]) rfl hX (by decide) (fun _ => rfl) (fun _ _ h => h) ?_
        simp only [go_sem, Nat.reduceAdd, Nat.reduceLT, Nat.reduceLeDiff, Nat.reduceEqDiff, Nat.reduceSub, Nat.reduceMul, Nat.reduceBEq, Nat.reduceBNe, Nat.reducePow, Nat.reduceDiv, Int.reduceLE, Int.reduceLT, Int.reduceToNat, Int.reduceNeg, Int.reduceAdd, Int.reduceSub, Int.reduceEq, reduceIte, reduceCtorEq, UInt8.reduceOfNat, sbT, tm0]
        all_goals (first | done | exact Nat.le_refl _ | (simp; done) | (and_intros <;> first | omega | exact Nat.le_refl _ | (simp; done) | (simp; omega)))
      · simp at h
    | a :: b :: c :: r, _ =>
      have hT2 := Tr_nds (a :: b :: c :: r)
      simp only [ndsA, ndA_eq] at hT2
      rw [hq] at h1
      simp only [List.length_cons] at h1
      have e32 : (((r.length + 1 + 1 + 1 : Nat) : Int) != 2) = true := bne_iff_ne.2 (by omega)
      refine WA.regionK ty_ok hs fun K hK => ?_
      simp only [go_sem, Nat.reduceAdd, Nat.reduceLT, Nat.reduceLeDiff, Nat.reduceEqDiff, Nat.reduceSub, Nat.reduceMul, Nat.reduceBEq, Nat.reduceBNe, Nat.reducePow, Nat.reduceDiv, Int.reduceLE, Int.reduceLT, Int.reduceToNat, Int.reduceNeg, Int.reduceAdd, Int.reduceSub, Int.reduceEq, reduceIte, reduceCtorEq, UInt8.reduceOfNat, sgTp, hq, h1, e32, ndsA, ndA_eq, nds_len, hT2, Tr_nds, Bool.cond_self, List.getD_nil, List.take_succ_cons, List.take_zero, List.take_nil, Bool.not_true, false_implies, reduceCtorEq]
      refine And.intro (by cases p1 <;> simp) ?_
      refine hK _ ?_
      clear hK K
      refine WA.cond rfl (fun h => ?_) (fun h => ?_)
      ·
        refine WA.regionK ty_ok hs fun K hK => ?_
        simp only [go_sem, Nat.reduceAdd, Nat.reduceLT, Nat.reduceLeDiff, Nat.reduceEqDiff, Nat.reduceSub, Nat.reduceMul, Nat.reduceBEq, Nat.reduceBNe, Nat.reducePow, Nat.reduceDiv, Int.reduceLE, Int.reduceLT, Int.reduceToNat, Int.reduceNeg, Int.reduceAdd, Int.reduceSub, Int.reduceEq, reduceIte, reduceCtorEq, UInt8.reduceOfNat, true_and]
        repeat refine And.intro (by first | omega | assumption | (simp; done) | (simp; omega) | (simp +contextual; done) | (simp_all; done) | (simp_all; omega)) ?_
        refine hK _ ?_
        clear hK K
        refine WA.retE ty_ok (xs := [.agg [.lit (.int .i64 tm0.kind), .lit (.int .i64 tm0.part), .lit (.int .i64 tm0.fr), .lit (.int .i64 tm0.to), .lit (.int .i64 tm0.fmt), .lit (.int .i64 tm0.q), .by_ tm0.data], .lit (.bool false)]) (ls' := []) (rv := [.cell 2 37, .tmp 3]) rfl hX (by decide) (fun _ => rfl) (fun _ _ h => h) ?_
        simp only [go_sem, Nat.reduceAdd, Nat.reduceLT, Nat.reduceLeDiff, Nat.reduceEqDiff, Nat.reduceSub, Nat.reduceMul, Nat.reduceBEq, Nat.reduceBNe, Nat.reducePow, Nat.reduceDiv, Int.reduceLE, Int.reduceLT, Int.reduceToNat, Int.reduceNeg, Int.reduceAdd, Int.reduceSub, Int.reduceEq, reduceIte, reduceCtorEq, UInt8.reduceOfNat, sbT, tm0]
        all_goals (first | done | exact Nat.le_refl _ | (simp; done) | (and_intros <;> first | omega | exact Nat.le_refl _ | (simp; done) | (simp; omega)))
      · simp at h
end Go.Proofs.Ytloihfflblgioaa
