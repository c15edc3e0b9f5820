import Derived.Test.YtgmmdijmlnehlaaDoorDiceA
import Derived.Lib.SliceRun
namespace Go.TravelAbs
open Go.RowKit Go.TravelBase
set_option linter.unusedVariables false
set_option linter.unusedSimpArgs false

/-! ## A slice compared with nil -/
theorem VR.li_inv {w : World} {S : CSet} {m : RMap} {es : Nat} {xs : List AV} {v : Value} (h : VR w S m (.li es xs) v) : ∃ A c, v = .slice A xs.length c ∧ (A.isNone = true → xs = []) := by
  cases h with
  | li us hn hc hm h0 hes he hA h =>
    rename_i A n c
    refine ⟨A, c, by rw [hn], fun q => ?_⟩
    have := h0 (Option.isNone_iff_eq_none.1 q)
    exact List.length_eq_zero_iff.1 (by omega)
theorem VR.by_inv {w : World} {S : CSet} {m : RMap} {bs : List UInt8} {v : Value} (h : VR w S m (.by_ bs) v) : ∃ A c, v = .slice A bs.length c ∧ (A.isNone = true → bs = []) := by
  cases h with
  | by_ hn hc hm h0 hA =>
    rename_i A n c
    refine ⟨A, c, by rw [hn], fun q => ?_⟩
    have := h0 (Option.isNone_iff_eq_none.1 q)
    exact List.length_eq_zero_iff.1 (by omega)
def isB : AV → Bool
  | .by_ _ => true
  | .li _ _ => true
  | _ => false
section
variable {P : Program} {ty : Ty} {X : Cx} {Q : Exit → Act → World → Prop}
theorem WA.nilTest {s : St} {id t t2 e a d1 d2 : Nat} {o1 o2 : Oper} {y : Code} {x : AV} (hT : TysOK P ty) (ht : P.underlying t = some (.slice e)) (h1 : o1.op = .move (.tmp a)) (g1 : o1.guard = none) (e1 : o1.dst = some d1) (h2 : o2.op = .binOp .eql t (.tmp d1) (.const (.slice none 0 0)) t2) (g2 : o2.guard = none) (e2 : o2.dst = some d2)
    (hx : gt s.tm a = x) (hi : isB x = true) (hd1 : d1 < s.sz) (hd2 : d2 < s.sz) (h : ∀ b : Bool, (b = true → cN x = 0) → WA P X y Q ⟨(d2, .lit (.bool b)) :: (d1, x) :: s.tm, s.H, s.ctr + 16, s.sz⟩) : WA P X (.seq (.region id [o1, o2].toArray false) y) Q s := by
  refine WA.seq fun ac w hR => wp_region_list ?_
  obtain ⟨S, m, hM, hm⟩ := hR.mem
  refine wpList_step fun K hK => ?_
  rw [if_pos (by simp [Region.wanted, g1])]
  have k1 : evX ty (fun _ _ _ => none) s.H s.ctr (opnd s.tm) o1.op = some ⟨x, [], True⟩ := by
    simp only [evX, h1, evA, opnd, hx]
  refine evX_ok hT (σ := fun _ _ _ => none) (fun _ _ _ _ _ _ h => by cases h) hM (opnd_VR hM.gl hm) (fun i _ => hR.kl _ (Nat.le_add_right _ _)) k1 trivial fun v w1 hL => hK _ _ ?_
  have hR1 := hR.step (o := o1) (out := ⟨x, [], True⟩) ⟨by rw [e1]; simpa [dOK] using hd1, rfl⟩ hM hm hL
  obtain ⟨S1, m1, hM1, hm1⟩ := hR1.mem
  refine wpList_step fun K' hK' => ?_
  rw [if_pos (by simp [Region.wanted, g2])]
  have hv : VR w1 S1 m1 x ((ac.put o1.dst v).eval (.tmp d1)) := by
    have := hm1 d1
    rw [stepS, e1, putT, gt, lk, if_pos rfl] at this
    rw [e1]
    exact this
  have key : ∃ A n c, (ac.put o1.dst v).eval (.tmp d1) = .slice A n c ∧ (A.isNone = true → cN x = 0) := by
    cases x with
    | by_ bs =>
      obtain ⟨A, c, q1, q2⟩ := hv.by_inv
      exact ⟨A, _, c, q1, fun q => by rw [q2 q]; rfl⟩
    | li es xs =>
      obtain ⟨A, c, q1, q2⟩ := hv.li_inv
      exact ⟨A, _, c, q1, fun q => by rw [q2 q]; rfl⟩
    | _ => simp [isB] at hi
  obtain ⟨A, n, c, q1, q2⟩ := key
  unfold Oper.wp
  have hrun : (execOp (ac.put o1.dst v).eval o2).run P w1 = .ok (.value (.bool A.isNone)) w1 := by
    unfold execOp
    rw [h2]
    simp only [Sem.run_bind, q1]
    have e3 : (ac.put o1.dst v).eval (.const (.slice none 0 0)) = .slice none 0 0 := rfl
    rw [e3]
    have e4 := Lib.run_eql_slice_nil (P := P) w1 t e A n c 0 0 ht
    simp [eqGuard, e4]
  rw [hrun]
  have hL2 : Left X (stepS s o1 ⟨x, [], True⟩).H S1 m1 w1 ⟨.lit (.bool A.isNone), [], True⟩ (.bool A.isNone) w1 := ⟨S1, m1, Adv.refl _ _ _, hM1, .lit _⟩
  have hR2 := hR1.step (o := o2) (out := ⟨.lit (.bool A.isNone), [], True⟩) ⟨by rw [e2]; exact decide_eq_true hd2, rfl⟩ hM1 hm1 hL2
  refine hK' _ _ (wpList_nil ?_)
  have := h A.isNone q2
  rw [e1, e2]
  simp only [stepS, e1, e2, putT, List.nil_append, Nat.add_assoc, Nat.reduceAdd] at hR2
  exact this _ _ hR2
end
end Go.TravelAbs
