import Derived.Test.YtloihfflblgioaaOpenE
import Derived.Test.YtloihfflblgioaaBiI
namespace Go.Proofs.Ytloihfflblgioaa
open Go.RowKit Go.TravelBase Go.TravelAbs Go.ChangeShapes Go.WideShapes Go.ChangeAt Go.Deep
set_option linter.unusedVariables false
set_option linter.unusedSimpArgs false

/-! ### What comes in -/
section
variable {H : Type} {enc : TypeId × Value → H} {W : World}
theorem opz_tm (fuel : Nat) : OpnSz enc Try.prog W fuel 37 (fun x => ∃ f : Tm, x = tmA f ∧ True) := by
  refine OpnSz.mono (OpnSz.structL (fun k x => match k with | 6 => ∃ bs, x = .by_ bs ∧ bs.length ≤ reachBytes | _ => ∃ a, x = .lit (.int .i64 a) ∧ (Lit.int .i64 a).wf = true) Try.underlying37 (by kernel_rfl)
    ⟨fun n _ => (OpnAt.int Try.underlying3).sz, fun n _ => (OpnAt.int Try.underlying3).sz, fun n _ => (OpnAt.int Try.underlying3).sz, fun n _ => (OpnAt.int Try.underlying3).sz, fun n _ => (OpnAt.int Try.underlying3).sz, fun n _ => (OpnAt.int Try.underlying3).sz, fun n _ => .bytes Try.underlying35 Try.underlying5 (by kernel_rfl) (by kernel_rfl), trivial⟩) fun x hx => ?_
  obtain ⟨ps, rfl, hl, hp⟩ := hx
  match ps, hl with
  | [p0, p1, p2, p3, p4, p5, p6], _ =>
    obtain ⟨a, rfl, _⟩ := hp 0 p0 rfl
    obtain ⟨b, rfl, _⟩ := hp 1 p1 rfl
    obtain ⟨c, rfl, _⟩ := hp 2 p2 rfl
    obtain ⟨d, rfl, _⟩ := hp 3 p3 rfl
    obtain ⟨e, rfl, _⟩ := hp 4 p4 rfl
    obtain ⟨f, rfl, _⟩ := hp 5 p5 rfl
    obtain ⟨g, rfl, _⟩ := hp 6 p6 rfl
    exact ⟨⟨a, b, c, d, e, f, g⟩, rfl, trivial⟩
theorem opz_tms (fuel : Nat) : OpnSz enc Try.prog W fuel 22 (fun x => ∃ l : List Tm, x = .li 7 (l.map tmA) ∧ l.length ≤ 1954687338211) := by
  refine OpnSz.mono (OpnSz.list Try.underlying22 (es := 7) (by kernel_rfl) (by decide) (fun n _ => opz_tm n)) fun x hx => ?_
  obtain ⟨xs, rfl, hx, hz⟩ := hx
  obtain ⟨ws, rfl, _⟩ := list_as tmA hx
  have hb : Try.prog.bytesOf 37 = 72 := by kernel_rfl
  rw [hb, List.length_map] at hz
  have : reachBytes = 140737488351232 := rfl
  exact ⟨ws, rfl, by omega⟩
theorem opz_nd (fuel : Nat) : OpnSz enc Try.prog W fuel 52 (fun x => ∃ n : Nd, x = ndA n ∧ okN n) := by
  induction fuel using Nat.strongRecOn with
  | _ fuel ih =>
  refine OpnSz.mono (OpnSz.structL (fun k x => match k with | 0 => ∃ a, x = .lit (.int .i64 a) ∧ (Lit.int .i64 a).wf = true | 1 => ∃ bs, x = .by_ bs ∧ bs.length ≤ reachBytes | _ => ∃ l : List Nd, x = .li 3 (ndsA l) ∧ l.length ≤ 140737488351232 ∧ okNs l) Try.underlying52 (by kernel_rfl)
    ⟨fun n _ => (OpnAt.int Try.underlying3).sz, fun n _ => .bytes Try.underlying35 Try.underlying5 (by kernel_rfl) (by kernel_rfl), fun n hn => ?_, trivial⟩) fun x hx => ?_
  · refine OpnSz.mono (OpnSz.list Try.underlying23 (es := 3) (by kernel_rfl) (by decide) (fun m hm => ih m (by omega))) fun x hx => ?_
    obtain ⟨xs, rfl, hx, hz⟩ := hx
    obtain ⟨ws, rfl, hw⟩ := list_as ndA hx
    have hb : Try.prog.bytesOf 52 = 56 := by kernel_rfl
    rw [hb, List.length_map] at hz
    have : reachBytes = 140737488351232 := rfl
    refine ⟨ws, by rw [ndsA_map], by omega, ?_⟩
    clear hz hx
    induction ws with
    | nil => exact trivial
    | cons a r ih2 =>
      rw [okNs]
      exact ⟨hw a (by simp), ih2 fun n hn => hw n (by simp [hn])⟩
  · obtain ⟨ps, rfl, hl, hp⟩ := hx
    match ps, hl with
    | [p0, p1, p2], _ =>
      obtain ⟨a, rfl, _⟩ := hp 0 p0 rfl
      obtain ⟨b, rfl, hb⟩ := hp 1 p1 rfl
      obtain ⟨l, rfl, hl, ho⟩ := hp 2 p2 rfl
      have : reachBytes = 140737488351232 := rfl
      refine ⟨.mk a b l, by rw [ndA]; rfl, ?_⟩
      rw [okN]
      exact ⟨⟨by omega, hl⟩, ho⟩
theorem opz_nds (fuel : Nat) : OpnSz enc Try.prog W fuel 23 (fun x => ∃ l : List Nd, x = .li 3 (ndsA l) ∧ okNs l) := by
  refine OpnSz.mono (OpnSz.list Try.underlying23 (es := 3) (by kernel_rfl) (by decide) (fun m hm => opz_nd m)) fun x hx => ?_
  obtain ⟨xs, rfl, hx, hz⟩ := hx
  obtain ⟨ws, rfl, hw⟩ := list_as ndA hx
  refine ⟨ws, by rw [ndsA_map], ?_⟩
  clear hz hx
  induction ws with
  | nil => exact trivial
  | cons a r ih2 =>
    rw [okNs]
    exact ⟨hw a (by simp), ih2 fun n hn => hw n (by simp [hn])⟩
end
end Go.Proofs.Ytloihfflblgioaa
