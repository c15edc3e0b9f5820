import Derived.Test.YtgmmdijmlnehlaaDoorOpenE
import Derived.Test.YtgmmdijmlnehlaaDoorChP
namespace Go.Proofs.YtgmmdijmlnehlaaDoor
open Go.RowKit Go.TravelBase Go.TravelAbs Go.ChangeShapes Go.WideShapes Go.ChangeAt Go.Deep
set_option linter.unusedVariables false
set_option linter.unusedSimpArgs false

/-! ### What comes in -/
section
variable {H : Type} {enc : TypeId × Value → H} {W : World}
theorem opz_pt (fuel : Nat) : OpnSz enc Tryd.prog W fuel 52 (fun x => ∃ f : Pt, x = ptA f ∧ f.h.length ≤ 9223372036854775807) := by
  refine OpnSz.mono (OpnSz.structL (fun k x => match k with | 0 => ∃ s : ByteArray, x = .lit (.string s) ∧ s.size ≤ maxLen | _ => ∃ a, x = .lit (.int .i64 a) ∧ (Lit.int .i64 a).wf = true) Tryd.underlying52 (by kernel_rfl)
    ⟨fun n _ => .str Tryd.underlying9, fun n _ => (OpnAt.int Tryd.underlying3).sz, fun n _ => (OpnAt.int Tryd.underlying3).sz, fun n _ => (OpnAt.int Tryd.underlying3).sz, fun n _ => (OpnAt.int Tryd.underlying3).sz, trivial⟩) fun x hx => ?_
  obtain ⟨ps, rfl, hl, hp⟩ := hx
  match ps, hl with
  | [p0, p1, p2, p3, p4], _ =>
    obtain ⟨a, rfl, ha⟩ := hp 0 p0 rfl
    obtain ⟨b, rfl, _⟩ := hp 1 p1 rfl
    obtain ⟨c, rfl, _⟩ := hp 2 p2 rfl
    obtain ⟨d, rfl, _⟩ := hp 3 p3 rfl
    obtain ⟨e, rfl, _⟩ := hp 4 p4 rfl
    exact ⟨⟨a.data.toList, b, c, d, e⟩, rfl, ha⟩
theorem opz_pts (fuel : Nat) : OpnSz enc Tryd.prog W fuel 22 (fun x => ∃ l : List Pt, x = .li 5 (l.map ptA) ∧ NmOK l) := by
  refine OpnSz.mono (OpnSz.list Tryd.underlying22 (es := 5) (by kernel_rfl) (by decide) (fun n _ => opz_pt n)) fun x hx => ?_
  obtain ⟨xs, rfl, hx, hz⟩ := hx
  obtain ⟨ws, rfl, hw⟩ := list_as ptA hx
  exact ⟨ws, rfl, hw⟩
theorem opz_sto (fuel : Nat) : OpnSz enc Tryd.prog W fuel 24 (fun x => ∃ s : Sto, x = stoA s ∧ NmOK s.pts) := by
  refine OpnSz.mono (OpnSz.structL (fun k x => match k with | 0 => ∃ l : List Pt, x = .li 5 (l.map ptA) ∧ NmOK l | _ => ∃ a, x = .lit (.int .i64 a) ∧ (Lit.int .i64 a).wf = true) Tryd.underlying24 (by kernel_rfl)
    ⟨fun n _ => opz_pts n, fun n _ => (OpnAt.int Tryd.underlying3).sz, trivial⟩) fun x hx => ?_
  obtain ⟨ps, rfl, hl, hp⟩ := hx
  match ps, hl with
  | [p0, p1], _ =>
    obtain ⟨a, rfl, ha⟩ := hp 0 p0 rfl
    obtain ⟨b, rfl, _⟩ := hp 1 p1 rfl
    exact ⟨⟨a, b⟩, rfl, ha⟩
theorem opz_chn (fuel : Nat) : OpnSz enc Tryd.prog W fuel 40 (fun x => ∃ f : Cn, x = cnA f ∧ -9223372036854775808 ≤ f.rt ∧ f.rt ≤ 9223372036854775807) := by
  refine OpnSz.mono (OpnSz.structL (fun k x => match k with | 0 => ∃ s : ByteArray, x = .lit (.string s) ∧ s.size ≤ maxLen | _ => ∃ a, x = .lit (.int .i64 a) ∧ (Lit.int .i64 a).wf = true) Tryd.underlying40 (by kernel_rfl)
    ⟨fun n _ => .str Tryd.underlying9, fun n _ => (OpnAt.int Tryd.underlying3).sz, fun n _ => (OpnAt.int Tryd.underlying3).sz, fun n _ => (OpnAt.int Tryd.underlying3).sz, fun n _ => (OpnAt.int Tryd.underlying3).sz, fun n _ => (OpnAt.int Tryd.underlying3).sz, trivial⟩) fun x hx => ?_
  obtain ⟨ps, rfl, hl, hp⟩ := hx
  match ps, hl with
  | [p0, p1, p2, p3, p4, p5], _ =>
    obtain ⟨a, rfl, ha⟩ := hp 0 p0 rfl
    obtain ⟨b, rfl, _⟩ := hp 1 p1 rfl
    obtain ⟨c, rfl, _⟩ := hp 2 p2 rfl
    obtain ⟨d, rfl, hd⟩ := hp 3 p3 rfl
    obtain ⟨e, rfl, _⟩ := hp 4 p4 rfl
    obtain ⟨f, rfl, _⟩ := hp 5 p5 rfl
    exact ⟨⟨a.data.toList, b, c, d, e, f⟩, rfl, Go.bounds_i64 hd⟩
theorem opz_sg (fuel : Nat) : OpnSz enc Tryd.prog W fuel 42 (fun x => ∃ a b : Int, x = .agg [.lit (.int .i64 a), .lit (.int .i64 b)]) := by
  refine OpnSz.mono (OpnSz.structL (fun k x => ∃ a, x = .lit (.int .i64 a) ∧ (Lit.int .i64 a).wf = true) Tryd.underlying42 (by kernel_rfl)
    ⟨fun n _ => (OpnAt.int Tryd.underlying3).sz, fun n _ => (OpnAt.int Tryd.underlying3).sz, trivial⟩) fun x hx => ?_
  obtain ⟨ps, rfl, hl, hp⟩ := hx
  match ps, hl with
  | [p0, p1], _ =>
    obtain ⟨a, rfl, _⟩ := hp 0 p0 rfl
    obtain ⟨b, rfl, _⟩ := hp 1 p1 rfl
    exact ⟨a, b, rfl⟩
theorem opz_ct (fuel : Nat) : OpnSz enc Tryd.prog W fuel 44 (fun x => ∃ f : Ct, x = ctA f ∧ f.iss.length ≤ 9223372036854775807 ∧ f.hold.length ≤ 9223372036854775807) := by
  refine OpnSz.mono (OpnSz.structL (fun k x => match k with | 0 => ∃ s : ByteArray, x = .lit (.string s) ∧ s.size ≤ maxLen | 1 => ∃ s : ByteArray, x = .lit (.string s) ∧ s.size ≤ maxLen | 7 => ∃ a b : Int, x = .agg [.lit (.int .i64 a), .lit (.int .i64 b)] | _ => ∃ a, x = .lit (.int .i64 a) ∧ (Lit.int .i64 a).wf = true) Tryd.underlying44 (by kernel_rfl)
    ⟨fun n _ => .str Tryd.underlying9, fun n _ => .str Tryd.underlying9, fun n _ => (OpnAt.int Tryd.underlying3).sz, fun n _ => (OpnAt.int Tryd.underlying3).sz, fun n _ => (OpnAt.int Tryd.underlying3).sz, fun n _ => (OpnAt.int Tryd.underlying3).sz, fun n _ => (OpnAt.int Tryd.underlying3).sz, fun n _ => opz_sg n, trivial⟩) fun x hx => ?_
  obtain ⟨ps, rfl, hl, hp⟩ := hx
  match ps, hl with
  | [p0, p1, p2, p3, p4, p5, p6, p7], _ =>
    obtain ⟨a, rfl, ha⟩ := hp 0 p0 rfl
    obtain ⟨h, rfl, hh⟩ := hp 1 p1 rfl
    obtain ⟨b, rfl, _⟩ := hp 2 p2 rfl
    obtain ⟨c, rfl, _⟩ := hp 3 p3 rfl
    obtain ⟨d, rfl, _⟩ := hp 4 p4 rfl
    obtain ⟨e, rfl, _⟩ := hp 5 p5 rfl
    obtain ⟨f, rfl, _⟩ := hp 6 p6 rfl
    obtain ⟨g, i, rfl⟩ := hp 7 p7 rfl
    exact ⟨⟨a.data.toList, h.data.toList, b, c, d, e, f, g, i⟩, rfl, ha, hh⟩
theorem opz_by (fuel : Nat) : OpnSz enc Tryd.prog W fuel 29 (fun x => ∃ bs, x = .by_ bs ∧ bs.length ≤ 9223372036854775807) := by
  refine OpnSz.mono (.bytes Tryd.underlying29 Tryd.underlying5 (by kernel_rfl) (by kernel_rfl)) fun x hx => ?_
  obtain ⟨bs, rfl, h⟩ := hx
  exact ⟨bs, rfl, Nat.le_trans h (by decide)⟩
end
end Go.Proofs.YtgmmdijmlnehlaaDoor
