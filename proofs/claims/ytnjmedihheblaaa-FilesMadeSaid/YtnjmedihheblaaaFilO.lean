import Derived.Test.YtnjmedihheblaaaOpenD
import Derived.Test.YtnjmedihheblaaaFilE
namespace Go.Proofs.Ytnjmedihheblaaa
open Go.RowKit Go.TravelBase Go.TravelAbs Go.ChangeShapes Go.WideShapes Go.ChangeAt Go.Deep
set_option linter.unusedVariables false
set_option linter.unusedSimpArgs false

/-! ### What comes in -/
structure Acc where
  l : Int
  r : Int
def accA (x : Acc) : AV := .agg [.lit (.int .i64 x.l), .lit (.int .i64 x.r)]
def sttA (s : Stt) : AV := .agg [.lit (.int .i64 s.pw), .lit (.bool s.b1), .lit (.bool s.chip), .lit (.bool s.term), .lit (.int .i64 s.rights)]
structure Fs where
  root : List Fl
  apps : List Fap
def fssA (f : Fs) : AV := .agg [.li 5 (f.root.map flA), .li 2 (f.apps.map apA)]
structure Lk where
  a : Int
  f : Int
  s : Stt
  n : Int
def lkA (v : Lk) : AV := .agg [.lit (.int .i64 v.a), .lit (.int .i64 v.f), .lit (.int .i64 v.s.pw), .lit (.bool v.s.b1), .lit (.bool v.s.chip), .lit (.bool v.s.term), .lit (.int .i64 v.s.rights), .lit (.int .i64 v.n)]
section
variable {H : Type} {enc : TypeId × Value → H} {W : World}
theorem opn_acc (fuel : Nat) : OpnAt enc Try.prog W fuel 23 (fun x => ∃ y : Acc, x = accA y) := by
  refine OpnAt.mono (OpnAt.structL (fun k x => ∃ a, x = .lit (.int .i64 a) ∧ (Lit.int .i64 a).wf = true) Try.underlying23 (by kernel_rfl)
    ⟨fun n _ => .int Try.underlying3, fun n _ => .int Try.underlying3, trivial⟩) fun x hx => ?_
  obtain ⟨ps, rfl, hl, hp⟩ := hx
  match ps, hl with
  | [p, q], _ =>
    obtain ⟨a, rfl, _⟩ := hp 0 p rfl
    obtain ⟨b, rfl, _⟩ := hp 1 q rfl
    exact ⟨⟨a, b⟩, rfl⟩
theorem opn_stt (fuel : Nat) : OpnAt enc Try.prog W fuel 25 (fun x => ∃ s : Stt, x = sttA s) := by
  refine OpnAt.mono (OpnAt.structL (fun k x => match k with | 0 => ∃ a, x = .lit (.int .i64 a) ∧ (Lit.int .i64 a).wf = true | 4 => ∃ a, x = .lit (.int .i64 a) ∧ (Lit.int .i64 a).wf = true | _ => ∃ a, x = .lit (.bool a)) Try.underlying25 (by kernel_rfl)
    ⟨fun n _ => .int Try.underlying3, fun n _ => .bool Try.underlying4, fun n _ => .bool Try.underlying4, fun n _ => .bool Try.underlying4, fun n _ => .int Try.underlying3, trivial⟩) fun x hx => ?_
  obtain ⟨ps, rfl, hl, hp⟩ := hx
  match ps, hl with
  | [p, q, r, t, u], _ =>
    obtain ⟨a, rfl, _⟩ := hp 0 p rfl
    obtain ⟨b, rfl⟩ := hp 1 q rfl
    obtain ⟨c, rfl⟩ := hp 2 r rfl
    obtain ⟨d, rfl⟩ := hp 3 t rfl
    obtain ⟨e, rfl, _⟩ := hp 4 u rfl
    exact ⟨⟨a, b, c, d, e⟩, rfl⟩
theorem opn_pl (fuel : Nat) : OpnAt enc Try.prog W fuel 46 (fun x => ∃ y : Acc, x = accA y) := by
  refine OpnAt.mono (OpnAt.structL (fun k x => ∃ a, x = .lit (.int .i64 a) ∧ (Lit.int .i64 a).wf = true) Try.underlying46 (by kernel_rfl)
    ⟨fun n _ => .int Try.underlying3, fun n _ => .int Try.underlying3, trivial⟩) fun x hx => ?_
  obtain ⟨ps, rfl, hl, hp⟩ := hx
  match ps, hl with
  | [p, q], _ =>
    obtain ⟨a, rfl, _⟩ := hp 0 p rfl
    obtain ⟨b, rfl, _⟩ := hp 1 q rfl
    exact ⟨⟨a, b⟩, rfl⟩
theorem opn_look (fuel : Nat) : OpnAt enc Try.prog W fuel 55 (fun x => ∃ v : Lk, x = lkA v ∧ -9223372036854775808 ≤ v.n ∧ v.n ≤ 9223372036854775807) := by
  refine OpnAt.mono (OpnAt.structL (fun k x => match k with | 0 => ∃ y : Acc, x = accA y | 1 => ∃ s : Stt, x = sttA s | _ => ∃ a, x = .lit (.int .i64 a) ∧ (Lit.int .i64 a).wf = true) Try.underlying55 (by kernel_rfl)
    ⟨fun n _ => opn_pl n, fun n _ => opn_stt n, fun n _ => .int Try.underlying3, trivial⟩) fun x hx => ?_
  obtain ⟨ps, rfl, hl, hp⟩ := hx
  match ps, hl with
  | [p, q, r], _ =>
    obtain ⟨y, rfl⟩ := hp 0 p rfl
    obtain ⟨s, rfl⟩ := hp 1 q rfl
    obtain ⟨c, rfl, hc⟩ := hp 2 r rfl
    exact ⟨⟨y.l, y.r, s, c⟩, rfl, Go.bounds_i64 hc⟩
theorem opn_fl (fuel : Nat) : OpnAt enc Try.prog W fuel 39 (fun x => ∃ f : Fl, x = flA f ∧ True) := by
  refine OpnAt.mono (OpnAt.structL (fun k x => match k with | 0 => ∃ a, x = .lit (.int .i64 a) ∧ (Lit.int .i64 a).wf = true | 1 => ∃ a, x = .lit (.int .i64 a) ∧ (Lit.int .i64 a).wf = true | 2 => ∃ bs, x = .by_ bs | _ => ∃ y : Acc, x = accA y) Try.underlying39 (by kernel_rfl)
    ⟨fun n _ => .int Try.underlying3, fun n _ => .int Try.underlying3, fun n _ => .bytes Try.underlying36 Try.underlying5 (by kernel_rfl), fun n _ => opn_acc n, trivial⟩) fun x hx => ?_
  obtain ⟨ps, rfl, hl, hp⟩ := hx
  match ps, hl with
  | [p, q, r, t], _ =>
    obtain ⟨a, rfl, _⟩ := hp 0 p rfl
    obtain ⟨b, rfl, _⟩ := hp 1 q rfl
    obtain ⟨c, rfl⟩ := hp 2 r rfl
    obtain ⟨y, rfl⟩ := hp 3 t rfl
    exact ⟨⟨a, b, c, y.l, y.r⟩, rfl, trivial⟩
theorem opn_fls (fuel : Nat) : OpnAt enc Try.prog W fuel 40 (fun x => ∃ l : List Fl, x = .li 5 (l.map flA)) := by
  refine OpnAt.mono (OpnAt.list Try.underlying40 (es := 5) (by kernel_rfl) (by decide) (fun n _ => opn_fl n)) fun x hx => ?_
  obtain ⟨xs, rfl, hx⟩ := hx
  obtain ⟨ws, rfl, _⟩ := list_as flA hx
  exact ⟨ws, rfl⟩
theorem opn_ap (fuel : Nat) : OpnAt enc Try.prog W fuel 76 (fun x => ∃ f : Fap, x = apA f ∧ True) := by
  refine OpnAt.mono (OpnAt.structL (fun k x => match k with | 0 => ∃ bs, x = .by_ bs | _ => ∃ l : List Fl, x = .li 5 (l.map flA)) Try.underlying76 (by kernel_rfl)
    ⟨fun n _ => .bytes Try.underlying36 Try.underlying5 (by kernel_rfl), fun n _ => opn_fls n, trivial⟩) fun x hx => ?_
  obtain ⟨ps, rfl, hl, hp⟩ := hx
  match ps, hl with
  | [p, q], _ =>
    obtain ⟨a, rfl⟩ := hp 0 p rfl
    obtain ⟨b, rfl⟩ := hp 1 q rfl
    exact ⟨⟨a, b⟩, rfl, trivial⟩
theorem opn_aps (fuel : Nat) : OpnAt enc Try.prog W fuel 41 (fun x => ∃ l : List Fap, x = .li 2 (l.map apA)) := by
  refine OpnAt.mono (OpnAt.list Try.underlying41 (es := 2) (by kernel_rfl) (by decide) (fun n _ => opn_ap n)) fun x hx => ?_
  obtain ⟨xs, rfl, hx⟩ := hx
  obtain ⟨ws, rfl, _⟩ := list_as apA hx
  exact ⟨ws, rfl⟩
theorem opn_files (fuel : Nat) : OpnAt enc Try.prog W fuel 43 (fun x => ∃ f : Fs, x = fssA f) := by
  refine OpnAt.mono (OpnAt.structL (fun k x => match k with | 0 => ∃ l : List Fl, x = .li 5 (l.map flA) | _ => ∃ l : List Fap, x = .li 2 (l.map apA)) Try.underlying43 (by kernel_rfl)
    ⟨fun n _ => opn_fls n, fun n _ => opn_aps n, trivial⟩) fun x hx => ?_
  obtain ⟨ps, rfl, hl, hp⟩ := hx
  match ps, hl with
  | [p, q], _ =>
    obtain ⟨a, rfl⟩ := hp 0 p rfl
    obtain ⟨b, rfl⟩ := hp 1 q rfl
    exact ⟨⟨a, b⟩, rfl⟩
end
end Go.Proofs.Ytnjmedihheblaaa
