import Derived.Test.YtnjmedihheblaaaTy
import Derived.Test.YtnjmedihheblaaaOct
namespace Go.Proofs.Ytnjmedihheblaaa
open Go.RowKit Go.TravelBase Go.TravelAbs
set_option linter.unusedVariables false
set_option linter.unusedSimpArgs false

theorem mixed_ : Try.prog.follows .mixedOrders = true := by kernel_rfl

theorem FnS.q {P : Program} {f : FuncId} {args : List AV} {r r' : AV} {v : Value} (h : ∀ (w : World) (S : CSet) (m : RMap) (vs : Array Value), (∀ b o, S b o → b < w.heap.size) → vs.size = args.length → (∀ (j : Nat) (x : AV) (u : Value), args[j]? = some x → vs[j]? = some u → VR w S m x u) → Calls P f vs w (RetQ v w)) (hr : rcv 1000 r = (r', [])) (hv : ∀ w S m, VR w S m r' v) : FnS P f args [] r [] := by
  intro w S rows vs hs hvs ha _ _
  refine (h w S _ vs hs hvs ha).mono ?_
  rintro e w' ⟨rfl, k, rfl⟩
  have hM : Mem ⟨w, S, 0, rows⟩ [] S (fun _ => none) (w.drewN k) :=
    ⟨fun p hp => absurd hp (Nat.not_lt_zero p), ⟨rfl, rfl, rfl, Nat.le_refl _, fun g hg _ => rfl⟩, fun _ _ q => q, fun _ _ q => .inl q, hs, fun _ _ => rfl, (fun k b hk => absurd hk (by simp [lk])), (fun k k' b b' r r' hk => absurd hk (by simp [lk]))⟩
  refine ⟨v, S, fun _ => none, rfl, ?_, ?_⟩
  · rw [hr]; exact hM
  · rw [hr]; exact hv _ _ _

theorem arr1 {vs : Array Value} {x : AV} {w : World} {S : CSet} {m : RMap} (hl : vs.size = [x].length) (h : ∀ (j : Nat) (y : AV) (u : Value), [x][j]? = some y → vs[j]? = some u → VR w S m y u) : ∃ v, vs = #[v] ∧ VR w S m x v := by
  obtain ⟨l⟩ := vs
  match l, hl with
  | [v], _ => exact ⟨v, rfl, h 0 x v rfl rfl⟩

theorem arr2 {vs : Array Value} {x y : AV} {w : World} {S : CSet} {m : RMap} (hl : vs.size = [x, y].length) (h : ∀ (j : Nat) (z : AV) (u : Value), [x, y][j]? = some z → vs[j]? = some u → VR w S m z u) : ∃ v u, vs = #[v, u] ∧ VR w S m x v ∧ VR w S m y u := by
  obtain ⟨l⟩ := vs
  match l, hl with
  | [v, u], _ => exact ⟨v, u, rfl, h 0 x v rfl rfl, h 1 y u rfl rfl⟩

theorem tup2_lit {w : World} {S : CSet} {m : RMap} (a b : Value) : VR w S m (.tup [.lit a, .lit b]) (.tuple #[a, b]) :=
  .tup rfl fun j x u hx hu => by
    match j, hx, hu with
    | 0, hx, hu => simp at hx hu; subst hx hu; exact .lit _
    | 1, hx, hu => simp at hx hu; subst hx hu; exact .lit _
    | j + 2, hx, hu => simp at hx

theorem rsame_s (xs ys : List UInt8) : FnS Try.prog 20 [.by_ xs, .by_ ys] [] (.lit (.bool (decide (xs = ys)))) [] :=
  FnS.q (fun w S m vs hs hl ha => by
    obtain ⟨v, u, rfl, h1, h2⟩ := arr2 hl ha
    obtain ⟨A, c, rfl, hr⟩ := Rd_of_VR h1 hs
    obtain ⟨A', c', rfl, hr'⟩ := Rd_of_VR h2 hs
    exact rsame_any A A' _ c _ c' xs ys w hr hr') rfl fun _ _ _ => .lit _

theorem fnOK {f : FuncId} {fn : Func} {c : Code} (hf : Try.prog.funcs[f]? = some fn) (hn : (fn.name == "runtime.NumGoroutine") = false) (hb : fn.body = some c) : FnOK Try.prog f := ⟨fn, c, hf, hn, hb⟩
end Go.Proofs.Ytnjmedihheblaaa
