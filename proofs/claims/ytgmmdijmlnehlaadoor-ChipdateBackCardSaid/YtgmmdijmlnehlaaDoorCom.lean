import Derived.Test.YtgmmdijmlnehlaaDoorTy
import Derived.Test.YtgmmdijmlnehlaaDoorOct
namespace Go.Proofs.YtgmmdijmlnehlaaDoor
open Go.RowKit Go.TravelBase Go.TravelAbs
set_option linter.unusedVariables false
set_option linter.unusedSimpArgs false

theorem mixed_ : Tryd.prog.follows .mixedOrders = true := by kernel_rfl

theorem FnS.q {P : Program} {f : FuncId} {args : List AV} {r r' : AV} {v : Value} (h : ∀ (w : World) (S : CSet) (m : RMap) (vs : Array Value), (∀ b o, S b o → b < w.heap.size) → vs.size = args.length → (∀ (j : Nat) (x : AV) (u : Value), args[j]? = some x → vs[j]? = some u → VR w S m x u) → Calls P f vs w (RetQ v w)) (hr : rcv 1000 r = (r', [])) (hv : ∀ w S m, VR w S m r' v) : FnS P f args [] r [] := by
  intro w S rows vs hs hgl hvs ha _ _
  refine (h w S _ vs hs hvs ha).mono ?_
  rintro e w' ⟨rfl, k, rfl⟩
  have hM : Mem ⟨w, S, 0, rows⟩ [] S (fun _ => none) (w.drewN k) :=
    ⟨fun p hp => absurd hp (Nat.not_lt_zero p), ⟨rfl, rfl, rfl, Nat.le_refl _, fun g hg _ => rfl⟩, fun _ _ q => q, fun _ _ q => .inl q, hs, fun _ _ => rfl, (fun k b hk => absurd hk (by simp [lk])), (fun k k' b b' r r' hk => absurd hk (by simp [lk])), hgl.mono fun _ _ q => ⟨q, rfl⟩⟩
  refine ⟨v, S, fun _ => none, rfl, ?_, ?_⟩
  · rw [hr]; exact hM
  · rw [hr]; exact hv _ _ _

theorem arr1 {vs : Array Value} {x : AV} {w : World} {S : CSet} {m : RMap} (hl : vs.size = [x].length) (h : ∀ (j : Nat) (y : AV) (u : Value), [x][j]? = some y → vs[j]? = some u → VR w S m y u) : ∃ v, vs = #[v] ∧ VR w S m x v := by
  obtain ⟨l⟩ := vs
  match l, hl with
  | [v], _ => exact ⟨v, rfl, h 0 x v rfl rfl⟩

theorem arr2 {vs : Array Value} {x y : AV} {w : World} {S : CSet} {m : RMap} (hl : vs.size = [x, y].length) (h : ∀ (j : Nat) (z : AV) (u : Value), [x, y][j]? = some z → vs[j]? = some u → VR w S m z u) : ∃ v u, vs = #[v, u] ∧ VR w S m x v ∧ VR w S m y u := by
  obtain ⟨l⟩ := vs
  match l, hl with
  | [v, u], _ => exact ⟨v, u, rfl, h 0 x v rfl rfl, h 1 y u rfl rfl⟩

theorem tup2_lit {w : World} {S : CSet} {m : RMap} (a b : Value) : VR w S m (.tup [.lit a, .lit b]) (.tuple #[a, b]) :=
  .tup rfl fun j x u hx hu => by
    match j, hx, hu with
    | 0, hx, hu => simp at hx hu; subst hx hu; exact .lit _
    | 1, hx, hu => simp at hx hu; subst hx hu; exact .lit _
    | j + 2, hx, hu => simp at hx

theorem number_s (bs : List UInt8) : FnS Tryd.prog 58 [.by_ bs] [] (.tup [.lit (.int .i64 (numV bs)), .lit (.int .i64 (numE bs))]) [] :=
  FnS.q (fun w S m vs hs hl ha => by
    obtain ⟨v, rfl, h⟩ := arr1 hl ha
    obtain ⟨A, c, rfl, hr⟩ := Rd_of_VR h hs
    exact (number_any A _ c bs w hr).mono fun e w' ⟨h1, h2⟩ => ⟨h1, 0, h2.symm⟩) rfl fun _ _ _ => tup2_lit _ _

theorem rnumber_s (bs : List UInt8) : FnS Tryd.prog 78 [.by_ bs] [] (.tup [.lit (.int .i64 (numV bs)), .lit (.int .i64 (numE bs))]) [] :=
  FnS.q (fun w S m vs hs hl ha => by
    obtain ⟨v, rfl, h⟩ := arr1 hl ha
    obtain ⟨A, c, rfl, hr⟩ := Rd_of_VR h hs
    exact (rnumber_any A _ c bs w hr).mono fun e w' ⟨h1, h2⟩ => ⟨h1, 0, h2.symm⟩) rfl fun _ _ _ => tup2_lit _ _

theorem octets_s (n k : Int) (hn : -9223372036854775808 ≤ n ∧ n ≤ 9223372036854775807) (hk : -9223372036854775808 ≤ k ∧ k ≤ 9223372036854775807) : FnS Tryd.prog 56 [.lit (.int .i64 n), .lit (.int .i64 k)] [] (.tup [.fr (.by_ (octL n k)), .lit (.int .i64 (octE n k))]) [] :=
  FnS.fr2 (fun w S m vs hs hl ha => by
    obtain ⟨v, u, rfl, h1, h2⟩ := arr2 hl ha
    obtain rfl := h1.lit_inv
    obtain rfl := h2.lit_inv
    exact octets_any n k w hn hk)

theorem fnOK {f : FuncId} {fn : Func} {c : Code} (hf : Tryd.prog.funcs[f]? = some fn) (hn : (fn.name == "runtime.NumGoroutine") = false) (hb : fn.body = some c) : FnOK Tryd.prog f := ⟨fn, c, hf, hn, hb⟩
end Go.Proofs.YtgmmdijmlnehlaaDoor
