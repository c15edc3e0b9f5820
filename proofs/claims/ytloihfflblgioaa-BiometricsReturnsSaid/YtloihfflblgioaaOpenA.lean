import Derived.Test.YtloihfflblgioaaOpen
import Derived.Test.YtloihfflblgioaaOpenB
import Derived.Test.YtloihfflblgioaaAbsAB
namespace Go.TravelAbs
open Go.RowKit Go.TravelBase
set_option linter.unusedVariables false
/-- A law: it returns what it says, and changes nothing that was there. -/
theorem FnS.law {P : Program} {f : FuncId} {args : List AV} {v : Value} (h : FnS P f args [] (.lit v) []) (W : World) (vs : Array Value) (hl : vs.size = args.length) (hv : ∀ m, ∀ (j : Nat) (x : AV) (u : Value), args[j]? = some x → vs[j]? = some u → VR W (fun b _ => b < W.heap.size) m x u) :
    Calls P f vs W fun e W' => e = .returned v ∧ Below W.heap.size W W' := by
  refine (h W (fun b _ => b < W.heap.size) (fun _ => ⟨0, 0, 0⟩) vs (fun _ _ h => h) hl (hv _) (fun p c hp => by simp at hp) (fun p q hp => by simp at hp)).mono ?_
  rintro e W' ⟨u, S', m', rfl, hM, hu⟩
  have hu : u = v := hu.lit_inv
  subst hu
  exact ⟨rfl, hM.frm.os, hM.frm.tape, hM.frm.output, hM.frm.size, fun k hk => hM.frm.block k hk (fun ⟨p, hp, _⟩ => absurd hp (Nat.not_lt_zero p))⟩
end Go.TravelAbs
namespace Go.Proofs.Ytloihfflblgioaa
open Go.ChangeShapes Go.WideShapes Go.ChangeAt Go.RowKit Go.TravelBase Go.Deep
section
variable {H : Type} {enc : TypeId × Value → H} {P : Program} {W : World}
/-- A struct of one field, an array of two byte slices. -/
theorem opn_mem {r : Reach} {b0 : Nat} {t a e b : TypeId} {F : Field} {v : Value} {d : DataW H} {p : List MemPlace} (hs : P.underlying t = some (.struct #[F])) (h0 : F.offset = 0) (hFt : F.type = a) (ha : P.underlying a = some (.array 2 e)) (he : P.underlying e = some (.slice b)) (hb : P.underlying b = some (.int .u8))
    (ct : P.cellsOf t = 2) (ca : P.cellsOf a = 2) (ce : P.cellsOf e = 1) (cb : P.cellsOf b = 1) (hv : Value.okWide P W r b0 t v) (h : DataW.Trod enc P W 0 (fun _ => true) true t v d p) :
    ∃ A1 n1 c1 bs1 A2 n2 c2 bs2, v = .agg #[.slice A1 n1 c1, .slice A2 n2 c2] ∧ Rd W A1 n1 c1 (bvs bs1) ∧ Rd W A2 n2 c2 (bvs bs2) := by
  obtain ⟨cs, rfl, hsz⟩ := okWide_struct hs hv
  obtain ⟨u1, u2, rfl⟩ := array2 (hsz.trans ct)
  obtain ⟨fuel, ht⟩ := h
  obtain ⟨xs, n, _, _, _, hlen, hg⟩ := DataW.trod_struct hs ht
  have h1 := hg 0 F rfl
  rw [h0, hFt, ca] at h1
  have e2 : ((Value.cells (.agg #[u1, u2])).toList.drop 0).take 2 = [u1, u2] := rfl
  rw [e2] at h1
  have hx : 0 < xs.length := by rw [hlen]; exact Nat.one_pos
  rw [List.getElem?_eq_getElem hx] at h1
  obtain ⟨ys, m, _, _, _, hl2, hg2⟩ := DataW.trod_array ha h1
  have g0 := hg2 0 (by omega)
  have g1 := hg2 1 (by omega)
  rw [ce] at g0 g1
  rw [List.getElem?_eq_getElem (show 0 < ys.length by omega)] at g0
  rw [List.getElem?_eq_getElem (show 1 < ys.length by omega)] at g1
  obtain ⟨A1, n1, c1, bs1, rfl, w1⟩ := opn_bytes1 he hb cb g0
  obtain ⟨A2, n2, c2, bs2, rfl, w2⟩ := opn_bytes1 he hb cb g1
  exact ⟨A1, n1, c1, bs1, A2, n2, c2, bs2, rfl, w1, w2⟩
end
end Go.Proofs.Ytloihfflblgioaa
