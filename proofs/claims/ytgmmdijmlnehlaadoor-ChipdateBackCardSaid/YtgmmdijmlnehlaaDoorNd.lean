import Derived.Test.YtgmmdijmlnehlaaDoorDiceA
namespace Go.Proofs.YtgmmdijmlnehlaaDoor
open Go.RowKit Go.TravelBase Go.TravelAbs
set_option linter.unusedVariables false
set_option linter.unusedSimpArgs false



















/-! ### Nodes -/
inductive Nd where
  | mk (tag : Int) (val : List UInt8) (kids : List Nd)
def Nd.tag : Nd → Int
  | .mk t _ _ => t
def Nd.val : Nd → List UInt8
  | .mk _ v _ => v
def Nd.kids : Nd → List Nd
  | .mk _ _ k => k
mutual
def ndA : Nd → AV
  | .mk t v k => .agg [.lit (.int .i64 t), .by_ v, .li 3 (ndsA k)]
def ndsA : List Nd → List AV
  | [] => []
  | x :: l => ndA x :: ndsA l
end
theorem ndsA_map : ∀ l : List Nd, ndsA l = l.map ndA
  | [] => rfl
  | x :: l => by rw [ndsA, ndsA_map l]; rfl
theorem ndA_eq (n : Nd) : ndA n = .agg [.lit (.int .i64 n.tag), .by_ n.val, .li 3 (ndsA n.kids)] := by
  cases n
  rfl
@[go_sem] theorem nds_len (l : List Nd) : (ndsA l).length = l.length := by rw [ndsA_map, List.length_map]
theorem nds_app (l m : List Nd) : ndsA l ++ ndsA m = ndsA (l ++ m) := by rw [ndsA_map, ndsA_map, ndsA_map, List.map_append]
theorem nds_snoc (l : List Nd) (n : Nd) : ndsA l ++ [.agg [.lit (.int .i64 n.tag), .by_ n.val, .li 3 (ndsA n.kids)]] = ndsA (l ++ [n]) := by
  rw [← nds_app, ← ndA_eq]
  rfl
theorem nds_drop (l : List Nd) (k : Nat) : (ndsA l).drop k = ndsA (l.drop k) := by rw [ndsA_map, ndsA_map, List.map_drop]
theorem nds_take (l : List Nd) (k : Nat) : (ndsA l).take k = ndsA (l.take k) := by rw [ndsA_map, ndsA_map, List.map_take]
theorem nd_at {l : List Nd} {i : Nat} (h : i < l.length) : (ndsA l).getD i .any = .agg [.lit (.int .i64 l[i].tag), .by_ l[i].val, .li 3 (ndsA l[i].kids)] := by
  rw [ndsA_map, ← ndA_eq]
  simp [List.getD, List.getElem?_eq_getElem h]
mutual
def unN : AV → Nd
  | .agg [.lit (.int _ t), .by_ v, .li _ xs] => .mk t v (unNs xs)
  | _ => .mk 0 [] []
def unNs : List AV → List Nd
  | [] => []
  | x :: l => unN x :: unNs l
end
mutual
theorem un_nd : ∀ n : Nd, unN (ndA n) = n
  | .mk t v k => by simp only [ndA, unN, un_nds k]
theorem un_nds : ∀ l : List Nd, unNs (ndsA l) = l
  | [] => by simp only [ndsA, unNs]
  | x :: l => by simp only [ndsA, unNs, un_nd x, un_nds l]
end
mutual
theorem Tr_ndCl : ∀ n : Nd, ∀ y ∈ (ndA n).cl, Tr y
  | .mk t v k => fun y hy => by
    simp only [ndA, AV.cl, List.mem_cons, List.not_mem_nil, or_false] at hy
    rcases hy with rfl | rfl | rfl
    · exact Tr.lit _
    · exact Tr.by_ _
    · exact Tr.li (Tr_ndsE k)
theorem Tr_ndsE : ∀ l : List Nd, ∀ x ∈ ndsA l, ∀ y ∈ x.cl, Tr y
  | [] => fun x hx => by simp [ndsA] at hx
  | n :: l => fun x hx y hy => by
    rw [ndsA] at hx
    rcases List.mem_cons.1 hx with rfl | hx
    · exact Tr_ndCl n y hy
    · exact Tr_ndsE l x hx y hy
end
theorem Tr_nds (l : List Nd) : Tr (.li 3 (ndsA l)) = True := eq_true (Tr.li (Tr_ndsE l))
theorem TrC_nds (l : List Nd) : TrC (.li 3 (ndsA l)) = True := eq_true (TrC.li (Tr_ndsE l))
mutual
def ndS : Nd → Nat
  | .mk _ _ k => 1 + ndsS k
def ndsS : List Nd → Nat
  | [] => 0
  | x :: l => ndS x + ndsS l
end
theorem ndS_eq (n : Nd) : ndS n = 1 + ndsS n.kids := by cases n; rfl
theorem ndsS_at : ∀ {l : List Nd} {i : Nat} (h : i < l.length), ndsS l[i].kids < ndsS l
  | x :: l, 0, _ => by
    have := ndS_eq x
    simp only [List.getElem_cons_zero, ndsS]
    omega
  | x :: l, i + 1, h => by
    have := ndsS_at (l := l) (i := i) (by simpa using h)
    simp only [List.getElem_cons_succ, ndsS]
    omega
theorem ndsS_drop : ∀ {l : List Nd} {i : Nat} (h : i < l.length), ndsS (l.drop i) = 1 + ndsS l[i].kids + ndsS (l.drop (i + 1))
  | x :: l, 0, _ => by
    have := ndS_eq x
    simp only [List.getElem_cons_zero, List.drop_zero, List.drop_succ_cons, ndsS]
    omega
  | x :: l, i + 1, h => by
    have := ndsS_drop (l := l) (i := i) (by simpa using h)
    simp only [List.getElem_cons_succ, List.drop_succ_cons]
    exact this
end Go.Proofs.YtgmmdijmlnehlaaDoor
