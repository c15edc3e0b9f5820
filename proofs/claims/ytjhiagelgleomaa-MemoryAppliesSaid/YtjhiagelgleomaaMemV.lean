import Derived.Test.YtjhiagelgleomaaMemS
namespace Go.Proofs.Ytjhiagelgleomaa.Wrp
open Go.RowKit Go.TravelBase Go.TravelAbs
set_option linter.unusedVariables false
set_option linter.unusedSimpArgs false











/-! ### Apply and Bytes of any writes: sums wrap -/
def dnW (n : Nat) : Int := IntKind.i64.wrap (n : Int)
theorem dn0 : dnW 0 = 0 := by decide +kernel
theorem dn_succ (n : Nat) : IntKind.i64.wrap (dnW n + 1) = dnW (n + 1) := by
  unfold dnW
  simp only [IntKind.wrap_i64]
  omega
theorem dn_iff {cut : Int} {n : Nat} (hcc : -9223372036854775808 ≤ cut ∧ cut ≤ 9223372036854775807) (hn : (n : Int) ≤ cut % 18446744073709551616) : dnW n = cut ↔ (n : Int) = cut % 18446744073709551616 := by
  unfold dnW
  rw [IntKind.wrap_i64]
  omega
/-- Behind which bytes the writes stop: the count is kept modulo 2 ^ 64. -/
def apD (ws : List Wr) (cut : Int) : List (Wr × Nat) := (sq ws).take (cut % 18446744073709551616).toNat
def apRw (a b : List UInt8) (ws : List Wr) (cut : Int) : List UInt8 × List UInt8 := apS (a, b) (apD ws cut)
theorem apD_all {ws : List Wr} {cut : Int} (h : ((bS ws : Nat) : Int) ≤ cut % 18446744073709551616) : apD ws cut = sq ws := List.take_of_length_le (by rw [sq_length]; omega)
theorem apD_at {ws : List Wr} {cut : Int} {i k : Nat} (h : i < ws.length) (hk : k < ws[i].bytes.length) (hc : ((bS (ws.take i) + k : Nat) : Int) = cut % 18446744073709551616) : apD ws cut = sq (ws.take i) ++ sqI ws[i] k := by
  unfold apD
  rw [← hc, Int.toNat_natCast, ← sq_length (ws.take i), sq_prefix h (by omega)]
theorem FnS.lenE {P : Program} {f : FuncId} {args ls : List AV} {r : AV} {ls' : List AV} (h : (∀ (j es : Nat) (xs : List AV), args[j]? = some (.li es xs) → ∀ x ∈ xs, ∀ bs, AV.by_ bs ∈ x.cl → bs.length ≤ 9223372036854775807) → FnS P f args ls r ls') : FnS P f args ls r ls' := by
  intro w S rows vs h1 h2 h3 h4 h5
  refine h (fun j es xs hj x hx bs hb => ?_) w S rows vs h1 h2 h3 h4 h5
  have hlt : j < vs.size := by rw [h2]; exact (List.getElem?_eq_some_iff.1 hj).1
  have := h3 j _ vs[j] hj (Array.getElem?_eq_getElem hlt)
  obtain ⟨i, hi, e⟩ := List.getElem_of_mem hx
  obtain ⟨q, hq, e2⟩ := List.getElem_of_mem hb
  generalize vs[j] = v at this
  cases this with
  | li us q1 q2 q3 q4 q5 q6 q7 q8 =>
    have h9 := q8 i q x (.by_ bs) (by rw [List.getElem?_eq_getElem hi, e]) (by rw [List.getElem?_eq_getElem hq, e2])
    generalize us (i * es + q) = u at h9
    cases h9 with
    | by_ r1 r2 r3 r4 r5 => simp only [maxLen] at r3; omega

def tyLw : List (Nat × TI) := [
  (2, ⟨.one, 1, 8, [(.int .i64 0)]⟩),
  (3, ⟨.one, 1, 8, [(.int .i64 0)]⟩),
  (4, ⟨.bool, 1, 1, [(.bool false)]⟩),
  (5, ⟨.int .u8, 1, 1, [(.int .u8 0)]⟩),
  (9, ⟨.str, 1, 16, [(.string ⟨#[]⟩)]⟩),
  (12, ⟨.int .u64, 1, 8, [(.int .u64 0)]⟩),
  (21, ⟨.int .i32, 1, 4, [(.int .i32 0)]⟩),
  (22, ⟨.slice 5, 1, 24, [(.slice none 0 0)]⟩),
  (23, ⟨.array 2 22, 2, 48, [(.slice none 0 0), (.slice none 0 0)]⟩),
  (24, ⟨.struct [(0, 2, true)], 2, 48, [(.slice none 0 0), (.slice none 0 0)]⟩),
  (25, ⟨.struct [(0, 2, true)], 2, 48, [(.slice none 0 0), (.slice none 0 0)]⟩),
  (26, ⟨.one, 1, 8, [(.int .i64 0)]⟩),
  (31, ⟨.slice 63, 1, 24, [(.slice none 0 0)]⟩),
  (39, ⟨.slice 3, 1, 24, [(.slice none 0 0)]⟩),
  (41, ⟨.one, 1, 8, [(.pointer none)]⟩),
  (42, ⟨.one, 1, 8, [.nilFunc]⟩),
  (45, ⟨.one, 1, 8, [.nilFunc]⟩),
  (56, ⟨.struct [(0, 1, false), (1, 1, false)], 2, 32, [(.int .i64 0), (.slice none 0 0)]⟩),
  (57, ⟨.struct [(0, 1, false), (1, 1, false)], 2, 32, [(.int .i64 0), (.slice none 0 0)]⟩),
  (62, ⟨.struct [(0, 1, false), (1, 1, false), (2, 1, false)], 3, 40, [(.int .i64 0), (.int .i64 0), (.slice none 0 0)]⟩),
  (63, ⟨.struct [(0, 1, false), (1, 1, false), (2, 1, false)], 3, 40, [(.int .i64 0), (.int .i64 0), (.slice none 0 0)]⟩),
  (64, ⟨.struct [(0, 1, false), (1, 1, false)], 2, 32, [(.slice none 0 0), (.int .i64 0)]⟩),
  (65, ⟨.struct [(0, 1, false), (1, 1, false)], 2, 32, [(.slice none 0 0), (.int .i64 0)]⟩),
  (68, ⟨.int .u64, 1, 8, [(.int .u64 0)]⟩),
  (81, ⟨.int .u32, 1, 4, [(.int .u32 0)]⟩)]
def tyw : Ty := tyOf tyLw
theorem ty_ok : TysOK Try.prog tyw := tysOK (by kernel_rfl)
@[go_sem] theorem tyw_2 : tyw 2 = some ⟨.one, 1, 8, [(.int .i64 0)]⟩ := rfl
@[go_sem] theorem tyw_3 : tyw 3 = some ⟨.one, 1, 8, [(.int .i64 0)]⟩ := rfl
@[go_sem] theorem tyw_4 : tyw 4 = some ⟨.bool, 1, 1, [(.bool false)]⟩ := rfl
@[go_sem] theorem tyw_5 : tyw 5 = some ⟨.int .u8, 1, 1, [(.int .u8 0)]⟩ := rfl
@[go_sem] theorem tyw_9 : tyw 9 = some ⟨.str, 1, 16, [(.string ⟨#[]⟩)]⟩ := rfl
@[go_sem] theorem tyw_12 : tyw 12 = some ⟨.int .u64, 1, 8, [(.int .u64 0)]⟩ := rfl
@[go_sem] theorem tyw_21 : tyw 21 = some ⟨.int .i32, 1, 4, [(.int .i32 0)]⟩ := rfl
@[go_sem] theorem tyw_22 : tyw 22 = some ⟨.slice 5, 1, 24, [(.slice none 0 0)]⟩ := rfl
@[go_sem] theorem tyw_23 : tyw 23 = some ⟨.array 2 22, 2, 48, [(.slice none 0 0), (.slice none 0 0)]⟩ := rfl
@[go_sem] theorem tyw_24 : tyw 24 = some ⟨.struct [(0, 2, true)], 2, 48, [(.slice none 0 0), (.slice none 0 0)]⟩ := rfl
@[go_sem] theorem tyw_25 : tyw 25 = some ⟨.struct [(0, 2, true)], 2, 48, [(.slice none 0 0), (.slice none 0 0)]⟩ := rfl
@[go_sem] theorem tyw_26 : tyw 26 = some ⟨.one, 1, 8, [(.int .i64 0)]⟩ := rfl
@[go_sem] theorem tyw_31 : tyw 31 = some ⟨.slice 63, 1, 24, [(.slice none 0 0)]⟩ := rfl
@[go_sem] theorem tyw_39 : tyw 39 = some ⟨.slice 3, 1, 24, [(.slice none 0 0)]⟩ := rfl
@[go_sem] theorem tyw_41 : tyw 41 = some ⟨.one, 1, 8, [(.pointer none)]⟩ := rfl
@[go_sem] theorem tyw_42 : tyw 42 = some ⟨.one, 1, 8, [.nilFunc]⟩ := rfl
@[go_sem] theorem tyw_45 : tyw 45 = some ⟨.one, 1, 8, [.nilFunc]⟩ := rfl
@[go_sem] theorem tyw_56 : tyw 56 = some ⟨.struct [(0, 1, false), (1, 1, false)], 2, 32, [(.int .i64 0), (.slice none 0 0)]⟩ := rfl
@[go_sem] theorem tyw_57 : tyw 57 = some ⟨.struct [(0, 1, false), (1, 1, false)], 2, 32, [(.int .i64 0), (.slice none 0 0)]⟩ := rfl
@[go_sem] theorem tyw_62 : tyw 62 = some ⟨.struct [(0, 1, false), (1, 1, false), (2, 1, false)], 3, 40, [(.int .i64 0), (.int .i64 0), (.slice none 0 0)]⟩ := rfl
@[go_sem] theorem tyw_63 : tyw 63 = some ⟨.struct [(0, 1, false), (1, 1, false), (2, 1, false)], 3, 40, [(.int .i64 0), (.int .i64 0), (.slice none 0 0)]⟩ := rfl
@[go_sem] theorem tyw_64 : tyw 64 = some ⟨.struct [(0, 1, false), (1, 1, false)], 2, 32, [(.slice none 0 0), (.int .i64 0)]⟩ := rfl
@[go_sem] theorem tyw_65 : tyw 65 = some ⟨.struct [(0, 1, false), (1, 1, false)], 2, 32, [(.slice none 0 0), (.int .i64 0)]⟩ := rfl
@[go_sem] theorem tyw_68 : tyw 68 = some ⟨.int .u64, 1, 8, [(.int .u64 0)]⟩ := rfl
@[go_sem] theorem tyw_81 : tyw 81 = some ⟨.int .u32, 1, 4, [(.int .u32 0)]⟩ := rfl
set_option maxHeartbeats 4000000 in
theorem applyw_s (a b : List UInt8) (ws : List Wr) (cut : Int) (ha : a.length ≤ 1000000000) (hb : b.length ≤ 1000000000) (hcc : -9223372036854775808 ≤ cut ∧ cut ≤ 9223372036854775807) (hat : ∀ x ∈ ws, -9223372036854775808 ≤ x.at_ ∧ x.at_ ≤ 9223372036854775807) : FnS Try.prog 23 [.agg [.by_ a, .by_ b], .li 3 (ws.map wA), .lit (.int .i64 cut)] [] (.agg [.by_ (apRw a b ws cut).1, .by_ (apRw a b ws cut).2]) [] := by
  have hs := sg8_ok
  refine FnS.lenE fun hE => ?_
  have hE := hE 1 3 _ rfl
  refine FnS.len fun hL _ => ?_
  have hL := hL 1 3 _ rfl
  rw [List.length_map] at hL
  simp only [maxLen] at hL
  refine FnS.of Try.func23 rfl (N := 90) rfl (by simp) (by simp) fun X hX => ?_
  simp only [tmArgs, lentH, Nat.reduceAdd]
  refine WA.regionK ty_ok hs fun K hK => ?_
  simp only [go_sem, Nat.reduceAdd, Nat.reduceLT, Nat.reduceLeDiff, Nat.reduceEqDiff, Nat.reduceSub, Nat.reduceMul, Nat.reduceBEq, Nat.reduceBNe, Nat.reducePow, Nat.reduceDiv, Int.reduceLE, Int.reduceLT, Int.reduceToNat, Int.reduceNeg, Int.reduceAdd, Int.reduceSub, Int.reduceEq, reduceIte, reduceCtorEq, UInt8.reduceOfNat, sg8]
  first
  | refine hK _ ?_
  | refine And.intro (by first | omega | (simp; done) | (simp; omega) | (simp +contextual; done) | (simp_all; done) | (simp_all; omega)) (hK _ ?_)
  clear hK K
  refine WA.drawnK mixed_ ty_ok hs (tbl := [[], [0], [0, 1], [0, 1, 2], [], [4], [4, 5], [0, 1, 2, 3, 4, 5, 6], [0, 1, 2, 3, 4, 5, 6, 7], [0, 1, 2, 3, 4, 5, 6, 7, 8], [], [0, 1, 2, 3, 4, 5, 6, 7, 8, 9, 10]]) (nb := [2, 3, 6, 7, 11]) (by kernel_rfl) fun K hK => ?_
  simp only [go_sem, Nat.reduceAdd, Nat.reduceLT, Nat.reduceLeDiff, Nat.reduceEqDiff, Nat.reduceSub, Nat.reduceMul, Nat.reduceBEq, Nat.reduceBNe, Nat.reducePow, Nat.reduceDiv, Int.reduceLE, Int.reduceLT, Int.reduceToNat, Int.reduceNeg, Int.reduceAdd, Int.reduceSub, Int.reduceEq, reduceIte, reduceCtorEq, UInt8.reduceOfNat, sg8]
  first
  | refine hK _ ?_
  | refine And.intro (by first | omega | (simp; done) | (simp; omega) | (simp +contextual; done) | (simp_all; done) | (simp_all; omega)) (hK _ ?_)
  clear hK K
  refine WA.regionK ty_ok hs fun K hK => ?_
  simp only [go_sem, Nat.reduceAdd, Nat.reduceLT, Nat.reduceLeDiff, Nat.reduceEqDiff, Nat.reduceSub, Nat.reduceMul, Nat.reduceBEq, Nat.reduceBNe, Nat.reducePow, Nat.reduceDiv, Int.reduceLE, Int.reduceLT, Int.reduceToNat, Int.reduceNeg, Int.reduceAdd, Int.reduceSub, Int.reduceEq, reduceIte, reduceCtorEq, UInt8.reduceOfNat, sg8]
  first
  | refine hK _ ?_
  | refine And.intro (by first | omega | (simp; done) | (simp; omega) | (simp +contextual; done) | (simp_all; done) | (simp_all; omega)) (hK _ ?_)
  clear hK K
  refine WA.seq ?_
  refine WA.regionK ty_ok hs fun K hK => ?_
  simp only [go_sem, Nat.reduceAdd, Nat.reduceLT, Nat.reduceLeDiff, Nat.reduceEqDiff, Nat.reduceSub, Nat.reduceMul, Nat.reduceBEq, Nat.reduceBNe, Nat.reducePow, Nat.reduceDiv, Int.reduceLE, Int.reduceLT, Int.reduceToNat, Int.reduceNeg, Int.reduceAdd, Int.reduceSub, Int.reduceEq, reduceIte, reduceCtorEq, UInt8.reduceOfNat, sg8]
  first
  | refine hK _ ?_
  | refine And.intro (by first | omega | (simp; done) | (simp; omega) | (simp +contextual; done) | (simp_all; done) | (simp_all; omega)) (hK _ ?_)
  clear hK K
  refine WA.block ?_
  refine WA.loopW hX (fun k => k) ((fun i => ⟨[(26, .lit (.int .i64 (i : Nat))), (25, .lit (.int .i64 (ws.length : Nat))), (24, .li 3 (ws.map wA)), (8, .lit (.int .i64 (dnW (bS (ws.take i))))), (7, .ptr 2096 0 0), (6, .ptr 2008 0 0), (2, .lit (.int .i64 cut))], [(2096, ⟨.li 2 [.agg [.sl 2040 1 0 a.length, .sl 2072 1 0 b.length]], 0, false⟩), (2072, ⟨.by_ (apS (a, b) (sq (ws.take i))).2, 0, false⟩), (2040, ⟨.by_ (apS (a, b) (sq (ws.take i))).1, 0, false⟩), (2008, ⟨.li 2 [.agg [.lit (.slice none 0 0), .lit (.slice none 0 0)]], 0, false⟩)], 3000, 90⟩ : Nat → St)) (fun i => ws.length - i) (fun i => i ≤ ws.length ∧ ((bS (ws.take i) : Nat) : Int) ≤ cut % 18446744073709551616) (i0 := 0) (⟨by omega, by rw [List.take_zero]; show (0 : Int) ≤ cut % 18446744073709551616; exact Int.emod_nonneg _ (by omega)⟩) (by simp only [go_sem, Int.natCast_add, Nat.reduceAdd, Nat.reduceLT, Nat.reduceLeDiff, Nat.reduceEqDiff, Nat.reduceSub, Nat.reduceMul, Nat.reduceBEq, Nat.reduceBNe, Nat.reducePow, Nat.reduceDiv, Int.reduceLE, Int.reduceLT, Int.reduceToNat, Int.reduceNeg, Int.reduceAdd, Int.reduceSub, Int.reduceEq, reduceIte, reduceCtorEq, UInt8.reduceOfNat, Tr_wr, dn0, List.take_zero, bS, List.map_nil, List.sum_nil, sq, apS, List.flatMap_nil, List.foldl_nil] <;> (try and_intros) <;> (try omega)) fun i hi => ?_
  obtain ⟨hi, hcut⟩ := hi
  refine WA.regionK ty_ok hs fun K hK => ?_
  simp only [go_sem, Nat.reduceAdd, Nat.reduceLT, Nat.reduceLeDiff, Nat.reduceEqDiff, Nat.reduceSub, Nat.reduceMul, Nat.reduceBEq, Nat.reduceBNe, Nat.reducePow, Nat.reduceDiv, Int.reduceLE, Int.reduceLT, Int.reduceToNat, Int.reduceNeg, Int.reduceAdd, Int.reduceSub, Int.reduceEq, reduceIte, reduceCtorEq, UInt8.reduceOfNat, sg8]
  first
  | refine hK _ ?_
  | refine And.intro (by first | omega | (simp; done) | (simp; omega) | (simp +contextual; done) | (simp_all; done) | (simp_all; omega)) (hK _ ?_)
  clear hK K
  refine WA.seq ?_
  refine WA.cond rfl (fun h => ?_) (fun h => ?_)
  ·
    with_reducible refine WA.skipN ?_
    repeat first | with_reducible refine WN.t ?_ | with_reducible refine WN.b ?_
    have h6 : i < ws.length := by have := of_decide_eq_true h; omega
    have g1 := wr_at h6
    have g2 := bS_take h6
    have g3 := bS_le ws (i + 1)
    have g4 := sq_take h6
    have g5 := hat _ (List.getElem_mem h6)
    have g6 := fun k => apD_at (cut := cut) (k := k) h6
    have ei : IntKind.i64.wrap ((i : Int) + 1) = (i : Int) + 1 := wrap_i64 (by omega) (by omega)
    have g7 : ws[i].bytes.length ≤ 9223372036854775807 := hE _ (List.mem_map.2 ⟨_, List.getElem_mem h6, rfl⟩) _ (by simp [wA, AV.cl])
    clear h
    obtain ⟨x, hx⟩ : ∃ x, ws[i] = x := ⟨_, rfl⟩
    rw [hx] at g1 g2 g4 g5 g7
    simp only [hx] at g6
    refine WA.seq ?_
    refine WA.block ?_
    refine WA.regionK ty_ok hs fun K hK => ?_
    simp only [go_sem, Nat.reduceAdd, Nat.reduceLT, Nat.reduceLeDiff, Nat.reduceEqDiff, Nat.reduceSub, Nat.reduceMul, Nat.reduceBEq, Nat.reduceBNe, Nat.reducePow, Nat.reduceDiv, Int.reduceLE, Int.reduceLT, Int.reduceToNat, Int.reduceNeg, Int.reduceAdd, Int.reduceSub, Int.reduceEq, reduceIte, reduceCtorEq, UInt8.reduceOfNat, sg8, g1]
    first
    | refine hK _ ?_
    | refine And.intro (by first | omega | (simp; done) | (simp; omega) | (simp +contextual; done) | (simp_all; done) | (simp_all; omega)) (hK _ ?_)
    clear hK K
    refine WA.regionK ty_ok hs fun K hK => ?_
    simp only [go_sem, Nat.reduceAdd, Nat.reduceLT, Nat.reduceLeDiff, Nat.reduceEqDiff, Nat.reduceSub, Nat.reduceMul, Nat.reduceBEq, Nat.reduceBNe, Nat.reducePow, Nat.reduceDiv, Int.reduceLE, Int.reduceLT, Int.reduceToNat, Int.reduceNeg, Int.reduceAdd, Int.reduceSub, Int.reduceEq, reduceIte, reduceCtorEq, UInt8.reduceOfNat, sg8]
    first
    | refine hK _ ?_
    | refine And.intro (by first | omega | (simp; done) | (simp; omega) | (simp +contextual; done) | (simp_all; done) | (simp_all; omega)) (hK _ ?_)
    clear hK K
    refine WA.block ?_
    refine WA.loopW hX (fun k => k) ((fun k => ⟨[(10, .ptr 3024 0 0), (31, .by_ x.bytes), (32, .lit (.int .i64 (x.bytes.length : Nat))), (33, .lit (.int .i64 (k : Nat))), (26, .lit (.int .i64 (i : Nat))), (25, .lit (.int .i64 (ws.length : Nat))), (24, .li 3 (ws.map wA)), (8, .lit (.int .i64 (dnW (bS (ws.take i) + k)))), (7, .ptr 2096 0 0), (6, .ptr 2008 0 0), (2, .lit (.int .i64 cut))], [(3024, ⟨.li 3 [.agg [.lit (.int .i64 x.slot), .lit (.int .i64 x.at_), .by_ x.bytes]], 0, false⟩), (2096, ⟨.li 2 [.agg [.sl 2040 1 0 a.length, .sl 2072 1 0 b.length]], 0, false⟩), (2072, ⟨.by_ (apS (a, b) (sq (ws.take i) ++ sqI x k)).2, 0, false⟩), (2040, ⟨.by_ (apS (a, b) (sq (ws.take i) ++ sqI x k)).1, 0, false⟩), (2008, ⟨.li 2 [.agg [.lit (.slice none 0 0), .lit (.slice none 0 0)]], 0, false⟩)], 5000, 90⟩ : Nat → St)) (fun k => x.bytes.length - k) (fun k => k ≤ x.bytes.length ∧ ((bS (ws.take i) + k : Nat) : Int) ≤ cut % 18446744073709551616) (i0 := 0) (⟨by omega, hcut⟩) (by simp only [go_sem, Int.natCast_add, Nat.reduceAdd, Nat.reduceLT, Nat.reduceLeDiff, Nat.reduceEqDiff, Nat.reduceSub, Nat.reduceMul, Nat.reduceBEq, Nat.reduceBNe, Nat.reducePow, Nat.reduceDiv, Int.reduceLE, Int.reduceLT, Int.reduceToNat, Int.reduceNeg, Int.reduceAdd, Int.reduceSub, Int.reduceEq, reduceIte, reduceCtorEq, UInt8.reduceOfNat, Tr_wr, sqI, List.range_zero, List.map_nil, List.append_nil, Nat.add_zero] <;> (try and_intros) <;> (try omega)) fun k hk => ?_
    obtain ⟨hk, hcut2⟩ := hk
    refine WA.regionK ty_ok hs fun K hK => ?_
    simp only [go_sem, Nat.reduceAdd, Nat.reduceLT, Nat.reduceLeDiff, Nat.reduceEqDiff, Nat.reduceSub, Nat.reduceMul, Nat.reduceBEq, Nat.reduceBNe, Nat.reducePow, Nat.reduceDiv, Int.reduceLE, Int.reduceLT, Int.reduceToNat, Int.reduceNeg, Int.reduceAdd, Int.reduceSub, Int.reduceEq, reduceIte, reduceCtorEq, UInt8.reduceOfNat, sg8]
    first
    | refine hK _ ?_
    | refine And.intro (by first | omega | (simp; done) | (simp; omega) | (simp +contextual; done) | (simp_all; done) | (simp_all; omega)) (hK _ ?_)
    clear hK K
    refine WA.seq ?_
    refine WA.cond rfl (fun h => ?_) (fun h => ?_)
    ·
      with_reducible refine WA.skipN ?_
      repeat first | with_reducible refine WN.t ?_ | with_reducible refine WN.b ?_
      have h7 : k < x.bytes.length := by have := of_decide_eq_true h; omega
      have ek : IntKind.i64.wrap ((k : Int) + 1) = (k : Int) + 1 := wrap_i64 (by omega) (by omega)
      have l1 := (apS_length (sq (ws.take i) ++ sqI x k) (a, b)).1
      have l2 := (apS_length (sq (ws.take i) ++ sqI x k) (a, b)).2
      have t1 := List.take_of_length_le (Nat.le_of_eq l1)
      have t2 := List.take_of_length_le (Nat.le_of_eq l2)
      simp only at l1 l2 t1 t2
      have hp : apS (a, b) (sq (ws.take i) ++ sqI x (k + 1)) = putB (apS (a, b) (sq (ws.take i) ++ sqI x k)) (x, k) := by
        rw [sqI_succ, ← List.append_assoc, apS_append]
        rfl
      clear h
      refine WA.seq ?_
      refine WA.block ?_
      refine WA.regionK ty_ok hs fun K hK => ?_
      simp only [go_sem, Nat.reduceAdd, Nat.reduceLT, Nat.reduceLeDiff, Nat.reduceEqDiff, Nat.reduceSub, Nat.reduceMul, Nat.reduceBEq, Nat.reduceBNe, Nat.reducePow, Nat.reduceDiv, Int.reduceLE, Int.reduceLT, Int.reduceToNat, Int.reduceNeg, Int.reduceAdd, Int.reduceSub, Int.reduceEq, reduceIte, reduceCtorEq, UInt8.reduceOfNat, sg8, h7]
      first
      | refine hK _ ?_
      | refine And.intro (by first | omega | (simp; done) | (simp; omega) | (simp +contextual; done) | (simp_all; done) | (simp_all; omega)) (hK _ ?_)
      clear hK K
      refine WA.seq ?_
      refine WA.regionK ty_ok hs fun K hK => ?_
      simp only [go_sem, Nat.reduceAdd, Nat.reduceLT, Nat.reduceLeDiff, Nat.reduceEqDiff, Nat.reduceSub, Nat.reduceMul, Nat.reduceBEq, Nat.reduceBNe, Nat.reducePow, Nat.reduceDiv, Int.reduceLE, Int.reduceLT, Int.reduceToNat, Int.reduceNeg, Int.reduceAdd, Int.reduceSub, Int.reduceEq, reduceIte, reduceCtorEq, UInt8.reduceOfNat, sg8]
      first
      | refine hK _ ?_
      | refine And.intro (by first | omega | (simp; done) | (simp; omega) | (simp +contextual; done) | (simp_all; done) | (simp_all; omega)) (hK _ ?_)
      clear hK K
      refine WA.cond rfl (fun h => ?_) (fun h => ?_)
      ·
        have hc := (dn_iff hcc hcut2).1 (eq_of_beq h)
        have e := g6 k h7 hc
        refine WA.regionK ty_ok hs fun K hK => ?_
        simp only [go_sem, Nat.reduceAdd, Nat.reduceLT, Nat.reduceLeDiff, Nat.reduceEqDiff, Nat.reduceSub, Nat.reduceMul, Nat.reduceBEq, Nat.reduceBNe, Nat.reducePow, Nat.reduceDiv, Int.reduceLE, Int.reduceLT, Int.reduceToNat, Int.reduceNeg, Int.reduceAdd, Int.reduceSub, Int.reduceEq, reduceIte, reduceCtorEq, UInt8.reduceOfNat, sg8]
        first
        | refine hK _ ?_
        | refine And.intro (by first | omega | (simp; done) | (simp; omega) | (simp +contextual; done) | (simp_all; done) | (simp_all; omega)) (hK _ ?_)
        clear hK K
        refine WA.retE ty_ok (xs := [.agg [.by_ (apRw a b ws cut).1, .by_ (apRw a b ws cut).2]]) (ls' := []) (rv := [.cell 6 25]) rfl hX (by decide) (fun _ => rfl) (fun _ _ h => h) ?_
        simp only [go_sem, Nat.reduceAdd, Nat.reduceLT, Nat.reduceLeDiff, Nat.reduceEqDiff, Nat.reduceSub, Nat.reduceMul, Nat.reduceBEq, Nat.reduceBNe, Nat.reducePow, Nat.reduceDiv, Int.reduceLE, Int.reduceLT, Int.reduceToNat, Int.reduceNeg, Int.reduceAdd, Int.reduceSub, Int.reduceEq, reduceIte, reduceCtorEq, UInt8.reduceOfNat, sbT, apRw, e, l1, l2, t1, t2, Nat.le_refl]
      ·
        with_reducible refine WA.skipN ?_
        repeat first | with_reducible refine WN.t ?_ | with_reducible refine WN.b ?_
        have hc : ¬ ((bS (ws.take i) + k : Nat) : Int) = cut % 18446744073709551616 := by
          intro q
          rw [(dn_iff hcc hcut2).2 q] at h
          simp at h
        refine WA.regionK ty_ok hs fun K hK => ?_
        simp only [go_sem, Nat.reduceAdd, Nat.reduceLT, Nat.reduceLeDiff, Nat.reduceEqDiff, Nat.reduceSub, Nat.reduceMul, Nat.reduceBEq, Nat.reduceBNe, Nat.reducePow, Nat.reduceDiv, Int.reduceLE, Int.reduceLT, Int.reduceToNat, Int.reduceNeg, Int.reduceAdd, Int.reduceSub, Int.reduceEq, reduceIte, reduceCtorEq, UInt8.reduceOfNat, sg8, dn_succ]
        first
        | refine hK _ ?_
        | refine And.intro (by first | omega | (simp; done) | (simp; omega) | (simp +contextual; done) | (simp_all; done) | (simp_all; omega)) (hK _ ?_)
        clear hK K
        refine WA.seq ?_
        rcases (show x.slot = 0 ∨ x.slot = 1 ∨ x.slot < 0 ∨ x.slot ≥ 2 by omega) with hs0 | hs0 | hs0 | hs0
        ·
          refine WA.drawnK mixed_ ty_ok hs (tbl := [[], [0], [0, 1], [0, 1, 2], [0, 1, 2, 3], [0, 1, 2, 3, 4], [0, 1, 2, 3, 4, 5], [0, 1, 2, 3, 4, 5, 6], [0, 1, 2, 3, 4, 5, 6, 7], [0, 1, 2, 3, 4, 5, 6, 7, 8], [0, 1, 2, 3, 4, 5, 6, 7, 8, 9], [0, 1, 2, 3, 4, 5, 6, 7, 8], [0, 1, 2, 3, 4, 5, 6, 7, 8, 11], [0, 1, 2, 3, 4, 5, 6, 7, 8], [0, 1, 2, 3, 4, 5, 6, 7, 8, 11, 12, 13], [0, 1, 2, 3, 4, 5, 6, 7, 8, 11, 12, 13, 14], [0, 1, 2, 3, 4, 5, 6, 7, 8, 11, 12, 13, 14, 15], [0, 1, 2, 3, 4, 5, 6, 7, 8, 9, 10, 11, 12, 13, 14, 15, 16], [0, 1, 2, 3, 4, 5, 6, 7, 8, 9, 10, 11, 12, 13, 14, 15, 16, 17]]) (nb := [1, 5, 10, 12, 15]) (by kernel_rfl) fun K hK => ?_
          simp only [go_sem, Nat.reduceAdd, Nat.reduceLT, Nat.reduceLeDiff, Nat.reduceEqDiff, Nat.reduceSub, Nat.reduceMul, Nat.reduceBEq, Nat.reduceBNe, Nat.reducePow, Nat.reduceDiv, Int.reduceLE, Int.reduceLT, Int.reduceToNat, Int.reduceNeg, Int.reduceAdd, Int.reduceSub, Int.reduceEq, reduceIte, reduceCtorEq, UInt8.reduceOfNat, sg8, hs0]
          first
          | refine hK _ ?_
          | refine And.intro (by first | omega | (simp; done) | (simp; omega) | (simp +contextual; done) | (simp_all; done) | (simp_all; omega)) (hK _ ?_)
          clear hK K
          refine WA.cond rfl (fun h => ?_) (fun h => ?_)
          ·
            have h8 := of_decide_eq_true h
            have hq : putB (apS (a, b) (sq (ws.take i) ++ sqI x k)) (x, k) = (apS (a, b) (sq (ws.take i) ++ sqI x k)) := by
              rw [putB0 hs0, setB_no (by rw [l1]; omega)]
            rw [hq] at hp
            with_reducible refine WA.exitX ?_
            repeat first | with_reducible refine WX.b ?_ | with_reducible refine WX.t ?_ | (with_reducible refine WX.n ?hne ?_; case hne => rfl)
            refine WA.regionE ty_ok hs fun K hK => ?_
            simp only [go_sem, Nat.reduceAdd, Nat.reduceLT, Nat.reduceLeDiff, Nat.reduceEqDiff, Nat.reduceSub, Nat.reduceMul, Nat.reduceBEq, Nat.reduceBNe, Nat.reducePow, Nat.reduceDiv, Int.reduceLE, Int.reduceLT, Int.reduceToNat, Int.reduceNeg, Int.reduceAdd, Int.reduceSub, Int.reduceEq, reduceIte, reduceCtorEq, UInt8.reduceOfNat, sg8, ei, ek, dn_succ]
            and_intros
            all_goals try omega
            refine hK _ (roundE hX (fun k => k) (j := k + 1) (⟨by omega, by omega⟩) (by omega) (by simp only [go_sem, Int.natCast_add, Nat.reduceAdd, Nat.reduceLT, Nat.reduceLeDiff, Nat.reduceEqDiff, Nat.reduceSub, Nat.reduceMul, Nat.reduceBEq, Nat.reduceBNe, Nat.reducePow, Nat.reduceDiv, Int.reduceLE, Int.reduceLT, Int.reduceToNat, Int.reduceNeg, Int.reduceAdd, Int.reduceSub, Int.reduceEq, reduceIte, reduceCtorEq, UInt8.reduceOfNat, Tr_wr, hp, Nat.add_assoc] <;> (try and_intros) <;> (try omega)))
          ·
            have h8 := of_decide_eq_false h
            with_reducible refine WA.skipN ?_
            repeat first | with_reducible refine WN.t ?_ | with_reducible refine WN.b ?_
            obtain ⟨v, hv, v1, v2⟩ : ∃ v, IntKind.i64.wrap (x.at_ + (k : Int)) = v ∧ ((0 ≤ v ∧ v < (a.length : Nat)) → v = x.at_ + (k : Int)) ∧ ((0 ≤ x.at_ + (k : Int) ∧ x.at_ + (k : Int) < (a.length : Nat)) → v = x.at_ + (k : Int)) := ⟨_, rfl, by rw [IntKind.wrap_i64]; omega, by rw [IntKind.wrap_i64]; omega⟩
            refine WA.regionK ty_ok hs fun K hK => ?_
            simp only [go_sem, Nat.reduceAdd, Nat.reduceLT, Nat.reduceLeDiff, Nat.reduceEqDiff, Nat.reduceSub, Nat.reduceMul, Nat.reduceBEq, Nat.reduceBNe, Nat.reducePow, Nat.reduceDiv, Int.reduceLE, Int.reduceLT, Int.reduceToNat, Int.reduceNeg, Int.reduceAdd, Int.reduceSub, Int.reduceEq, reduceIte, reduceCtorEq, UInt8.reduceOfNat, sg8, hv]
            first
            | refine hK _ ?_
            | refine And.intro (by first | omega | (simp; done) | (simp; omega) | (simp +contextual; done) | (simp_all; done) | (simp_all; omega)) (hK _ ?_)
            clear hK K
            refine WA.regionK ty_ok hs fun K hK => ?_
            simp only [go_sem, Nat.reduceAdd, Nat.reduceLT, Nat.reduceLeDiff, Nat.reduceEqDiff, Nat.reduceSub, Nat.reduceMul, Nat.reduceBEq, Nat.reduceBNe, Nat.reducePow, Nat.reduceDiv, Int.reduceLE, Int.reduceLT, Int.reduceToNat, Int.reduceNeg, Int.reduceAdd, Int.reduceSub, Int.reduceEq, reduceIte, reduceCtorEq, UInt8.reduceOfNat, sg8, hs0]
            first
            | refine hK _ ?_
            | refine And.intro (by first | omega | (simp; done) | (simp; omega) | (simp +contextual; done) | (simp_all; done) | (simp_all; omega)) (hK _ ?_)
            clear hK K
            refine WA.cond rfl (fun h => ?_) (fun h => ?_)
            ·
              have h9 : 0 ≤ v ∧ v < (a.length : Nat) := by
                cases q1 : decide (v ≥ 0) with
                | false => rw [q1] at h; cases h
                | true =>
                  rw [q1] at h
                  exact ⟨of_decide_eq_true q1, of_decide_eq_true h⟩
              obtain rfl := v1 h9
              have hq : putB (apS (a, b) (sq (ws.take i) ++ sqI x k)) (x, k) = ((apS (a, b) (sq (ws.take i) ++ sqI x k)).1.set (x.at_ + (k : Int)).toNat (x.bytes.getD k 0), (apS (a, b) (sq (ws.take i) ++ sqI x k)).2) := by
                rw [putB0 hs0, setB_yes (by rw [l1]; omega)]
              rw [hq] at hp
              refine WA.regionE ty_ok hs fun K hK => ?_
              simp only [go_sem, Nat.reduceAdd, Nat.reduceLT, Nat.reduceLeDiff, Nat.reduceEqDiff, Nat.reduceSub, Nat.reduceMul, Nat.reduceBEq, Nat.reduceBNe, Nat.reducePow, Nat.reduceDiv, Int.reduceLE, Int.reduceLT, Int.reduceToNat, Int.reduceNeg, Int.reduceAdd, Int.reduceSub, Int.reduceEq, reduceIte, reduceCtorEq, UInt8.reduceOfNat, sg8, hs0, l1]
              and_intros
              all_goals try omega
              with_reducible refine hK _ (WN.mk ?_)
              clear hK K
              repeat first | with_reducible refine WN.t ?_ | with_reducible refine WN.b ?_
              refine WA.regionE ty_ok hs fun K hK => ?_
              simp only [go_sem, Nat.reduceAdd, Nat.reduceLT, Nat.reduceLeDiff, Nat.reduceEqDiff, Nat.reduceSub, Nat.reduceMul, Nat.reduceBEq, Nat.reduceBNe, Nat.reducePow, Nat.reduceDiv, Int.reduceLE, Int.reduceLT, Int.reduceToNat, Int.reduceNeg, Int.reduceAdd, Int.reduceSub, Int.reduceEq, reduceIte, reduceCtorEq, UInt8.reduceOfNat, sg8, ei, ek, dn_succ]
              and_intros
              all_goals try omega
              refine hK _ (roundE hX (fun k => k) (j := k + 1) (⟨by omega, by omega⟩) (by omega) (by simp only [go_sem, Int.natCast_add, Nat.reduceAdd, Nat.reduceLT, Nat.reduceLeDiff, Nat.reduceEqDiff, Nat.reduceSub, Nat.reduceMul, Nat.reduceBEq, Nat.reduceBNe, Nat.reducePow, Nat.reduceDiv, Int.reduceLE, Int.reduceLT, Int.reduceToNat, Int.reduceNeg, Int.reduceAdd, Int.reduceSub, Int.reduceEq, reduceIte, reduceCtorEq, UInt8.reduceOfNat, Tr_wr, hp, Nat.add_assoc] <;> (try and_intros) <;> (try omega)))
            ·
              have h9 : ¬(0 ≤ x.at_ + (k : Int) ∧ x.at_ + (k : Int) < (a.length : Nat)) := by
                intro q
                rw [v2 q, decide_eq_true (show x.at_ + (k : Int) ≥ 0 from q.1)] at h
                have := of_decide_eq_false h
                omega
              have hq : putB (apS (a, b) (sq (ws.take i) ++ sqI x k)) (x, k) = (apS (a, b) (sq (ws.take i) ++ sqI x k)) := by
                rw [putB0 hs0, setB_no (by rw [l1]; omega)]
              rw [hq] at hp
              with_reducible refine WA.skipN ?_
              repeat first | with_reducible refine WN.t ?_ | with_reducible refine WN.b ?_
              refine WA.regionE ty_ok hs fun K hK => ?_
              simp only [go_sem, Nat.reduceAdd, Nat.reduceLT, Nat.reduceLeDiff, Nat.reduceEqDiff, Nat.reduceSub, Nat.reduceMul, Nat.reduceBEq, Nat.reduceBNe, Nat.reducePow, Nat.reduceDiv, Int.reduceLE, Int.reduceLT, Int.reduceToNat, Int.reduceNeg, Int.reduceAdd, Int.reduceSub, Int.reduceEq, reduceIte, reduceCtorEq, UInt8.reduceOfNat, sg8, ei, ek, dn_succ]
              and_intros
              all_goals try omega
              refine hK _ (roundE hX (fun k => k) (j := k + 1) (⟨by omega, by omega⟩) (by omega) (by simp only [go_sem, Int.natCast_add, Nat.reduceAdd, Nat.reduceLT, Nat.reduceLeDiff, Nat.reduceEqDiff, Nat.reduceSub, Nat.reduceMul, Nat.reduceBEq, Nat.reduceBNe, Nat.reducePow, Nat.reduceDiv, Int.reduceLE, Int.reduceLT, Int.reduceToNat, Int.reduceNeg, Int.reduceAdd, Int.reduceSub, Int.reduceEq, reduceIte, reduceCtorEq, UInt8.reduceOfNat, Tr_wr, hp, Nat.add_assoc] <;> (try and_intros) <;> (try omega)))
        ·
          refine WA.drawnK mixed_ ty_ok hs (tbl := [[], [0], [0, 1], [0, 1, 2], [0, 1, 2, 3], [0, 1, 2, 3, 4], [0, 1, 2, 3, 4, 5], [0, 1, 2, 3, 4, 5, 6], [0, 1, 2, 3, 4, 5, 6, 7], [0, 1, 2, 3, 4, 5, 6, 7, 8], [0, 1, 2, 3, 4, 5, 6, 7, 8, 9], [0, 1, 2, 3, 4, 5, 6, 7, 8], [0, 1, 2, 3, 4, 5, 6, 7, 8, 11], [0, 1, 2, 3, 4, 5, 6, 7, 8], [0, 1, 2, 3, 4, 5, 6, 7, 8, 11, 12, 13], [0, 1, 2, 3, 4, 5, 6, 7, 8, 11, 12, 13, 14], [0, 1, 2, 3, 4, 5, 6, 7, 8, 11, 12, 13, 14, 15], [0, 1, 2, 3, 4, 5, 6, 7, 8, 9, 10, 11, 12, 13, 14, 15, 16], [0, 1, 2, 3, 4, 5, 6, 7, 8, 9, 10, 11, 12, 13, 14, 15, 16, 17]]) (nb := [1, 5, 10, 12, 15]) (by kernel_rfl) fun K hK => ?_
          simp only [go_sem, Nat.reduceAdd, Nat.reduceLT, Nat.reduceLeDiff, Nat.reduceEqDiff, Nat.reduceSub, Nat.reduceMul, Nat.reduceBEq, Nat.reduceBNe, Nat.reducePow, Nat.reduceDiv, Int.reduceLE, Int.reduceLT, Int.reduceToNat, Int.reduceNeg, Int.reduceAdd, Int.reduceSub, Int.reduceEq, reduceIte, reduceCtorEq, UInt8.reduceOfNat, sg8, hs0]
          first
          | refine hK _ ?_
          | refine And.intro (by first | omega | (simp; done) | (simp; omega) | (simp +contextual; done) | (simp_all; done) | (simp_all; omega)) (hK _ ?_)
          clear hK K
          refine WA.cond rfl (fun h => ?_) (fun h => ?_)
          ·
            have h8 := of_decide_eq_true h
            have hq : putB (apS (a, b) (sq (ws.take i) ++ sqI x k)) (x, k) = (apS (a, b) (sq (ws.take i) ++ sqI x k)) := by
              rw [putB1 hs0, setB_no (by rw [l2]; omega)]
            rw [hq] at hp
            with_reducible refine WA.exitX ?_
            repeat first | with_reducible refine WX.b ?_ | with_reducible refine WX.t ?_ | (with_reducible refine WX.n ?hne ?_; case hne => rfl)
            refine WA.regionE ty_ok hs fun K hK => ?_
            simp only [go_sem, Nat.reduceAdd, Nat.reduceLT, Nat.reduceLeDiff, Nat.reduceEqDiff, Nat.reduceSub, Nat.reduceMul, Nat.reduceBEq, Nat.reduceBNe, Nat.reducePow, Nat.reduceDiv, Int.reduceLE, Int.reduceLT, Int.reduceToNat, Int.reduceNeg, Int.reduceAdd, Int.reduceSub, Int.reduceEq, reduceIte, reduceCtorEq, UInt8.reduceOfNat, sg8, ei, ek, dn_succ]
            and_intros
            all_goals try omega
            refine hK _ (roundE hX (fun k => k) (j := k + 1) (⟨by omega, by omega⟩) (by omega) (by simp only [go_sem, Int.natCast_add, Nat.reduceAdd, Nat.reduceLT, Nat.reduceLeDiff, Nat.reduceEqDiff, Nat.reduceSub, Nat.reduceMul, Nat.reduceBEq, Nat.reduceBNe, Nat.reducePow, Nat.reduceDiv, Int.reduceLE, Int.reduceLT, Int.reduceToNat, Int.reduceNeg, Int.reduceAdd, Int.reduceSub, Int.reduceEq, reduceIte, reduceCtorEq, UInt8.reduceOfNat, Tr_wr, hp, Nat.add_assoc] <;> (try and_intros) <;> (try omega)))
          ·
            have h8 := of_decide_eq_false h
            with_reducible refine WA.skipN ?_
            repeat first | with_reducible refine WN.t ?_ | with_reducible refine WN.b ?_
            obtain ⟨v, hv, v1, v2⟩ : ∃ v, IntKind.i64.wrap (x.at_ + (k : Int)) = v ∧ ((0 ≤ v ∧ v < (b.length : Nat)) → v = x.at_ + (k : Int)) ∧ ((0 ≤ x.at_ + (k : Int) ∧ x.at_ + (k : Int) < (b.length : Nat)) → v = x.at_ + (k : Int)) := ⟨_, rfl, by rw [IntKind.wrap_i64]; omega, by rw [IntKind.wrap_i64]; omega⟩
            refine WA.regionK ty_ok hs fun K hK => ?_
            simp only [go_sem, Nat.reduceAdd, Nat.reduceLT, Nat.reduceLeDiff, Nat.reduceEqDiff, Nat.reduceSub, Nat.reduceMul, Nat.reduceBEq, Nat.reduceBNe, Nat.reducePow, Nat.reduceDiv, Int.reduceLE, Int.reduceLT, Int.reduceToNat, Int.reduceNeg, Int.reduceAdd, Int.reduceSub, Int.reduceEq, reduceIte, reduceCtorEq, UInt8.reduceOfNat, sg8, hv]
            first
            | refine hK _ ?_
            | refine And.intro (by first | omega | (simp; done) | (simp; omega) | (simp +contextual; done) | (simp_all; done) | (simp_all; omega)) (hK _ ?_)
            clear hK K
            refine WA.regionK ty_ok hs fun K hK => ?_
            simp only [go_sem, Nat.reduceAdd, Nat.reduceLT, Nat.reduceLeDiff, Nat.reduceEqDiff, Nat.reduceSub, Nat.reduceMul, Nat.reduceBEq, Nat.reduceBNe, Nat.reducePow, Nat.reduceDiv, Int.reduceLE, Int.reduceLT, Int.reduceToNat, Int.reduceNeg, Int.reduceAdd, Int.reduceSub, Int.reduceEq, reduceIte, reduceCtorEq, UInt8.reduceOfNat, sg8, hs0]
            first
            | refine hK _ ?_
            | refine And.intro (by first | omega | (simp; done) | (simp; omega) | (simp +contextual; done) | (simp_all; done) | (simp_all; omega)) (hK _ ?_)
            clear hK K
            refine WA.cond rfl (fun h => ?_) (fun h => ?_)
            ·
              have h9 : 0 ≤ v ∧ v < (b.length : Nat) := by
                cases q1 : decide (v ≥ 0) with
                | false => rw [q1] at h; cases h
                | true =>
                  rw [q1] at h
                  exact ⟨of_decide_eq_true q1, of_decide_eq_true h⟩
              obtain rfl := v1 h9
              have hq : putB (apS (a, b) (sq (ws.take i) ++ sqI x k)) (x, k) = ((apS (a, b) (sq (ws.take i) ++ sqI x k)).1, (apS (a, b) (sq (ws.take i) ++ sqI x k)).2.set (x.at_ + (k : Int)).toNat (x.bytes.getD k 0)) := by
                rw [putB1 hs0, setB_yes (by rw [l2]; omega)]
              rw [hq] at hp
              refine WA.regionE ty_ok hs fun K hK => ?_
              simp only [go_sem, Nat.reduceAdd, Nat.reduceLT, Nat.reduceLeDiff, Nat.reduceEqDiff, Nat.reduceSub, Nat.reduceMul, Nat.reduceBEq, Nat.reduceBNe, Nat.reducePow, Nat.reduceDiv, Int.reduceLE, Int.reduceLT, Int.reduceToNat, Int.reduceNeg, Int.reduceAdd, Int.reduceSub, Int.reduceEq, reduceIte, reduceCtorEq, UInt8.reduceOfNat, sg8, hs0, l2]
              and_intros
              all_goals try omega
              with_reducible refine hK _ (WN.mk ?_)
              clear hK K
              repeat first | with_reducible refine WN.t ?_ | with_reducible refine WN.b ?_
              refine WA.regionE ty_ok hs fun K hK => ?_
              simp only [go_sem, Nat.reduceAdd, Nat.reduceLT, Nat.reduceLeDiff, Nat.reduceEqDiff, Nat.reduceSub, Nat.reduceMul, Nat.reduceBEq, Nat.reduceBNe, Nat.reducePow, Nat.reduceDiv, Int.reduceLE, Int.reduceLT, Int.reduceToNat, Int.reduceNeg, Int.reduceAdd, Int.reduceSub, Int.reduceEq, reduceIte, reduceCtorEq, UInt8.reduceOfNat, sg8, ei, ek, dn_succ]
              and_intros
              all_goals try omega
              refine hK _ (roundE hX (fun k => k) (j := k + 1) (⟨by omega, by omega⟩) (by omega) (by simp only [go_sem, Int.natCast_add, Nat.reduceAdd, Nat.reduceLT, Nat.reduceLeDiff, Nat.reduceEqDiff, Nat.reduceSub, Nat.reduceMul, Nat.reduceBEq, Nat.reduceBNe, Nat.reducePow, Nat.reduceDiv, Int.reduceLE, Int.reduceLT, Int.reduceToNat, Int.reduceNeg, Int.reduceAdd, Int.reduceSub, Int.reduceEq, reduceIte, reduceCtorEq, UInt8.reduceOfNat, Tr_wr, hp, Nat.add_assoc] <;> (try and_intros) <;> (try omega)))
            ·
              have h9 : ¬(0 ≤ x.at_ + (k : Int) ∧ x.at_ + (k : Int) < (b.length : Nat)) := by
                intro q
                rw [v2 q, decide_eq_true (show x.at_ + (k : Int) ≥ 0 from q.1)] at h
                have := of_decide_eq_false h
                omega
              have hq : putB (apS (a, b) (sq (ws.take i) ++ sqI x k)) (x, k) = (apS (a, b) (sq (ws.take i) ++ sqI x k)) := by
                rw [putB1 hs0, setB_no (by rw [l2]; omega)]
              rw [hq] at hp
              with_reducible refine WA.skipN ?_
              repeat first | with_reducible refine WN.t ?_ | with_reducible refine WN.b ?_
              refine WA.regionE ty_ok hs fun K hK => ?_
              simp only [go_sem, Nat.reduceAdd, Nat.reduceLT, Nat.reduceLeDiff, Nat.reduceEqDiff, Nat.reduceSub, Nat.reduceMul, Nat.reduceBEq, Nat.reduceBNe, Nat.reducePow, Nat.reduceDiv, Int.reduceLE, Int.reduceLT, Int.reduceToNat, Int.reduceNeg, Int.reduceAdd, Int.reduceSub, Int.reduceEq, reduceIte, reduceCtorEq, UInt8.reduceOfNat, sg8, ei, ek, dn_succ]
              and_intros
              all_goals try omega
              refine hK _ (roundE hX (fun k => k) (j := k + 1) (⟨by omega, by omega⟩) (by omega) (by simp only [go_sem, Int.natCast_add, Nat.reduceAdd, Nat.reduceLT, Nat.reduceLeDiff, Nat.reduceEqDiff, Nat.reduceSub, Nat.reduceMul, Nat.reduceBEq, Nat.reduceBNe, Nat.reducePow, Nat.reduceDiv, Int.reduceLE, Int.reduceLT, Int.reduceToNat, Int.reduceNeg, Int.reduceAdd, Int.reduceSub, Int.reduceEq, reduceIte, reduceCtorEq, UInt8.reduceOfNat, Tr_wr, hp, Nat.add_assoc] <;> (try and_intros) <;> (try omega)))
        ·
          have hq : putB (apS (a, b) (sq (ws.take i) ++ sqI x k)) (x, k) = (apS (a, b) (sq (ws.take i) ++ sqI x k)) := putBn (by omega) (by omega)
          rw [hq] at hp
          have f1 : x.slot.toNat = 0 := by omega
          have f2 : (x.slot < 0) = True := eq_true hs0
          refine WA.drawnK mixed_ ty_ok hs (tbl := [[], [0], [0, 1], [0, 1, 2], [0, 1, 2, 3], [0, 1, 2, 3, 4], [0, 1, 2, 3, 4, 5], [0, 1, 2, 3, 4, 5, 6], [0, 1, 2, 3, 4, 5, 6, 7], [0, 1, 2, 3, 4, 5, 6, 7, 8], [0, 1, 2, 3, 4, 5, 6, 7, 8, 9], [0, 1, 2, 3, 4, 5, 6, 7, 8], [0, 1, 2, 3, 4, 5, 6, 7, 8, 11], [0, 1, 2, 3, 4, 5, 6, 7, 8], [0, 1, 2, 3, 4, 5, 6, 7, 8, 11, 12, 13], [0, 1, 2, 3, 4, 5, 6, 7, 8, 11, 12, 13, 14], [0, 1, 2, 3, 4, 5, 6, 7, 8, 11, 12, 13, 14, 15], [0, 1, 2, 3, 4, 5, 6, 7, 8, 9, 10, 11, 12, 13, 14, 15, 16], [0, 1, 2, 3, 4, 5, 6, 7, 8, 9, 10, 11, 12, 13, 14, 15, 16, 17]]) (nb := [1, 5, 10, 12, 15]) (by kernel_rfl) fun K hK => ?_
          simp only [go_sem, Nat.reduceAdd, Nat.reduceLT, Nat.reduceLeDiff, Nat.reduceEqDiff, Nat.reduceSub, Nat.reduceMul, Nat.reduceBEq, Nat.reduceBNe, Nat.reducePow, Nat.reduceDiv, Int.reduceLE, Int.reduceLT, Int.reduceToNat, Int.reduceNeg, Int.reduceAdd, Int.reduceSub, Int.reduceEq, reduceIte, reduceCtorEq, UInt8.reduceOfNat, sg8, f1, f2]
          first
          | refine hK _ ?_
          | refine And.intro (by first | omega | (simp; done) | (simp; omega) | (simp +contextual; done) | (simp_all; done) | (simp_all; omega)) (hK _ ?_)
          clear hK K
          refine WA.cond rfl (fun h => ?_) (fun h => by cases h)
          with_reducible refine WA.exitX ?_
          repeat first | with_reducible refine WX.b ?_ | with_reducible refine WX.t ?_ | (with_reducible refine WX.n ?hne ?_; case hne => rfl)
          refine WA.regionE ty_ok hs fun K hK => ?_
          simp only [go_sem, Nat.reduceAdd, Nat.reduceLT, Nat.reduceLeDiff, Nat.reduceEqDiff, Nat.reduceSub, Nat.reduceMul, Nat.reduceBEq, Nat.reduceBNe, Nat.reducePow, Nat.reduceDiv, Int.reduceLE, Int.reduceLT, Int.reduceToNat, Int.reduceNeg, Int.reduceAdd, Int.reduceSub, Int.reduceEq, reduceIte, reduceCtorEq, UInt8.reduceOfNat, sg8, ei, ek, dn_succ]
          and_intros
          all_goals try omega
          refine hK _ (roundE hX (fun k => k) (j := k + 1) (⟨by omega, by omega⟩) (by omega) (by simp only [go_sem, Int.natCast_add, Nat.reduceAdd, Nat.reduceLT, Nat.reduceLeDiff, Nat.reduceEqDiff, Nat.reduceSub, Nat.reduceMul, Nat.reduceBEq, Nat.reduceBNe, Nat.reducePow, Nat.reduceDiv, Int.reduceLE, Int.reduceLT, Int.reduceToNat, Int.reduceNeg, Int.reduceAdd, Int.reduceSub, Int.reduceEq, reduceIte, reduceCtorEq, UInt8.reduceOfNat, Tr_wr, hp, Nat.add_assoc] <;> (try and_intros) <;> (try omega)))
        ·
          have hq : putB (apS (a, b) (sq (ws.take i) ++ sqI x k)) (x, k) = (apS (a, b) (sq (ws.take i) ++ sqI x k)) := putBn (by omega) (by omega)
          rw [hq] at hp
          have f1 : ∀ (u v d : AV), [u, v].getD x.slot.toNat d = d := fun u v d => by simp [List.getD, List.getElem?_eq_none (show [u, v].length ≤ x.slot.toNat by simp; omega)]
          have f2 : (x.slot < 0) = False := eq_false (by omega)
          have f3 : (x.slot ≥ 2) = True := eq_true hs0
          refine WA.drawnK mixed_ ty_ok hs (tbl := [[], [0], [0, 1], [0, 1, 2], [0, 1, 2, 3], [0, 1, 2, 3, 4], [0, 1, 2, 3, 4, 5], [0, 1, 2, 3, 4, 5, 6], [0, 1, 2, 3, 4, 5, 6, 7], [0, 1, 2, 3, 4, 5, 6, 7, 8], [0, 1, 2, 3, 4, 5, 6, 7, 8, 9], [0, 1, 2, 3, 4, 5, 6, 7, 8], [0, 1, 2, 3, 4, 5, 6, 7, 8, 11], [0, 1, 2, 3, 4, 5, 6, 7, 8], [0, 1, 2, 3, 4, 5, 6, 7, 8, 11, 12, 13], [0, 1, 2, 3, 4, 5, 6, 7, 8, 11, 12, 13, 14], [0, 1, 2, 3, 4, 5, 6, 7, 8, 11, 12, 13, 14, 15], [0, 1, 2, 3, 4, 5, 6, 7, 8, 9, 10, 11, 12, 13, 14, 15, 16], [0, 1, 2, 3, 4, 5, 6, 7, 8, 9, 10, 11, 12, 13, 14, 15, 16, 17]]) (nb := [1, 5, 10, 12, 15]) (by kernel_rfl) fun K hK => ?_
          simp only [go_sem, Nat.reduceAdd, Nat.reduceLT, Nat.reduceLeDiff, Nat.reduceEqDiff, Nat.reduceSub, Nat.reduceMul, Nat.reduceBEq, Nat.reduceBNe, Nat.reducePow, Nat.reduceDiv, Int.reduceLE, Int.reduceLT, Int.reduceToNat, Int.reduceNeg, Int.reduceAdd, Int.reduceSub, Int.reduceEq, reduceIte, reduceCtorEq, UInt8.reduceOfNat, sg8, f1, f2, f3]
          first
          | refine hK _ ?_
          | refine And.intro (by first | omega | (simp; done) | (simp; omega) | (simp +contextual; done) | (simp_all; done) | (simp_all; omega)) (hK _ ?_)
          clear hK K
          refine WA.cond rfl (fun h => ?_) (fun h => by cases h)
          with_reducible refine WA.exitX ?_
          repeat first | with_reducible refine WX.b ?_ | with_reducible refine WX.t ?_ | (with_reducible refine WX.n ?hne ?_; case hne => rfl)
          refine WA.regionE ty_ok hs fun K hK => ?_
          simp only [go_sem, Nat.reduceAdd, Nat.reduceLT, Nat.reduceLeDiff, Nat.reduceEqDiff, Nat.reduceSub, Nat.reduceMul, Nat.reduceBEq, Nat.reduceBNe, Nat.reducePow, Nat.reduceDiv, Int.reduceLE, Int.reduceLT, Int.reduceToNat, Int.reduceNeg, Int.reduceAdd, Int.reduceSub, Int.reduceEq, reduceIte, reduceCtorEq, UInt8.reduceOfNat, sg8, ei, ek, dn_succ]
          and_intros
          all_goals try omega
          refine hK _ (roundE hX (fun k => k) (j := k + 1) (⟨by omega, by omega⟩) (by omega) (by simp only [go_sem, Int.natCast_add, Nat.reduceAdd, Nat.reduceLT, Nat.reduceLeDiff, Nat.reduceEqDiff, Nat.reduceSub, Nat.reduceMul, Nat.reduceBEq, Nat.reduceBNe, Nat.reducePow, Nat.reduceDiv, Int.reduceLE, Int.reduceLT, Int.reduceToNat, Int.reduceNeg, Int.reduceAdd, Int.reduceSub, Int.reduceEq, reduceIte, reduceCtorEq, UInt8.reduceOfNat, Tr_wr, hp, Nat.add_assoc] <;> (try and_intros) <;> (try omega)))
    ·
      with_reducible refine WA.exitX ?_
      repeat first | with_reducible refine WX.b ?_ | with_reducible refine WX.t ?_ | (with_reducible refine WX.n ?hne ?_; case hne => rfl)
      have h7 : k = x.bytes.length := by have := of_decide_eq_false h; omega
      subst h7
      refine WA.regionE ty_ok hs fun K hK => ?_
      simp only [go_sem, Nat.reduceAdd, Nat.reduceLT, Nat.reduceLeDiff, Nat.reduceEqDiff, Nat.reduceSub, Nat.reduceMul, Nat.reduceBEq, Nat.reduceBNe, Nat.reducePow, Nat.reduceDiv, Int.reduceLE, Int.reduceLT, Int.reduceToNat, Int.reduceNeg, Int.reduceAdd, Int.reduceSub, Int.reduceEq, reduceIte, reduceCtorEq, UInt8.reduceOfNat, sg8, ei]
      and_intros
      all_goals try omega
      refine hK _ (roundE hX (fun k => k) (j := i + 1) (⟨by omega, by rw [g2]; exact hcut2⟩) (by omega) (by simp only [go_sem, Int.natCast_add, Nat.reduceAdd, Nat.reduceLT, Nat.reduceLeDiff, Nat.reduceEqDiff, Nat.reduceSub, Nat.reduceMul, Nat.reduceBEq, Nat.reduceBNe, Nat.reducePow, Nat.reduceDiv, Int.reduceLE, Int.reduceLT, Int.reduceToNat, Int.reduceNeg, Int.reduceAdd, Int.reduceSub, Int.reduceEq, reduceIte, reduceCtorEq, UInt8.reduceOfNat, Tr_wr, g2, g4] <;> (try and_intros) <;> (try omega)))
  ·
    with_reducible refine WA.exitX ?_
    repeat first | with_reducible refine WX.b ?_ | with_reducible refine WX.t ?_ | (with_reducible refine WX.n ?hne ?_; case hne => rfl)
    have h6 : i = ws.length := by have := of_decide_eq_false h; omega
    subst h6
    rw [List.take_length] at hcut
    have e := apD_all hcut
    refine WA.regionK ty_ok hs fun K hK => ?_
    simp only [go_sem, Nat.reduceAdd, Nat.reduceLT, Nat.reduceLeDiff, Nat.reduceEqDiff, Nat.reduceSub, Nat.reduceMul, Nat.reduceBEq, Nat.reduceBNe, Nat.reducePow, Nat.reduceDiv, Int.reduceLE, Int.reduceLT, Int.reduceToNat, Int.reduceNeg, Int.reduceAdd, Int.reduceSub, Int.reduceEq, reduceIte, reduceCtorEq, UInt8.reduceOfNat, sg8]
    first
    | refine hK _ ?_
    | refine And.intro (by first | omega | (simp; done) | (simp; omega) | (simp +contextual; done) | (simp_all; done) | (simp_all; omega)) (hK _ ?_)
    clear hK K
    refine WA.retE ty_ok (xs := [.agg [.by_ (apRw a b ws cut).1, .by_ (apRw a b ws cut).2]]) (ls' := []) (rv := [.cell 6 25]) rfl hX (by decide) (fun _ => rfl) (fun _ _ h => h) ?_
    simp only [go_sem, Nat.reduceAdd, Nat.reduceLT, Nat.reduceLeDiff, Nat.reduceEqDiff, Nat.reduceSub, Nat.reduceMul, Nat.reduceBEq, Nat.reduceBNe, Nat.reducePow, Nat.reduceDiv, Int.reduceLE, Int.reduceLT, Int.reduceToNat, Int.reduceNeg, Int.reduceAdd, Int.reduceSub, Int.reduceEq, reduceIte, reduceCtorEq, UInt8.reduceOfNat, sbT, List.take_length, apRw, e, (apS_length (sq ws) (a, b)).1, (apS_length (sq ws) (a, b)).2]
    exact ⟨⟨Nat.le_refl _, Nat.le_refl _⟩, List.take_of_length_le (Nat.le_of_eq (apS_length (sq ws) (a, b)).1), List.take_of_length_le (Nat.le_of_eq (apS_length (sq ws) (a, b)).2)⟩
end Go.Proofs.Ytjhiagelgleomaa.Wrp
