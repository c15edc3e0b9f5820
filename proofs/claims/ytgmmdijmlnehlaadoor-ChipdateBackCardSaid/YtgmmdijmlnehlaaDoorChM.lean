import Derived.Test.YtgmmdijmlnehlaaDoorChL
namespace Go.Proofs.YtgmmdijmlnehlaaDoor
open Go.RowKit Go.TravelBase Go.TravelAbs
set_option linter.unusedVariables false
set_option linter.unusedSimpArgs false



















/-! ### The plain law of reading -/
theorem numS_be (n : Nat) : ∀ k, numS (beS n k) = n % p256 k := by
  have key : ∀ k, ∀ x : Nat, (beS n k).foldl (fun n b => n * 256 + b.toNat) x = x * p256 k + n % p256 k := by
    intro k
    induction k with
    | zero => intro x; simp [beS, p256, Nat.mod_one]
    | succ k ih =>
      intro x
      have e : beS n (k + 1) = UInt8.ofNat (n / p256 k) :: beS n k := rfl
      rw [e, List.foldl_cons, ih, UInt8.toNat_ofNat', p256_succ, Nat.add_mul]
      have h1 : n % (p256 k * 256) = n % p256 k + p256 k * (n / p256 k % 256) := Nat.mod_mul
      rw [h1, Nat.mul_assoc x, Nat.mul_comm 256 (p256 k), Nat.mul_comm (p256 k) (n / p256 k % 256), show (2 : Nat) ^ 8 = 256 from rfl]
      omega
  intro k
  have := key k 0
  simpa [numS] using this
theorem numV_3 {d : Int} (h : 0 ≤ d ∧ d ≤ 73048) : numV (le3 d) = d ∧ numS (le3 d) = d.toNat := by
  have e := numS_be d.toNat 3
  have p : p256 3 = 16777216 := by decide +kernel
  rw [← le3_be h.1, p, Nat.mod_eq_of_lt (by omega)] at e
  refine ⟨?_, e⟩
  unfold numV
  rw [if_neg (by simp [le3]), e]
  omega
theorem numV_2 {d : Int} (h : 0 ≤ d ∧ d ≤ 65535) : numV (le2 d) = d ∧ numS (le2 d) = d.toNat := by
  have e := numS_be d.toNat 2
  have p : p256 2 = 65536 := by decide +kernel
  rw [← le2_be h.1, p, Nat.mod_eq_of_lt (by omega)] at e
  refine ⟨?_, e⟩
  unfold numV
  rw [if_neg (by simp [le2]), e]
  omega
theorem numV_1 {n : Nat} (h : n ≤ 255) : numV [byt (n : Int)] = (n : Int) := by
  rw [byt_nat]
  simp only [numV, numS, List.length_cons, List.length_nil, List.foldl_cons, List.foldl_nil, UInt8.toNat_ofNat']
  rw [if_neg (by omega)]
  omega
theorem byt_one {n : Nat} (h : n ≤ 255) : (byt (n : Int)).toNat = n := by
  rw [byt_nat, UInt8.toNat_ofNat']
  omega
theorem elt_rng {x : Int} (h : eltB x = true) : 1 ≤ x ∧ x < 2147483579 := by
  unfold eltB at h
  simp only [Bool.and_eq_true, decide_eq_true_eq] at h
  have := resB_t h.1.1
  omega
theorem key_back {x : Int} (h : eltB x = true) : (encL x).length = 4 ∧ numV (encL x) = x ∧ numS (encL x) = x.toNat ∧ decV (encL x) = x ∧ decE (encL x) = 0 := by
  obtain ⟨h1, h2⟩ := elt_rng h
  have e0 : encL x = beS x.toNat 4 := if_pos h
  have e := numS_be x.toNat 4
  have p : p256 4 = 4294967296 := by decide +kernel
  rw [p, Nat.mod_eq_of_lt (by omega)] at e
  have l := length_beS x.toNat 4
  have v : numV (beS x.toNat 4) = x := by
    unfold numV
    rw [l, if_neg (by omega), e]
    omega
  rw [e0]
  refine ⟨l, v, e, ?_, ?_⟩
  · unfold decV
    rw [if_pos l, v, if_pos h]
  · unfold decE
    rw [if_pos l, v, if_pos h]
theorem pt_inj {p q : Pt} (hp : pointE p = 0) (hq : pointE q = 0) {x y : List UInt8} (h : encPt p ++ x = encPt q ++ y) : p = q ∧ x = y := by
  obtain ⟨p1, p2, p3, p4, p5⟩ := point_ok hp
  obtain ⟨q1, q2, q3, q4, q5⟩ := point_ok hq
  obtain ⟨k1, _, k2, _⟩ := key_back p2
  obtain ⟨j1, _, j2, _⟩ := key_back q2
  unfold encPt at h
  simp only [List.append_assoc, List.singleton_append] at h
  obtain ⟨h0, h⟩ := List.cons.inj h
  have h0 := congrArg UInt8.toNat h0
  rw [byt_one (by omega), byt_one (by omega)] at h0
  obtain ⟨h1, h⟩ := List.append_inj h h0
  obtain ⟨h2, h⟩ := List.append_inj h (by rw [k1, j1])
  obtain ⟨h3, h⟩ := List.append_inj h (by simp [le2])
  obtain ⟨h4, h⟩ := List.append_inj h (by simp [le3])
  obtain ⟨h5, h9⟩ := List.append_inj h (by simp [le3])
  have h2 := congrArg numS h2
  have h3 := congrArg numV h3
  have h4 := congrArg numV h4
  have h5 := congrArg numV h5
  obtain ⟨pa, pb, pc, pd, pe⟩ := p
  obtain ⟨qa, qb, qc, qd, qe⟩ := q
  simp only at *
  rw [(numV_2 p3).1, (numV_2 q3).1] at h3
  rw [(numV_3 p4).1, (numV_3 q4).1] at h4
  rw [(numV_3 p5).1, (numV_3 q5).1] at h5
  have a1 := elt_rng p2
  have a2 := elt_rng q2
  have h6 : pb = qb := by omega
  exact ⟨by rw [h1, h3, h4, h5, h6], h9⟩
theorem pts_inj : ∀ {l m : List Pt}, (∀ p ∈ l, pointE p = 0) → (∀ p ∈ m, pointE p = 0) → l.length = m.length → (l.map encPt).flatten = (m.map encPt).flatten → l = m
  | [], [], _, _, _, _ => rfl
  | [], _ :: _, _, _, h, _ => by simp at h
  | _ :: _, [], _, _, h, _ => by simp at h
  | p :: r, q :: t, h1, h2, h3, h4 => by
    simp only [List.map_cons, List.flatten_cons] at h4
    obtain ⟨e1, e2⟩ := pt_inj (h1 p (List.mem_cons_self ..)) (h2 q (List.mem_cons_self ..)) h4
    rw [e1, pts_inj (l := r) (m := t) (fun x hx => h1 x (List.mem_cons_of_mem _ hx)) (fun x hx => h2 x (List.mem_cons_of_mem _ hx)) (by simpa using h3) e2]
def okS (d : List UInt8) (s : Sto) : Prop := validE s = 0 ∧ encS s = d
def remS (s : Sto) (i : Nat) : List UInt8 := ((s.pts.drop i).map encPt).flatten
theorem enc_eq {d : List UInt8} {s : Sto} (h : okS d s) : d = le3 s.now ++ ([byt (s.pts.length : Nat)] ++ remS s 0) := by
  obtain ⟨h1, h2⟩ := h
  rw [← h2]
  unfold encS acE remS
  rw [if_pos h1, List.take_length, List.drop_zero, List.append_assoc]
theorem okS_inj {d : List UInt8} {s t : Sto} (h1 : okS d s) (h2 : okS d t) : s = t := by
  obtain ⟨a1, a2, a3⟩ := valid_ok h1.1
  obtain ⟨b1, b2, b3⟩ := valid_ok h2.1
  have e := (enc_eq h1).symm.trans (enc_eq h2)
  obtain ⟨e1, e⟩ := List.append_inj e (by simp [le3])
  obtain ⟨e2, e⟩ := List.append_inj e (by simp)
  have e1 := congrArg numV e1
  rw [(numV_3 a3).1, (numV_3 b3).1] at e1
  have e2 := congrArg numV e2
  rw [numV_1 (by omega), numV_1 (by omega)] at e2
  unfold remS at e
  rw [List.drop_zero, List.drop_zero] at e
  have e3 := pts_inj a2 b2 (by omega) e
  obtain ⟨sa, sb⟩ := s
  obtain ⟨ta, tb⟩ := t
  simp only at *
  rw [e1, e3]
theorem rem_step {d : List UInt8} {s : Sto} (h : okS d s) {i : Nat} (hi : i < s.pts.length) : remS s i = encPt s.pts[i] ++ remS s (i + 1) := by
  unfold remS
  rw [List.drop_eq_getElem_cons hi, List.map_cons, List.flatten_cons]
/-- The reader at bytes that are there. -/
theorem tk_ok {d x y : List UInt8} {p n : Nat} (hp : p ≤ d.length) (h : d.drop p = x ++ y) (hx : x.length = n) : tkF d p false n = false ∧ tkL d p false n = x ∧ tkP d p false n = p + n ∧ p + n ≤ d.length ∧ d.drop (p + n) = y := by
  have hl := congrArg List.length h
  rw [List.length_drop, List.length_append, hx] at hl
  have e : tkF d p false n = false := by
    unfold tkF
    rw [Bool.false_or, decide_eq_false_iff_not]
    omega
  refine ⟨e, ?_, ?_, by omega, ?_⟩
  · unfold tkL
    rw [if_neg (by simp [e]), h, ← hx]
    simp
  · unfold tkP
    rw [if_neg (by simp [e])]
  · rw [← List.drop_drop, h, ← hx]
    simp
/-- What a reader knows behind i points. -/
def FitR (d : List UInt8) (i p : Nat) (b : Bool) (l : List Pt) (now n : Int) : Prop := ∀ s, okS d s → b = false ∧ p ≤ d.length ∧ d.drop p = remS s i ∧ l = s.pts.take i ∧ now = s.now ∧ n = (s.pts.length : Nat)
theorem fit_0 (d : List UInt8) : FitR d 0 (tkP d (tkP d 0 false 3) (tkF d 0 false 3) 1) (tkF d (tkP d 0 false 3) (tkF d 0 false 3) 1) [] (numV (tkL d 0 false 3)) (numV (tkL d (tkP d 0 false 3) (tkF d 0 false 3) 1)) := by
  intro s hs
  have e := enc_eq hs
  obtain ⟨a1, a2, a3⟩ := valid_ok hs.1
  obtain ⟨f1, f2, f3, f4, f5⟩ := tk_ok (p := 0) (n := 3) (Nat.zero_le _) e rfl
  obtain ⟨g1, g2, g3, g4, g5⟩ := tk_ok (n := 1) f4 f5 rfl
  rw [f1, f2, f3, g1, g2, g3]
  exact ⟨rfl, g4, g5, rfl, (numV_3 a3).1, numV_1 (by omega)⟩
def rdPt (d : List UInt8) (p : Nat) (b : Bool) : Pt × Nat × Bool × List UInt8 :=
  let n := (numV (tkL d p b 1)).toNat
  let p1 := tkP d p b 1
  let b1 := tkF d p b 1
  let h := tkL d p1 b1 n
  let p2 := tkP d p1 b1 n
  let b2 := tkF d p1 b1 n
  let k := tkL d p2 b2 4
  let p3 := tkP d p2 b2 4
  let b3 := tkF d p2 b2 4
  let r := tkL d p3 b3 2
  let p4 := tkP d p3 b3 2
  let b4 := tkF d p3 b3 2
  let f := tkL d p4 b4 3
  let p5 := tkP d p4 b4 3
  let b5 := tkF d p4 b4 3
  (⟨h, decV k, numV r, numV f, numV (tkL d p5 b5 3)⟩, tkP d p5 b5 3, tkF d p5 b5 3, k)
theorem fit_succ {d : List UInt8} {i p : Nat} {b : Bool} {l : List Pt} {now n : Int} (h : FitR d i p b l now n) (hi : (i : Int) < n) : FitR d (i + 1) (rdPt d p b).2.1 (rdPt d p b).2.2.1 (l ++ [(rdPt d p b).1]) now n ∧ ∀ s, okS d s → decE (rdPt d p b).2.2.2 = 0 := by
  have key : ∀ s, okS d s → (rdPt d p b).2.2.1 = false ∧ (rdPt d p b).2.1 ≤ d.length ∧ d.drop (rdPt d p b).2.1 = remS s (i + 1) ∧ (∃ hi : i < s.pts.length, (rdPt d p b).1 = s.pts[i]) ∧ decE (rdPt d p b).2.2.2 = 0 := by
    intro s hs
    obtain ⟨rfl, hp, hd, hl, hnow, hn⟩ := h s hs
    have hi2 : i < s.pts.length := by omega
    obtain ⟨a1, a2, a3⟩ := valid_ok hs.1
    have hk := a2 _ (List.getElem_mem hi2)
    obtain ⟨p1, p2, p3, p4, p5⟩ := point_ok hk
    obtain ⟨k1, k2, k3, k4, k5⟩ := key_back p2
    rw [rem_step hs hi2] at hd
    unfold encPt at hd
    simp only [List.append_assoc] at hd
    obtain ⟨a1, a2, a3, a4, a5⟩ := tk_ok (n := 1) hp hd rfl
    have v1 := numV_1 (n := s.pts[i].h.length) (by omega)
    obtain ⟨b1, b2, b3, b4, b5⟩ := tk_ok (n := s.pts[i].h.length) a4 a5 rfl
    obtain ⟨c1, c2, c3, c4, c5⟩ := tk_ok (n := 4) b4 b5 k1
    obtain ⟨d1, d2, d3, d4, d5⟩ := tk_ok (n := 2) c4 c5 rfl
    obtain ⟨e1, e2, e3, e4, e5⟩ := tk_ok (n := 3) d4 d5 rfl
    obtain ⟨f1, f2, f3, f4, f5⟩ := tk_ok (n := 3) e4 e5 rfl
    unfold rdPt
    simp only [a1, a2, a3, v1, Int.toNat_natCast, b1, b2, b3, c1, c2, c3, d1, d2, d3, e1, e2, e3, f1, f2, f3, k4, k5, (numV_2 p3).1, (numV_3 p4).1, (numV_3 p5).1]
    exact ⟨trivial, f4, f5, ⟨hi2, trivial⟩, trivial⟩
  refine ⟨fun s hs => ?_, fun s hs => (key s hs).2.2.2.2⟩
  obtain ⟨k1, k2, k3, ⟨hi2, k4⟩, _⟩ := key s hs
  obtain ⟨_, _, _, hl, hnow, hn⟩ := h s hs
  refine ⟨k1, k2, k3, ?_, hnow, hn⟩
  rw [k4, hl, List.take_add_one, List.getElem?_eq_getElem hi2]
  rfl
theorem fit_end {d : List UInt8} {i p : Nat} {b : Bool} {l : List Pt} {now n : Int} (h : FitR d i p b l now n) (hi : n ≤ i) : ∀ s, okS d s → (⟨l, now⟩ : Sto) = s ∧ b = false := by
  intro s hs
  obtain ⟨hb, _, _, hl, hnow, hn⟩ := h s hs
  rw [List.take_of_length_le (by omega)] at hl
  rw [hl, hnow]
  exact ⟨rfl, hb⟩
def candL (d : List UInt8) : Nat → Nat × Bool × List Pt
  | 0 => (tkP d (tkP d 0 false 3) (tkF d 0 false 3) 1, tkF d (tkP d 0 false 3) (tkF d 0 false 3) 1, [])
  | i + 1 => ((rdPt d (candL d i).1 (candL d i).2.1).2.1, (rdPt d (candL d i).1 (candL d i).2.1).2.2.1, (candL d i).2.2 ++ [(rdPt d (candL d i).1 (candL d i).2.1).1])
def candN (d : List UInt8) : Int := numV (tkL d (tkP d 0 false 3) (tkF d 0 false 3) 1)
def cand (d : List UInt8) : Sto := ⟨(candL d (candN d).toNat).2.2, numV (tkL d 0 false 3)⟩
theorem cand_fit (d : List UInt8) : ∀ i : Nat, (i : Int) ≤ candN d → FitR d i (candL d i).1 (candL d i).2.1 (candL d i).2.2 (numV (tkL d 0 false 3)) (candN d)
  | 0, _ => fit_0 d
  | i + 1, h => (fit_succ (cand_fit d i (by omega)) (by omega)).1
theorem cand_eq {d : List UInt8} {s : Sto} (h : okS d s) : cand d = s := by
  have h0 : 0 ≤ candN d := by
    have := (fit_0 d s h).2.2.2.2.2
    unfold candN
    omega
  exact (fit_end (cand_fit d (candN d).toNat (by omega)) (by omega) s h).1
def dcV (d : List UInt8) : Sto := if validE (cand d) = 0 ∧ encS (cand d) = d then cand d else ⟨[], 0⟩
def dcE (d : List UInt8) : Int := if validE (cand d) = 0 ∧ encS (cand d) = d then 0 else 1
theorem dc_yes {d : List UInt8} {s : Sto} (h : okS d s) : dcV d = s ∧ dcE d = 0 := by
  have e := cand_eq h
  have h' : validE (cand d) = 0 ∧ encS (cand d) = d := by rw [e]; exact h
  exact ⟨(if_pos h').trans e, if_pos h'⟩
theorem dc_no {d : List UInt8} (h : ∀ s, ¬ okS d s) : dcV d = ⟨[], 0⟩ ∧ dcE d = 1 := ⟨if_neg (h _), if_neg (h _)⟩
theorem dc_end {d : List UInt8} {t : Sto} (h : ∀ s, okS d s → t = s) (ht : ¬ okS d t) : ∀ s, ¬ okS d s := fun s hs => ht (h s hs ▸ hs)
end Go.Proofs.YtgmmdijmlnehlaaDoor
