/- Plain arithmetic of the group: primes, powers modulo a prime, Fermat. No program here. -/
namespace Go.Proofs.YtgmmdijmlnehlaaDoor
def GP : Nat := 2147483579
def GQ : Nat := 1073741789

/-! ### Trial division -/
/-- No number from 'lo' on, 'n' of them, divides 'm'. -/
def noDiv (m lo : Nat) : Nat → Bool
  | 0 => true
  | n + 1 => (m % (lo + n) != 0) && noDiv m lo n

theorem noDiv_spec (m lo n : Nat) (h : noDiv m lo n = true) : ∀ d, lo ≤ d → d < lo + n → m % d ≠ 0 := by
  induction n with
  | zero => intro d h1 h2; omega
  | succ n ih =>
    intro d h1 h2
    simp only [noDiv, Bool.and_eq_true, bne_iff_ne, ne_eq] at h
    by_cases hd : d = lo + n
    · subst hd; exact h.1
    · exact ih h.2 d h1 (by omega)

def chunks (m lo c : Nat) : Nat → Bool
  | 0 => true
  | n + 1 => noDiv m (lo + c * n) c && chunks m lo c n

theorem chunks_spec (m lo c n : Nat) (h : chunks m lo c n = true) : ∀ d, lo ≤ d → d < lo + c * n → m % d ≠ 0 := by
  induction n with
  | zero => intro d h1 h2; omega
  | succ n ih =>
    intro d h1 h2
    simp only [chunks, Bool.and_eq_true] at h
    by_cases hd : lo + c * n ≤ d
    · exact noDiv_spec m _ c h.1 d hd (by rw [Nat.mul_succ] at h2; omega)
    · exact ih h.2 d h1 (by omega)

theorem dvd_sub_of_mod {n a b : Nat} (hab : a ≤ b) (h : a % n = b % n) : n ∣ b - a := by
  have h1 := Nat.div_add_mod a n
  have h2 := Nat.div_add_mod b n
  refine ⟨b / n - a / n, ?_⟩
  rw [Nat.mul_sub]
  omega
theorem mod_of_dvd_sub {n a b : Nat} (hab : a ≤ b) (h : n ∣ b - a) : b % n = a % n := by
  obtain ⟨t, ht⟩ := h
  have : b = a + n * t := by omega
  rw [this, Nat.add_mul_mod_self_left]

def Prime (m : Nat) : Prop := 2 ≤ m ∧ ∀ d, d ∣ m → d = 1 ∨ d = m

theorem prime_of_small (m b : Nat) (hm : 2 ≤ m) (hb : m < (b + 1) * (b + 1)) (h : ∀ d, 2 ≤ d → d ≤ b → m % d ≠ 0) : Prime m := by
  refine ⟨hm, fun d hd => ?_⟩
  obtain ⟨e, he⟩ := hd
  by_cases h1 : d = 1
  · exact Or.inl h1
  · right
    by_cases h2 : d ≤ b
    · have hd0 : d ≠ 0 := by rintro rfl; simp at he; omega
      exact absurd (by rw [he]; exact Nat.mul_mod_right d e) (h d (by omega) h2)
    · by_cases h3 : e ≤ b
      · have he0 : e ≠ 0 := by rintro rfl; simp at he; omega
        by_cases h4 : e = 1
        · subst h4; omega
        · exact absurd (by rw [he]; exact Nat.mul_mod_left d e) (h e (by omega) h3)
      · have : (b + 1) * (b + 1) ≤ d * e := Nat.mul_le_mul (by omega) (by omega)
        omega

theorem primeGP : Prime GP :=
  prime_of_small GP 46500 (by decide +kernel) (by decide +kernel) (fun d h1 h2 => chunks_spec GP 2 500 93 (by decide +kernel) d h1 (by omega))
theorem primeGQ : Prime GQ :=
  prime_of_small GQ 32999 (by decide +kernel) (by decide +kernel) (fun d h1 h2 => chunks_spec GQ 2 500 66 (by decide +kernel) d h1 (by omega))

theorem Prime.coprime {m a : Nat} (h : Prime m) (ha : ¬ m ∣ a) : Nat.Coprime m a := by
  rcases h.2 (Nat.gcd m a) (Nat.gcd_dvd_left m a) with hg | hg
  · exact hg
  · exact absurd (hg ▸ Nat.gcd_dvd_right m a) ha

theorem Prime.dvd_mul {m a b : Nat} (h : Prime m) (hd : m ∣ a * b) : m ∣ a ∨ m ∣ b := by
  by_cases ha : m ∣ a
  · exact Or.inl ha
  · exact Or.inr ((h.coprime ha).dvd_of_dvd_mul_left hd)

/-! ### Binomials -/
def binC : Nat → Nat → Nat
  | _, 0 => 1
  | 0, _ + 1 => 0
  | n + 1, k + 1 => binC n k + binC n (k + 1)

theorem C_zero (n : Nat) : binC n 0 = 1 := by cases n <;> rfl
theorem C_gt (n : Nat) : ∀ k, n < k → binC n k = 0 := by
  induction n with
  | zero => intro k hk; cases k with
    | zero => omega
    | succ k => rfl
  | succ n ih => intro k hk; cases k with
    | zero => omega
    | succ k => simp only [binC]; rw [ih k (by omega), ih (k + 1) (by omega)]
theorem C_self (n : Nat) : binC n n = 1 := by
  induction n with
  | zero => rfl
  | succ n ih => simp only [binC]; rw [ih, C_gt n (n + 1) (by omega)]
theorem C_absorb (n : Nat) : ∀ k, (k + 1) * binC (n + 1) (k + 1) = (n + 1) * binC n k := by
  induction n with
  | zero =>
    intro k
    cases k with
    | zero => rfl
    | succ k => simp [binC]
  | succ n ih =>
    intro k
    cases k with
    | zero =>
      have h := ih 0
      simp only [binC, C_zero] at h ⊢
      simp at h ⊢
      omega
    | succ k =>
      have h1 := ih k
      have h2 := ih (k + 1)
      have e : binC (n + 1 + 1) (k + 1 + 1) = binC (n + 1) (k + 1) + binC (n + 1) (k + 1 + 1) := rfl
      have e2 : binC (n + 1) (k + 1) = binC n k + binC n (k + 1) := rfl
      rw [e, Nat.mul_add, h2]
      have : (k + 1 + 1) * binC (n + 1) (k + 1) = (k + 1) * binC (n + 1) (k + 1) + binC (n + 1) (k + 1) := by rw [Nat.add_mul (k+1) 1]; simp
      rw [this, h1, e2]
      simp only [Nat.add_mul, Nat.mul_add]
      omega

def sumS (f : Nat → Nat) : Nat → Nat
  | 0 => 0
  | n + 1 => sumS f n + f n
theorem S_left (f : Nat → Nat) (n : Nat) : sumS f (n + 1) = f 0 + sumS (fun k => f (k + 1)) n := by
  induction n with
  | zero => simp [sumS]
  | succ n ih => rw [sumS, ih]; simp only [sumS]; omega
theorem S_add (f g : Nat → Nat) (n : Nat) : sumS (fun k => f k + g k) n = sumS f n + sumS g n := by
  induction n with
  | zero => rfl
  | succ n ih => simp only [sumS, ih]; omega
theorem S_mul (a : Nat) (f : Nat → Nat) (n : Nat) : sumS (fun k => a * f k) n = a * sumS f n := by
  induction n with
  | zero => rfl
  | succ n ih => simp only [sumS, ih, Nat.mul_add]
theorem S_congr (f g : Nat → Nat) (n : Nat) (h : ∀ k, k < n → f k = g k) : sumS f n = sumS g n := by
  induction n with
  | zero => rfl
  | succ n ih => simp only [sumS]; rw [ih (fun k hk => h k (by omega)), h n (by omega)]
theorem S_dvd (m : Nat) (f : Nat → Nat) (n : Nat) (h : ∀ k, k < n → m ∣ f k) : m ∣ sumS f n := by
  induction n with
  | zero => exact ⟨0, rfl⟩
  | succ n ih => exact Nat.dvd_add (ih (fun k hk => h k (by omega))) (h n (by omega))

theorem binom (a n : Nat) : (a + 1) ^ n = sumS (fun k => binC n k * a ^ k) (n + 1) := by
  induction n with
  | zero => simp [sumS, binC]
  | succ n ih =>
    rw [S_left]
    have e : ∀ k, binC (n + 1) (k + 1) * a ^ (k + 1) = a * (binC n k * a ^ k) + binC n (k + 1) * a ^ (k + 1) := by
      intro k
      show (binC n k + binC n (k + 1)) * a ^ (k + 1) = _
      rw [Nat.add_mul, Nat.pow_succ]
      congr 1
      rw [← Nat.mul_assoc, ← Nat.mul_assoc, Nat.mul_comm a, Nat.mul_right_comm]
    rw [S_congr _ _ _ (fun k _ => e k), S_add, S_mul, ← ih]
    have h2 := S_left (fun k => binC n k * a ^ k) (n + 1)
    have h3 : sumS (fun k => binC n k * a ^ k) (n + 1 + 1) = sumS (fun k => binC n k * a ^ k) (n + 1) + binC n (n + 1) * a ^ (n + 1) := rfl
    rw [C_gt n (n + 1) (by omega), ← ih] at h3
    simp only [C_zero, Nat.pow_zero, Nat.zero_mul, Nat.add_zero, Nat.mul_one] at h2 h3 ⊢
    rw [Nat.pow_succ, Nat.mul_add, Nat.mul_one, Nat.mul_comm]
    rw [h3] at h2
    omega

theorem Prime.dvd_C {m : Nat} (h : Prime m) (k : Nat) (h0 : 0 < k) (h1 : k < m) : m ∣ binC m k := by
  obtain ⟨k, rfl⟩ : ∃ j, k = j + 1 := ⟨k - 1, by omega⟩
  obtain ⟨n, rfl⟩ : ∃ j, m = j + 1 := ⟨m - 1, by omega⟩
  have hd : (n + 1) ∣ (k + 1) * binC (n + 1) (k + 1) := ⟨binC n k, C_absorb n k⟩
  rcases h.dvd_mul hd with h2 | h2
  · exact absurd (Nat.le_of_dvd (by omega) h2) (by omega)
  · exact h2

theorem Prime.dream {m : Nat} (h : Prime m) (a : Nat) : (a + 1) ^ m % m = (a ^ m + 1) % m := by
  obtain ⟨n, rfl⟩ : ∃ j, m = j + 1 := ⟨m - 1, by have := h.1; omega⟩
  rw [binom, sumS, S_left]
  simp only [C_zero, Nat.pow_zero, C_self, Nat.one_mul, Nat.mul_one]
  obtain ⟨t, ht⟩ := S_dvd (n + 1) (fun k => binC (n + 1) (k + 1) * a ^ (k + 1)) n (fun k hk => Nat.dvd_trans (h.dvd_C (k + 1) (by omega) (by omega)) ⟨_, rfl⟩)
  rw [ht]
  have : 1 + (n + 1) * t + a ^ (n + 1) = a ^ (n + 1) + 1 + (n + 1) * t := by omega
  rw [this, Nat.add_mul_mod_self_left]

theorem Prime.fermat' {m : Nat} (h : Prime m) (a : Nat) : a ^ m % m = a % m := by
  induction a with
  | zero => rw [Nat.zero_pow (by have := h.1; omega)]
  | succ a ih => rw [h.dream, Nat.add_mod, ih, ← Nat.add_mod]

/-- Fermat. -/
theorem Prime.fermat {m : Nat} (h : Prime m) (a : Nat) (ha : ¬ m ∣ a) : a ^ (m - 1) % m = 1 % m := by
  obtain ⟨n, rfl⟩ : ∃ j, m = j + 1 := ⟨m - 1, by have := h.1; omega⟩
  have hf := h.fermat' a
  simp only [Nat.add_sub_cancel]
  have ha0 : a ≠ 0 := by rintro rfl; exact ha ⟨0, rfl⟩
  have hp : 1 ≤ a ^ n := Nat.one_le_iff_ne_zero.2 (by simp [Nat.pow_eq_zero]; intro e; exact absurd e ha0)
  have hd : (n + 1) ∣ a * (a ^ n - 1) := by
    rw [Nat.mul_sub, Nat.mul_one]
    have e : a * a ^ n = a ^ (n + 1) := by rw [Nat.pow_succ, Nat.mul_comm]
    rw [e]
    exact dvd_sub_of_mod (by rw [← e]; exact Nat.le_mul_of_pos_right _ hp) hf.symm
  rcases h.dvd_mul hd with h2 | h2
  · exact absurd h2 ha
  · exact mod_of_dvd_sub hp h2

/-! ### Powers -/
theorem pow_mod_mul (x a b n : Nat) : (x ^ a % n) * (x ^ b % n) % n = x ^ (a + b) % n := by
  rw [Nat.pow_add, ← Nat.mul_mod]
theorem pow_mod_pow (x a b n : Nat) : (x ^ a % n) ^ b % n = x ^ (a * b) % n := by
  rw [← Nat.pow_mod, Nat.pow_mul]

theorem gcd_pow (x n : Nat) : ∀ a b : Nat, x ^ a % n = 1 % n → x ^ b % n = 1 % n → x ^ (Nat.gcd a b) % n = 1 % n := by
  intro a b
  induction a, b using Nat.gcd.induction with
  | H0 b => intro _ h; simpa using h
  | H1 a b ha ih =>
    intro h1 h2
    rw [Nat.gcd_rec]
    refine ih ?_ h1
    have e : b = a * (b / a) + b % a := (Nat.div_add_mod b a).symm
    rw [e, Nat.pow_add, Nat.pow_mul, Nat.mul_mod, Nat.pow_mod, h1, ← Nat.pow_mod, Nat.one_pow, ← Nat.mul_mod, Nat.one_mul] at h2
    exact h2

theorem P_pos : 0 < GP := by decide +kernel
theorem one_P : 1 % GP = 1 := by decide +kernel
theorem PQ : GP = 2 * GQ + 1 := by decide +kernel
theorem four_Q : 4 ^ GQ % GP = 1 := by
  have h := primeGP.fermat 2 (by decide +kernel)
  have e : GP - 1 = 2 * GQ := by rw [PQ]; omega
  rw [e, Nat.pow_mul, one_P] at h
  have e4 : 2 ^ 2 = 4 := by decide
  rw [e4] at h
  exact h
theorem four_pow (m : Nat) (hm : ¬ GQ ∣ m) : 4 ^ m % GP ≠ 1 := by
  intro h
  have hc : Nat.gcd GQ m = 1 := primeGQ.coprime hm
  have h1 := gcd_pow 4 GP GQ m (by rw [four_Q, one_P]) (by rw [h, one_P])
  rw [hc] at h1
  exact absurd h1 (by decide +kernel)

/-- An element. -/
def Elt (x : Nat) : Prop := 0 < x ∧ x < GP ∧ x ≠ 1 ∧ x ^ GQ % GP = 1

theorem pos_of_pow {x k : Nat} (hk : 0 < k) (h : x ^ k % GP = 1) : 0 < x := by
  rcases Nat.eq_zero_or_pos x with h0 | h0
  · subst h0; rw [Nat.zero_pow hk] at h; simp at h
  · exact h0

theorem elt_four {m : Nat} (hm : ¬ GQ ∣ m) : Elt (4 ^ m % GP) := by
  have h : (4 ^ m % GP) ^ GQ % GP = 1 := by
    rw [pow_mod_pow, Nat.mul_comm, Nat.pow_mul, Nat.pow_mod, four_Q, Nat.one_pow, one_P]
  exact ⟨pos_of_pow (by decide +kernel) h, Nat.mod_lt _ P_pos, four_pow m hm, h⟩

theorem Elt.mul {x y : Nat} (hx : x ^ GQ % GP = 1) (hy : y ^ GQ % GP = 1) : (x * y % GP) ^ GQ % GP = 1 := by
  rw [← Nat.pow_mod, Nat.mul_pow, Nat.mul_mod, hx, hy, Nat.one_mul, one_P]

theorem not_dvd_of_lt {a b : Nat} (ha : 1 ≤ a) (haQ : a < GQ) (hb : 1 ≤ b) (hbQ : b < GQ) : ¬ GQ ∣ a * b := by
  intro h
  rcases primeGQ.dvd_mul h with h | h
  · exact absurd (Nat.le_of_dvd (by omega) h) (by omega)
  · exact absurd (Nat.le_of_dvd (by omega) h) (by omega)
theorem not_dvd_lt {a : Nat} (ha : 1 ≤ a) (haQ : a < GQ) : ¬ GQ ∣ a := fun h => absurd (Nat.le_of_dvd (by omega) h) (by omega)

theorem inv_mul {x : Nat} (h : x ^ GQ % GP = 1) : x * (x ^ (GP - 2) % GP) % GP = 1 := by
  have e : GP - 2 + 1 = GQ * 2 := by
    rw [PQ]
    have : 1 ≤ GQ := by decide +kernel
    omega
  rw [Nat.mul_mod, Nat.mod_mod, ← Nat.mul_mod, Nat.mul_comm, ← Nat.pow_succ, Nat.succ_eq_add_one, e, Nat.pow_mul, Nat.pow_mod, h, Nat.one_pow, one_P]

/-- The squares of a number and of its negative are one. -/
theorem neg_sq {x : Nat} (hx : x ≤ GP) : (GP - x) * (GP - x) % GP = x * x % GP := by
  have h2 : (GP - x) * (GP - x) + GP * x = x * x + GP * (GP - x) := by
    have e : GP - x + x = GP := by omega
    have e1 : GP * x = (GP - x) * x + x * x := by rw [← Nat.add_mul, e]
    have e2 : GP * (GP - x) = (GP - x) * (GP - x) + x * (GP - x) := by rw [← Nat.add_mul, e]
    rw [e1, e2, Nat.mul_comm x (GP - x)]
    omega
  have h3 : ((GP - x) * (GP - x) + GP * x) % GP = (x * x + GP * (GP - x)) % GP := by rw [h2]
  rwa [Nat.add_mul_mod_self_left, Nat.add_mul_mod_self_left] at h3

theorem neg_pow {x : Nat} (hx : x ≤ GP) (j : Nat) : ((GP - x) ^ (2 * j + 1) + x ^ (2 * j + 1)) % GP = 0 := by
  have e : (GP - x) ^ (2 * j) % GP = x ^ (2 * j) % GP := by
    rw [Nat.pow_mul, Nat.pow_mul, Nat.pow_two, Nat.pow_two, Nat.pow_mod, neg_sq hx, ← Nat.pow_mod]
  rw [Nat.pow_succ, Nat.pow_succ, Nat.add_mod, Nat.mul_mod, e, ← Nat.mul_mod, ← Nat.add_mod, ← Nat.mul_add]
  have e : GP - x + x = GP := by omega
  rw [e]
  exact Nat.mul_mod_left _ _

theorem Q_odd : GQ = 2 * 536870894 + 1 := by decide +kernel

theorem neg_one : (GP - 1) ^ GQ % GP = GP - 1 := by
  have h := neg_pow (x := 1) (by decide +kernel) 536870894
  rw [← Q_odd, Nat.one_pow] at h
  generalize (GP - 1) ^ GQ = t at h ⊢
  have hP := P_pos
  have := Nat.mod_lt t hP
  rw [Nat.add_mod, one_P] at h
  by_cases h1 : t % GP + 1 < GP
  · rw [Nat.mod_eq_of_lt h1] at h; omega
  · omega

/-- The power GQ of a residue is 1 or its negative, of the negative the other. -/
theorem halves {x : Nat} (h0 : 0 < x) (hx : x < GP) : (x ^ GQ % GP = 1 ∧ (GP - x) ^ GQ % GP = GP - 1) ∨ (x ^ GQ % GP = GP - 1 ∧ (GP - x) ^ GQ % GP = 1) := by
  have hnd : ¬ GP ∣ x := fun h => absurd (Nat.le_of_dvd h0 h) (by omega)
  have hf := primeGP.fermat x hnd
  have e : GP - 1 = GQ * 2 := by rw [PQ]; omega
  rw [e, Nat.pow_mul, one_P] at hf
  have hn := neg_pow (x := x) (by omega) 536870894
  rw [← Q_odd] at hn
  generalize hs : (GP - x) ^ GQ = s at hn ⊢
  generalize ht : x ^ GQ = t at hf hn ⊢
  have hP := P_pos
  have hP2 : 2 < GP := by decide +kernel
  have hsl := Nat.mod_lt s hP
  have htl := Nat.mod_lt t hP
  rw [Nat.add_mod] at hn
  have hsum : s % GP + t % GP = 0 ∨ s % GP + t % GP = GP := by
    by_cases h1 : s % GP + t % GP < GP
    · rw [Nat.mod_eq_of_lt h1] at hn; exact Or.inl hn
    · right
      have h2 : s % GP + t % GP = (s % GP + t % GP - GP) + GP := by omega
      rw [h2, Nat.add_mod_right, Nat.mod_eq_of_lt (by omega)] at hn
      omega
  rw [Nat.pow_two, Nat.mul_mod] at hf
  generalize t % GP = u at *
  generalize s % GP = v at *
  have hu : 1 ≤ u := by
    rcases Nat.eq_zero_or_pos u with h | h
    · subst h; simp at hf
    · exact h
  have hd : GP ∣ (u - 1) * (u + 1) := by
    have : (u - 1) * (u + 1) = u * u - 1 := by
      obtain ⟨k, rfl⟩ : ∃ k, u = k + 1 := ⟨u - 1, by omega⟩
      simp only [Nat.add_sub_cancel, Nat.mul_add, Nat.add_mul]
      omega
    rw [this]
    exact dvd_sub_of_mod (Nat.mul_pos hu hu) (by rw [hf, one_P])
  rcases primeGP.dvd_mul hd with h | h
  · left
    have : u - 1 = 0 := Nat.eq_zero_of_dvd_of_lt h (by omega)
    omega
  · right
    have := Nat.le_of_dvd (by omega) h
    omega

/-- The square of a residue other than 1 and the greatest one is not 1. -/
theorem sq_ne_one {x : Nat} (h0 : 2 ≤ x) (hx : x < GP - 1) : x * x % GP ≠ 1 := by
  intro h
  have hd : GP ∣ (x - 1) * (x + 1) := by
    have : (x - 1) * (x + 1) = x * x - 1 := by
      obtain ⟨k, rfl⟩ : ∃ k, x = k + 1 := ⟨x - 1, by omega⟩
      simp only [Nat.add_sub_cancel, Nat.mul_add, Nat.add_mul]
      omega
    rw [this]
    exact dvd_sub_of_mod (Nat.mul_pos (by omega) (by omega)) (by rw [h, one_P])
  rcases primeGP.dvd_mul hd with h | h
  · exact absurd (Nat.le_of_dvd (by omega) h) (by omega)
  · exact absurd (Nat.le_of_dvd (by omega) h) (by omega)
theorem sq_elt {x : Nat} (h0 : 2 ≤ x) (hx : x < GP - 1) : Elt (x * x % GP) := by
  have h : (x * x % GP) ^ GQ % GP = 1 := by
    have hnd : ¬ GP ∣ x := fun h => absurd (Nat.le_of_dvd (by omega) h) (by omega)
    have hf := primeGP.fermat x hnd
    have e : GP - 1 = 2 * GQ := by rw [PQ]; omega
    rw [e, Nat.pow_mul, Nat.pow_two, one_P] at hf
    rw [← Nat.pow_mod, hf]
  exact ⟨pos_of_pow (by decide +kernel) h, Nat.mod_lt _ P_pos, sq_ne_one h0 hx, h⟩
end Go.Proofs.YtgmmdijmlnehlaaDoor
