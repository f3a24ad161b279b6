/- Floats, plain laws: when two words are equal; a number that a float32 holds is not rounded away. -/
import Ieee.Arith
namespace Go.Proofs.YtelhpdnclmpgoaaDoor.FloatL
open Ieee
set_option linter.unusedSimpArgs false
set_option linter.unusedVariables false

theorem S_least : single.leastPlace = -149 := by decide
theorem D_least : double.leastPlace = -1074 := by decide
theorem S_bin : single.binade = 2 ^ 23 := rfl
theorem D_bin : double.binade = 2 ^ 52 := rfl
theorem S_inf : single.infRung = 255 * 2 ^ 23 := by decide
theorem D_inf : double.infRung = 2047 * 2 ^ 52 := by decide
theorem S_sgn : single.signWeight = 2 ^ 31 := by decide
theorem D_sgn : double.signWeight = 2 ^ 63 := by decide

/-- A finite word: sign, magnitude, place. -/
structure Fin (f : Format) (x : Nat) (s : Bool) (m : Nat) (e : Int) : Prop where
  read : f.read x = .number s m e
  sign : s = (x / f.signWeight % 2 == 1)
  rung : x % f.signWeight = (e - f.leastPlace).toNat * f.binade + m
  low : f.leastPlace ≤ e
  mag : m < 2 * f.binade
  norm : f.binade ≤ m ∨ e = f.leastPlace
  top : x % f.signWeight < f.infRung

theorem fin_of {f : Format} {x : Nat} {s : Bool} {m : Nat} {e : Int} (hb : 0 < f.binade) (hi : f.binade ≤ f.infRung) (h : f.read x = .number s m e) : Fin f x s m e := by
  have h0 := h
  unfold Format.read at h
  dsimp only at h
  split at h
  · rename_i h1
    injection h with a b c
    subst a b c
    exact ⟨h0, rfl, by simp, by omega, by omega, .inr rfl, by omega⟩
  · rename_i h1
    split at h
    · rename_i h2
      injection h with a b c
      subst a b c
      generalize hr : x % f.signWeight = r at *
      have hq : 1 ≤ r / f.binade := (Nat.le_div_iff_mul_le hb).2 (by omega)
      have hm : r % f.binade < f.binade := Nat.mod_lt _ hb
      have hd := Nat.div_add_mod r f.binade
      refine ⟨h0, by rw [hr] at *, ?_, by omega, by omega, .inl (by omega), by rw [hr]; exact h2⟩
      rw [hr, show (f.leastPlace + ((r / f.binade - 1 : Nat) : Int) - f.leastPlace).toNat = r / f.binade - 1 by omega]
      have : (r / f.binade - 1) * f.binade + f.binade = r / f.binade * f.binade := by
        rw [← Nat.succ_mul]; congr 1; omega
      rw [Nat.mul_comm] at hd
      omega
    · split at h <;> cases h
theorem S_fin {x : Nat} {s : Bool} {m : Nat} {e : Int} (h : single.read x = .number s m e) : Fin single x s m e := fin_of (by decide) (by decide) h
theorem D_fin {x : Nat} {s : Bool} {m : Nat} {e : Int} (h : double.read x = .number s m e) : Fin double x s m e := fin_of (by decide) (by decide) h

theorem shl (m k : Nat) : m <<< k = m * 2 ^ k := Nat.shiftLeft_eq m k
/-- Two numbers that are alike are zeros, or the same. -/
theorem signed_eq {s t : Bool} {m n a : Nat} (h : signed s m 0 = signed t n a) : (m = 0 ∧ n = 0) ∨ (s = t ∧ m = n * 2 ^ a) := by
  unfold signed at h
  rw [shl, shl, Nat.pow_zero, Nat.mul_one] at h
  have hp : 0 < 2 ^ a := Nat.pow_pos (by decide)
  by_cases hm : m = 0
  · left
    refine ⟨hm, ?_⟩
    subst hm
    have : n * 2 ^ a = 0 := by
      generalize n * 2 ^ a = q at h ⊢
      cases s <;> cases t <;> simp at h <;> omega
    rcases Nat.mul_eq_zero.1 this with h | h
    · exact h
    · omega
  · right
    generalize n * 2 ^ a = q at *
    cases s <;> cases t <;> simp at h <;> first | exact ⟨rfl, by omega⟩ | (exfalso; omega)

theorem num_eq {f : Format} {s t : Bool} {m n : Nat} {i j : Int} (hm : m < 2 * f.binade) (hn : n < 2 * f.binade) (hi : f.leastPlace ≤ i) (hj : f.leastPlace ≤ j) (ni : f.binade ≤ m ∨ i = f.leastPlace) (nj : f.binade ≤ n ∨ j = f.leastPlace)
    (h : Datum.order (.number s m i) (.number t n j) = some .eq) : (m = 0 ∧ n = 0) ∨ (s = t ∧ m = n ∧ i = j) := by
  unfold Datum.order at h
  dsimp only at h
  have he : signed s m (i - min i j).toNat = signed t n (j - min i j).toNat := by
    injection h with h
    exact Int.compare_eq_eq.1 h
  by_cases hij : i ≤ j
  · rw [Int.min_eq_left hij, show (i - i).toNat = 0 by omega] at he
    rcases signed_eq he with h0 | ⟨hs, hmn⟩
    · exact .inl h0
    · by_cases hd : j = i
      · subst hd
        rw [show (j - j).toNat = 0 by omega, Nat.pow_zero, Nat.mul_one] at hmn
        exact .inr ⟨hs, hmn, rfl⟩
      · exfalso
        have hb : f.binade ≤ n := nj.resolve_right (by omega)
        obtain ⟨k, hk⟩ : ∃ k, (j - i).toNat = k + 1 := ⟨(j - i).toNat - 1, by omega⟩
        rw [hk, Nat.pow_succ, ← Nat.mul_assoc] at hmn
        have hp : 1 ≤ 2 ^ k := Nat.one_le_two_pow
        have := Nat.mul_le_mul hb hp
        omega
  · rw [Int.min_eq_right (by omega), show (j - j).toNat = 0 by omega] at he
    rcases signed_eq he.symm with h0 | ⟨hs, hmn⟩
    · exact .inl ⟨h0.2, h0.1⟩
    · exfalso
      have hb : f.binade ≤ m := ni.resolve_right (by omega)
      obtain ⟨k, hk⟩ : ∃ k, (i - j).toNat = k + 1 := ⟨(i - j).toNat - 1, by omega⟩
      rw [hk, Nat.pow_succ, ← Nat.mul_assoc] at hmn
      have hp : 1 ≤ 2 ^ k := Nat.one_le_two_pow
      have := Nat.mul_le_mul hb hp
      omega
/-- Two float64 that are equal: both zeros, or the same word. -/
theorem order_eq {x y : Nat} (hx : x < 2 ^ 64) (hy : y < 2 ^ 64) (h : double.order x y = some .eq) : (x % 2 ^ 63 = 0 ∧ y % 2 ^ 63 = 0) ∨ x = y := by
  unfold Format.order at h
  have hinf : ∀ (z : Nat) (s : Bool), double.read z = .infinity s → s = (z / 2 ^ 63 % 2 == 1) ∧ z % 2 ^ 63 = 2047 * 2 ^ 52 := by
    intro z s hz
    unfold Format.read at hz
    dsimp only at hz
    rw [D_sgn, D_inf] at hz
    split at hz
    · cases hz
    · split at hz
      · cases hz
      · split at hz
        · rename_i h3; injection hz with hz; exact ⟨hz.symm, h3⟩
        · cases hz
  have hsb : ∀ z : Nat, z < 2 ^ 64 → (z / 2 ^ 63 % 2 = 0 ∧ z = z % 2 ^ 63) ∨ (z / 2 ^ 63 % 2 = 1 ∧ z = 2 ^ 63 + z % 2 ^ 63) := by intro z hz; omega
  cases hrx : double.read x with
  | nan s t => rw [hrx] at h; cases h
  | infinity s =>
    rw [hrx] at h
    cases hry : double.read y with
    | nan s t => rw [hry] at h; cases h
    | number t n j => rw [hry] at h; cases s <;> cases h
    | infinity t =>
      rw [hry] at h
      obtain ⟨h1, h2⟩ := hinf x s hrx
      obtain ⟨h3, h4⟩ := hinf y t hry
      right
      have hst : s = t := by cases s <;> cases t <;> first | rfl | (exact absurd h (by decide))
      rw [hst, h3] at h1
      rcases hsb x hx with ⟨a, b⟩ | ⟨a, b⟩ <;> rcases hsb y hy with ⟨c, d⟩ | ⟨c, d⟩ <;> rw [a, c] at h1 <;> first | omega | (exact absurd h1 (by decide))
  | number s m i =>
    rw [hrx] at h
    cases hry : double.read y with
    | nan s t => rw [hry] at h; cases h
    | infinity t => rw [hry] at h; cases t <;> cases h
    | number t n j =>
      rw [hry] at h
      have fx := D_fin hrx
      have fy := D_fin hry
      have r1 := fx.rung
      have r2 := fy.rung
      have s1 := fx.sign
      have s2 := fy.sign
      have l1 := fx.low
      have l2 := fy.low
      have n1 := fx.norm
      have n2 := fy.norm
      have hmm := num_eq fx.mag fy.mag l1 l2 n1 n2 h
      rw [D_sgn] at r1 r2 s1 s2
      rcases hmm with ⟨h0, h1⟩ | ⟨hs, hm, hi⟩
      · left
        subst h0 h1
        have e1 : i = double.leastPlace := n1.resolve_left (by decide)
        have e2 : j = double.leastPlace := n2.resolve_left (by decide)
        subst e1 e2
        rw [r1, r2, D_least]
        exact ⟨by simp, by simp⟩
      · right
        subst hs hm hi
        rw [s1] at s2
        rcases hsb x hx with ⟨a, b⟩ | ⟨a, b⟩ <;> rcases hsb y hy with ⟨c, d⟩ | ⟨c, d⟩ <;> rw [a, c] at s2 <;> first | (rw [b, d, r1, r2]; done) | (exact absurd s2 (by decide))

theorem log2_eq {m k : Nat} (h0 : 2 ^ k ≤ m) (h1 : m < 2 ^ (k + 1)) : m.log2 = k := by
  have hm : m ≠ 0 := by have := Nat.one_le_two_pow (n := k); omega
  have a := (Nat.le_log2 hm).2 h0
  have b := (Nat.log2_lt hm).2 h1
  omega
theorem read_word {f : Format} (hs : 0 < f.signWeight) (s : Bool) (r : Nat) (hr : r < f.signWeight) : (f.word s r) / f.signWeight % 2 = s.toNat ∧ (f.word s r) % f.signWeight = r := by
  unfold Format.word
  cases s with
  | false =>
    simp only [Bool.false_eq_true, if_false]
    rw [Nat.div_eq_of_lt hr, Nat.mod_eq_of_lt hr]
    exact ⟨rfl, rfl⟩
  | true =>
    simp only [if_true]
    rw [Nat.add_div_left _ hs, Nat.div_eq_of_lt hr, Nat.add_mod_left, Nat.mod_eq_of_lt hr]
    exact ⟨rfl, rfl⟩

/-- A float32's number, written as a float64 and read again: the same number, its magnitude brought to 53 digits. -/
theorem widen_read {s : Bool} {m : Nat} {e : Int} (hm0 : m ≠ 0) (hm : m < 2 ^ 24) (he0 : -149 ≤ e) (he1 : e ≤ 104) :
    double.read (double.write (.number s m e)) = .number s (m * 2 ^ (52 - m.log2)) (e + m.log2 - 52) := by
  obtain ⟨l, hl⟩ : ∃ l, l = m.log2 := ⟨_, rfl⟩
  have h1 : 2 ^ l ≤ m := by rw [hl]; exact Nat.log2_self_le hm0
  have h2 : m < 2 ^ (l + 1) := by rw [hl]; exact Nat.lt_log2_self
  have hl23 : l ≤ 23 := by
    have := (Nat.log2_lt hm0).2 hm
    omega
  rw [← hl]
  have hM0 : 2 ^ 52 ≤ m * 2 ^ (52 - l) := by
    have : 2 ^ l * 2 ^ (52 - l) = 2 ^ 52 := by rw [← Nat.pow_add]; congr 1; omega
    rw [← this]
    exact Nat.mul_le_mul_right _ h1
  have hM1 : m * 2 ^ (52 - l) < 2 ^ 53 := by
    have : 2 ^ (l + 1) * 2 ^ (52 - l) = 2 ^ 53 := by rw [← Nat.pow_add]; congr 1; omega
    rw [← this]
    exact Nat.mul_lt_mul_of_pos_right h2 (Nat.pow_pos (by decide))
  show double.read (double.nearest s m e) = _
  unfold Format.nearest
  rw [if_neg hm0, ← hl, D_least]
  dsimp only
  rw [show (double.fractionBits : Int) = 52 from rfl, show max (e + (l : Int) - 52) (-1074) = e + l - 52 by omega, show (e - (e + (l : Int) - 52)).toNat = 52 - l by omega, show (e + (l : Int) - 52 - e).toNat = 0 by omega, shl]
  have hcut : Toward.even.cut s (m * 2 ^ (52 - l)) 0 = m * 2 ^ (52 - l) := by
    unfold Toward.cut
    simp [Nat.mod_one]
  rw [hcut, D_bin, D_inf]
  obtain ⟨K, hK⟩ : ∃ K : Nat, (e + (l : Int) - 52 - -1074).toNat = K := ⟨_, rfl⟩
  rw [hK]
  have hK1 : 873 ≤ K := by omega
  have hK2 : K ≤ 1149 := by omega
  have hKe : e + (l : Int) - 52 = (K : Int) - 1074 := by omega
  generalize m * 2 ^ (52 - l) = M at *
  rw [Nat.min_eq_left (by omega)]
  obtain ⟨r1, r2⟩ := read_word (f := double) (by decide) s (K * 2 ^ 52 + M) (by rw [D_sgn]; omega)
  unfold Format.read
  dsimp only
  rw [r1, r2, D_bin, D_inf, if_neg (by omega), if_pos (by omega), D_least]
  rw [show (K * 2 ^ 52 + M) / 2 ^ 52 - 1 = K by omega, show (K * 2 ^ 52 + M) % 2 ^ 52 = M - 2 ^ 52 by omega, show 2 ^ 52 + (M - 2 ^ 52) = M by omega, hKe]
  congr 1
  cases s <;> rfl

/-- .. and written as a float32: no infinity. -/
theorem narrow_fin {s : Bool} {m : Nat} {e : Int} (hm0 : m ≠ 0) (hm : m < 2 ^ 24) (he0 : -149 ≤ e) (he1 : e ≤ 104) (hn : 2 ^ 23 ≤ m ∨ e = -149) :
    (single.read (single.write (.number s (m * 2 ^ (52 - m.log2)) (e + m.log2 - 52)))).isInfinity = false := by
  obtain ⟨l, hl⟩ : ∃ l, l = m.log2 := ⟨_, rfl⟩
  have h1 : 2 ^ l ≤ m := by rw [hl]; exact Nat.log2_self_le hm0
  have h2 : m < 2 ^ (l + 1) := by rw [hl]; exact Nat.lt_log2_self
  have hl23 : l ≤ 23 := by
    have := (Nat.log2_lt hm0).2 hm
    omega
  have hl23' : 2 ^ 23 ≤ m → l = 23 := fun h => by rw [hl]; exact log2_eq h hm
  rw [← hl]
  have hM0 : 2 ^ 52 ≤ m * 2 ^ (52 - l) := by
    have : 2 ^ l * 2 ^ (52 - l) = 2 ^ 52 := by rw [← Nat.pow_add]; congr 1; omega
    rw [← this]
    exact Nat.mul_le_mul_right _ h1
  have hM1 : m * 2 ^ (52 - l) < 2 ^ 53 := by
    have : 2 ^ (l + 1) * 2 ^ (52 - l) = 2 ^ 53 := by rw [← Nat.pow_add]; congr 1; omega
    rw [← this]
    exact Nat.mul_lt_mul_of_pos_right h2 (Nat.pow_pos (by decide))
  have hlog : (m * 2 ^ (52 - l)).log2 = 52 := log2_eq hM0 hM1
  have hMne : m * 2 ^ (52 - l) ≠ 0 := by omega
  show (single.read (single.nearest s (m * 2 ^ (52 - l)) (e + l - 52))).isInfinity = false
  unfold Format.nearest
  rw [if_neg hMne, hlog, S_least]
  dsimp only
  have hmax : max (e + (l : Int) - 52 + ((52 : Nat) : Int) - ((single.fractionBits : Nat) : Int)) (-149) = e := by
    rw [show ((single.fractionBits : Nat) : Int) = 23 from rfl]
    rcases hn with h | h
    · rw [hl23' h]; omega
    · omega
  rw [hmax, show (e + (l : Int) - 52 - e).toNat = 0 by omega, shl, Nat.pow_zero, Nat.mul_one, show (e - (e + (l : Int) - 52)).toNat = 52 - l by omega]
  have hcut : Toward.even.cut s (m * 2 ^ (52 - l)) (52 - l) = m := by
    unfold Toward.cut
    dsimp only
    rw [hlog, Nat.min_eq_left (by omega), shl, Nat.one_mul]
    have hp : 0 < 2 ^ (52 - l) := Nat.pow_pos (by decide)
    rw [Nat.mul_div_cancel _ hp, Nat.mul_mod_left]
    simp
  rw [hcut, S_bin, S_inf]
  obtain ⟨K, hK⟩ : ∃ K : Nat, (e - -149).toNat = K := ⟨_, rfl⟩
  rw [hK]
  have hK2 : K ≤ 253 := by omega
  rw [Nat.min_eq_left (by omega)]
  obtain ⟨r1, r2⟩ := read_word (f := single) (by decide) s (K * 2 ^ 23 + m) (by rw [S_sgn]; omega)
  unfold Format.read
  dsimp only
  rw [r2, S_bin, S_inf]
  split
  · rfl
  · rw [if_pos (by omega)]
    rfl

/-- A float32 f that is a number, as a float64, equals x: then x, brought to a float32, is no infinity. -/
theorem fit_fin {x f : Nat} (hx : x < 2 ^ 64) {s0 : Bool} {m0 : Nat} {e0 : Int} (hrx : double.read x = .number s0 m0 e0) {s : Bool} {m : Nat} {e : Int} (hrf : single.read f = .number s m e)
    (h : double.order (double.write (.number s m e)) x = some .eq) : (single.read (single.write (.number s0 m0 e0))).isInfinity = false := by
  have ff := S_fin hrf
  have fx := D_fin hrx
  have hm : m < 2 ^ 24 := ff.mag
  have he0 : -149 ≤ e := by have := ff.low; rwa [S_least] at this
  have hn : 2 ^ 23 ≤ m ∨ e = -149 := by have := ff.norm; rwa [S_least] at this
  have he1 : e ≤ 104 := by
    have h1 := ff.rung
    have h2 := ff.top
    rw [h1, S_inf, S_bin, S_least] at h2
    rcases hn with h | h
    · omega
    · omega
  have hz : ∀ (s : Bool) (e : Int), (single.read (single.write (.number s 0 e))).isInfinity = false := by
    intro s e
    have : single.write (.number s 0 e) = single.word s 0 := rfl
    rw [this]
    cases s <;> decide
  unfold Format.order at h
  rw [hrx] at h
  by_cases hm0 : m = 0
  · subst hm0
    have hw : double.write (.number s 0 e) = double.word s 0 := rfl
    have hr : double.read (double.word s 0) = .number s 0 (-1074) := by cases s <;> decide
    rw [hw, hr] at h
    rcases num_eq (f := double) (by decide) fx.mag (by rw [D_least]; omega) fx.low (.inr (by rw [D_least])) fx.norm h with ⟨_, h0⟩ | ⟨_, h0, _⟩
    · rw [h0]; exact hz _ _
    · rw [← h0]; exact hz _ _
  · rw [widen_read hm0 hm he0 he1] at h
    have h1 : 2 ^ m.log2 ≤ m := Nat.log2_self_le hm0
    have h2 : m < 2 ^ (m.log2 + 1) := Nat.lt_log2_self
    have hl23 : m.log2 ≤ 23 := by
      have := (Nat.log2_lt hm0).2 hm
      omega
    have hM0 : 2 ^ 52 ≤ m * 2 ^ (52 - m.log2) := by
      have : 2 ^ m.log2 * 2 ^ (52 - m.log2) = 2 ^ 52 := by rw [← Nat.pow_add]; congr 1; omega
      rw [← this]
      exact Nat.mul_le_mul_right _ h1
    have hM1 : m * 2 ^ (52 - m.log2) < 2 ^ 53 := by
      have : 2 ^ (m.log2 + 1) * 2 ^ (52 - m.log2) = 2 ^ 53 := by rw [← Nat.pow_add]; congr 1; omega
      rw [← this]
      exact Nat.mul_lt_mul_of_pos_right h2 (Nat.pow_pos (by decide))
    rcases num_eq (f := double) (by rw [D_bin]; omega) fx.mag (by rw [D_least]; omega) fx.low (.inl (by rw [D_bin]; exact hM0)) fx.norm h with ⟨h0, _⟩ | ⟨hs, hM, hE⟩
    · omega
    · rw [← hs, ← hM, ← hE]
      exact narrow_fin hm0 hm he0 he1 hn

/-- A float32 that is a number is no infinity as a float64. -/
theorem widen_fin {f : Nat} {s : Bool} {m : Nat} {e : Int} (hrf : single.read f = .number s m e) : (double.read (double.write (.number s m e))).isInfinity = false := by
  have ff := S_fin hrf
  have hm : m < 2 ^ 24 := ff.mag
  have he0 : -149 ≤ e := by have := ff.low; rwa [S_least] at this
  have hn : 2 ^ 23 ≤ m ∨ e = -149 := by have := ff.norm; rwa [S_least] at this
  have he1 : e ≤ 104 := by
    have h1 := ff.rung
    have h2 := ff.top
    rw [h1, S_inf, S_bin, S_least] at h2
    rcases hn with h | h
    · omega
    · omega
  by_cases hm0 : m = 0
  · subst hm0
    have hw : double.write (.number s 0 e) = double.word s 0 := rfl
    rw [hw]
    cases s <;> decide
  · rw [widen_read hm0 hm he0 he1]
    rfl
/-- The words that the tape may give for a NaN are NaNs. -/
theorem nan_read (t : Nat) : ∃ s n, double.read ((t % 2) * 2 ^ 63 + 0x7ff0000000000000 + 1 + (t / 2) % (2 ^ 52 - 1)) = .nan s n := by
  unfold Format.read
  dsimp only
  rw [D_sgn, D_bin, D_inf]
  have h1 : t % 2 < 2 := Nat.mod_lt _ (by decide)
  have h2 : (t / 2) % (2 ^ 52 - 1) < 2 ^ 52 - 1 := Nat.mod_lt _ (by decide)
  generalize t % 2 = a at *
  generalize (t / 2) % (2 ^ 52 - 1) = b at *
  have h3 : (a * 2 ^ 63 + 0x7ff0000000000000 + 1 + b) % 2 ^ 63 = 0x7ff0000000000000 + 1 + b := by omega
  rw [h3, if_neg (by omega), if_neg (by omega), if_neg (by omega)]
  exact ⟨_, _, rfl⟩
end Go.Proofs.YtelhpdnclmpgoaaDoor.FloatL
