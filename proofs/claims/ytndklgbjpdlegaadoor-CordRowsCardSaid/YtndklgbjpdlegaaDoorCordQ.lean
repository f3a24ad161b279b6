/- Layer 1: the readers' answers on what was put. -/
import Derived.Test.YtndklgbjpdlegaaDoorCordM
import Derived.Test.YtndklgbjpdlegaaDoorCordP
namespace Go.Proofs.YtndklgbjpdlegaaDoor
open Go
set_option linter.unusedVariables false
set_option linter.unusedSimpArgs false

theorem canon_itoa (n : Int) (h0 : -9223372036854775808 ≤ n) (h1 : n ≤ 9223372036854775807) : canonB (Lib.itoa n) = some n := by
  unfold canonB
  rw [P.atoi_itoa n h0 h1]
  simp

theorem canon_inv {l : List UInt8} {n : Int} (h : canonB l = some n) : Lib.itoa n = l ∧ -9223372036854775808 ≤ n ∧ n ≤ 9223372036854775807 := by
  unfold canonB at h
  split at h
  · rename_i k hk
    split at h
    · rename_i he
      injection h with h
      subst h
      exact ⟨he, Lib.atoiAll_bounds hk⟩
    · cases h
  · cases h

theorem indexByte_get : ∀ (l : List UInt8) (m : UInt8), 0 ≤ Lib.indexByte l m → l[(Lib.indexByte l m).toNat]? = some m
  | [], m, h => by simp [Lib.indexByte] at h
  | b :: l, m, h => by
    have hl := (indexByte_lt l m).2
    simp only [Lib.indexByte] at h ⊢
    split
    · rename_i hb
      have : b = m := by simpa using hb
      subst this
      simp
    · rename_i hb
      rw [if_neg hb] at h
      split at h
      · omega
      · rename_i hn
        rw [if_neg hn]
        have hn' : Lib.indexByte l m ≠ -1 := by simpa using hn
        have ih := indexByte_get l m (by omega)
        have e : (Lib.indexByte l m + 1).toNat = (Lib.indexByte l m).toNat + 1 := by omega
        rw [e, List.getElem?_cons_succ]
        exact ih

theorem digR_put (m : UInt8) (hm : m = 58 ∨ m = 59) (n : Int) (h0 : -9223372036854775808 ≤ n) (h1 : n ≤ 9223372036854775807) (r : List UInt8) : digR m (Lib.itoa n ++ m :: r) = (n, true, r) := by
  have hk : (Lib.itoa n ++ m :: r)[(Lib.itoa n).length]? = some m := by simp
  rw [digR_at m _ (Lib.itoa n).length (P.itoa_len n h0 h1) hk (fun j hj hjm => by
    rw [List.getElem?_append_left hj] at hjm
    have := P.itoa_mark n h0 h1 m (List.mem_of_getElem? hjm)
    rcases hm with rfl | rfl
    · exact this.2 rfl
    · exact this.1 rfl)]
  have e1 : (Lib.itoa n ++ m :: r).take (Lib.itoa n).length = Lib.itoa n := by simp
  have e2 : (Lib.itoa n ++ m :: r).drop ((Lib.itoa n).length + 1) = r := by simp [List.drop_append]
  rw [e1, e2, canon_itoa n h0 h1]

theorem digR_inv {m : UInt8} {l r : List UInt8} {n : Int} (h : digR m l = (n, true, r)) : l = Lib.itoa n ++ m :: r ∧ -9223372036854775808 ≤ n ∧ n ≤ 9223372036854775807 := by
  unfold digR at h
  split at h
  · cases h
  · rename_i hn
    have hat := indexByte_get (l.take 21) m (by omega)
    have hlt := (indexByte_lt (l.take 21) m).1
    revert h hat hlt
    generalize (Lib.indexByte (l.take 21) m) = i at hn
    intro h hat hlt
    obtain ⟨k, rfl⟩ := Int.eq_ofNat_of_zero_le (show 0 ≤ i by omega)
    simp only [Int.toNat_natCast] at h hat
    have hk : l[k]? = some m := by
      rw [List.getElem?_take] at hat
      split at hat
      · exact hat
      · cases hat
    split at h
    · rename_i v hc
      obtain ⟨hi, hb⟩ := canon_inv hc
      simp only [Prod.mk.injEq] at h
      obtain ⟨rfl, _, rfl⟩ := h
      refine ⟨?_, hb⟩
      rw [hi]
      have hkl := (List.getElem?_eq_some_iff.1 hk)
      obtain ⟨hkl, hkm⟩ := hkl
      have : l = l.take k ++ l.drop k := (List.take_append_drop k l).symm
      rw [List.drop_eq_getElem_cons hkl, hkm] at this
      exact this
    · cases h

theorem digR_no (m : UInt8) (l : List UInt8) (h : m ∉ l) : digR m l = (0, false, l) :=
  digR_none m l (fun j hj _ hjm => h (List.mem_of_getElem? hjm))

/-- What a read of one part comes to. -/
theorem rNum_put (n : Int) (h0 : -9223372036854775808 ≤ n) (h1 : n ≤ 9223372036854775807) (r : List UInt8) (bad : Bool) : rNum (numB n ++ r) bad = (n, r, bad) := by
  unfold rNum numB
  rw [List.append_assoc, List.singleton_append, digR_put 59 (.inr rfl) n h0 h1 r]
  rfl

theorem rStr_put (s r : List UInt8) (hs : s.length ≤ 9223372036854775807) (bad : Bool) : rStr (strB s ++ r) bad = (s, r, bad) := by
  have e : strB s ++ r = Lib.itoa (s.length : Int) ++ 58 :: (s ++ 44 :: r) := by simp [strB]
  have hd := digR_put 58 (.inl rfl) (s.length : Int) (by omega) (by omega) (s ++ 44 :: r)
  unfold rStr strOk
  rw [e, hd]
  simp

theorem rNum_bad {l : List UInt8} {bad : Bool} (h : (digR 59 l).2.1 = false) : rNum l bad = (0, [], true) := by
  unfold rNum
  rw [h]
  rfl

theorem rNum_inv {l r : List UInt8} {n : Int} (h : rNum l false = (n, r, false)) : l = numB n ++ r ∧ -9223372036854775808 ≤ n ∧ n ≤ 9223372036854775807 := by
  unfold rNum at h
  split at h
  · rename_i hok
    obtain ⟨n', ok, r', hd⟩ : ∃ n ok r, digR 59 l = (n, ok, r) := ⟨_, _, _, rfl⟩
    rw [hd] at h hok
    simp only at hok
    subst hok
    simp only [Prod.mk.injEq] at h
    obtain ⟨rfl, rfl, _⟩ := h
    obtain ⟨h1, h2⟩ := digR_inv hd
    exact ⟨by rw [h1]; simp [numB], h2⟩
  · simp at h

theorem rStr_inv {l r s : List UInt8} (h : rStr l false = (s, r, false)) : l = strB s ++ r := by
  unfold rStr at h
  split at h
  · rename_i hok
    obtain ⟨n', ok, r', hd⟩ : ∃ n ok r, digR 58 l = (n, ok, r) := ⟨_, _, _, rfl⟩
    unfold strOk at hok
    rw [hd] at h hok
    simp only [Bool.and_eq_true, decide_eq_true_eq, beq_iff_eq] at hok
    obtain ⟨⟨rfl, h0⟩, h44⟩ := hok
    obtain ⟨k, rfl⟩ := Int.eq_ofNat_of_zero_le h0
    simp only [Int.toNat_natCast, Prod.mk.injEq] at h h44
    obtain ⟨rfl, rfl, _⟩ := h
    obtain ⟨h1, h2⟩ := digR_inv hd
    obtain ⟨hk, hkm⟩ := List.getElem?_eq_some_iff.1 h44
    have hl : (r'.take k).length = k := by rw [List.length_take]; omega
    have : r' = r'.take k ++ 44 :: r'.drop (k + 1) := by
      have := (List.take_append_drop k r').symm
      rw [List.drop_eq_getElem_cons hk, hkm] at this
      exact this
    rw [h1]
    unfold strB
    rw [hl]
    simp only [List.append_assoc, List.cons_append, List.nil_append]
    rw [← this]
  · simp at h

/-- Of a proper beginning something isn't there. -/
theorem rNum_short (n : Int) (h0 : -9223372036854775808 ≤ n) (h1 : n ≤ 9223372036854775807) (p q : List UInt8) (hq : q ≠ []) (h : p ++ q = numB n) (bad : Bool) : rNum p bad = (0, [], true) := by
  refine rNum_bad ?_
  rw [digR_no 59 p]
  intro hm
  have hpl : p.length ≤ (Lib.itoa n).length := by
    have := congrArg List.length h
    have hq' : 0 < q.length := List.length_pos_iff.2 hq
    simp [numB] at this
    omega
  have hpp : p = (Lib.itoa n).take p.length := by
    have := congrArg (List.take p.length) h
    simp only [List.take_left', numB] at this
    rw [List.take_append_of_le_length hpl] at this
    exact this
  rw [hpp] at hm
  exact (P.itoa_mark n h0 h1 59 (List.mem_of_mem_take hm)).1 rfl

theorem rStr_short (s : List UInt8) (hs : s.length ≤ 9223372036854775807) (p q : List UInt8) (hq : q ≠ []) (h : p ++ q = strB s) (bad : Bool) : rStr p bad = ([], [], true) := by
  unfold rStr
  rw [if_neg]
  intro hok
  obtain ⟨n', ok, r', hd⟩ : ∃ n ok r, digR 58 p = (n, ok, r) := ⟨_, _, _, rfl⟩
  unfold strOk at hok
  rw [hd] at hok
  simp only [Bool.and_eq_true, decide_eq_true_eq, beq_iff_eq] at hok
  obtain ⟨⟨rfl, hn0⟩, h44⟩ := hok
  obtain ⟨h1, h2, h3⟩ := digR_inv hd
  have hd2 := digR_put 58 (.inl rfl) n' h2 h3 (r' ++ q)
  have hd3 := digR_put 58 (.inl rfl) (s.length : Int) (by omega) (by omega) (s ++ [44])
  have e : Lib.itoa n' ++ 58 :: (r' ++ q) = Lib.itoa (s.length : Int) ++ 58 :: (s ++ [44]) := by
    have : p ++ q = Lib.itoa n' ++ 58 :: (r' ++ q) := by rw [h1]; simp
    rw [← this, h]
    rfl
  rw [e, hd3] at hd2
  simp only [Prod.mk.injEq] at hd2
  obtain ⟨hn, _, hr⟩ := hd2
  have hlen := congrArg List.length hr
  have hq' : 0 < q.length := List.length_pos_iff.2 hq
  simp at hlen
  have hk := (List.getElem?_eq_some_iff.1 h44).1
  omega

theorem rNum_nil (bad : Bool) : rNum [] bad = (0, [], true) := rNum_bad (by rw [digR_no 59 [] (by simp)])
theorem rStr_nil (bad : Bool) : rStr [] bad = ([], [], true) := by
  unfold rStr strOk
  rw [digR_no 58 [] (by simp)]
  rfl
end Go.Proofs.YtndklgbjpdlegaaDoor
