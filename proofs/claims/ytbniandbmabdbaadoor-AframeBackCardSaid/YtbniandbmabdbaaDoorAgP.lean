/- Layer 16, plain laws: numbers' bytes lead back; a frame that is read is written as its bytes. -/
import Derived.Test.YtbniandbmabdbaaDoorAgH
namespace Go.Proofs.YtbniandbmabdbaaDoor.Af
open Go Go.RowKit
set_option linter.unusedSimpArgs false
set_option linter.unusedVariables false

theorem foldl_acc : ∀ (r : List UInt8) (a : Nat), r.foldl (fun a b => a * 256 + b.toNat) a = a * 256 ^ r.length + natB r := by
  intro r
  induction r with
  | nil => intro a; simp [natB]
  | cons b r ih =>
    intro a
    unfold natB
    simp only [List.foldl_cons, List.length_cons]
    rw [ih, ih (0 * 256 + b.toNat), Nat.pow_succ, Nat.add_mul, Nat.add_mul]
    simp only [Nat.zero_mul, Nat.zero_add, Nat.mul_assoc, Nat.mul_comm 256, Nat.add_assoc]
theorem natB_cons (b : UInt8) (r : List UInt8) : natB (b :: r) = b.toNat * 256 ^ r.length + natB r := by
  have := foldl_acc r b.toNat
  unfold natB at this ⊢
  simpa using this
theorem pow256 (i : Nat) : 2 ^ (8 * i) = 256 ^ i := by rw [Nat.pow_mul]
theorem dig_mod (n m k i : Nat) (h : i < k) : dig (n * 256 ^ k + m) i = dig m i := by
  unfold dig
  rw [pow256]
  have hk : 256 ^ k = 256 ^ (k - i - 1) * 256 * 256 ^ i := by
    rw [← Nat.pow_succ, ← Nat.pow_add]
    congr 1
    omega
  have hp : 0 < 256 ^ i := Nat.pow_pos (by decide)
  have e : (n * 256 ^ k + m) / 256 ^ i = n * 256 ^ (k - i - 1) * 256 + m / 256 ^ i := by
    rw [hk, ← Nat.mul_assoc, ← Nat.mul_assoc, Nat.add_comm, Nat.add_mul_div_right _ _ hp, Nat.add_comm]
  rw [e]
  apply UInt8.toNat_inj.1
  rw [UInt8.toNat_ofNat', UInt8.toNat_ofNat']
  omega
theorem beB_mod (n m k : Nat) : ∀ j, j ≤ k → beB (n * 256 ^ k + m) j = beB m j
  | 0, _ => rfl
  | j + 1, h => by rw [beB, beB, dig_mod n m k j (by omega), beB_mod n m k j (by omega)]
theorem beB_natB : ∀ l : List UInt8, beB (natB l) l.length = l
  | [] => rfl
  | b :: r => by
    have hr := natB_lt r
    have hp : 0 < 256 ^ r.length := Nat.pow_pos (by decide)
    rw [List.length_cons, beB, natB_cons, beB_mod _ _ _ _ (Nat.le_refl _), beB_natB r]
    congr 1
    unfold dig
    rw [pow256, Nat.add_comm, Nat.add_mul_div_right _ _ hp, Nat.div_eq_of_lt hr, Nat.zero_add]
    exact UInt8.ofNat_toNat

def seg (l : List UInt8) (a b : Nat) : List UInt8 := (l.drop a).take (b - a)
theorem ext_seg (s : ByteArray) (a b : Nat) : (s.extract a b).data.toList = seg s.data.toList a b := by
  rw [ByteArray.data_extract, Array.toList_extract, List.extract_eq_take_drop]
  rfl
theorem seg_app (l : List UInt8) {a b c : Nat} (h : a ≤ b) (h' : b ≤ c) : seg l a b ++ seg l b c = seg l a c := by
  unfold seg
  rw [show c - a = (b - a) + (c - b) by omega, List.take_add, List.drop_drop, show a + (b - a) = b by omega]
theorem seg_len (s : ByteArray) (a b : Nat) (h : b ≤ s.size) : (seg s.data.toList a b).length = b - a := by
  have : s.data.toList.length = s.size := by rw [Array.length_toList]; rfl
  unfold seg
  rw [List.length_take, List.length_drop]
  omega
theorem seg_one (s : ByteArray) (k : Nat) (h : k < s.size) : seg s.data.toList k (k + 1) = [atB s k] := by
  rw [← ext_seg, ← ByteArray.toList_eq]
  exact ext_one s k h

/-- What stands in bytes of which Next reads a frame. -/
theorem nx_ok {s : ByteArray} (h : nxE s = 0) : kindB (atB s 0).toNat = true ∧ 7 ≤ s.size ∧ lenB s ≤ 16384 ∧ lenB s + 8 ≤ s.size ∧ atB s (7 + lenB s) = 206 := by
  unfold nxE at h
  split at h
  · cases h
  · split at h
    · cases h
    · split at h
      · cases h
      · split at h
        · cases h
        · split at h
          · cases h
          · rename_i h0 h1 h2 h3 h4
            refine ⟨?_, by omega, by omega, by omega, by simpa using h4⟩
            cases hk : kindB (atB s 0).toNat with
            | true => rfl
            | false => exact absurd ⟨by omega, hk⟩ h0
theorem nx_err {s : ByteArray} (h : nxE s ≠ 0) : nxE s = 40 ∨ nxE s = 41 := by
  unfold nxE at h ⊢
  split
  · exact .inl rfl
  · split
    · exact .inr rfl
    · split
      · exact .inl rfl
      · split
        · exact .inr rfl
        · split
          · exact .inl rfl
          · rename_i h0 h1 h2 h3 h4
            exact absurd (by rw [if_neg h0, if_neg h1, if_neg h2, if_neg h3, if_neg h4]) h
theorem dig0 (b : UInt8) : beB b.toNat 1 = [b] := by simp [beB, dig]

theorem enc_ok {t c : Int} {p : ByteArray} (h : kindB t = true) (h0 : 0 ≤ c) (h1 : c ≤ 65535) (h2 : p.size ≤ 16384) : encOk t c p = true := by
  unfold encOk
  rw [h, decide_eq_true h0, decide_eq_true h1, decide_eq_true h2]
  rfl
/-- A frame that is read is written as its bytes. -/
theorem nx_enc {s : ByteArray} (h : nxE s = 0) : encOk (atB s 0).toNat (chB s) (s.extract 7 (7 + lenB s)) = true ∧ encB (atB s 0).toNat (chB s) (s.extract 7 (7 + lenB s)).data.toList = (s.extract 0 (lenB s + 8)).data.toList := by
  obtain ⟨hk, h7, hl, hs, hb⟩ := nx_ok h
  have hc := ch_lt s h7
  refine ⟨?_, ?_⟩
  · have hz : (s.extract 7 (7 + lenB s)).size = lenB s := by rw [ext_size _ _ _ (by omega)]; exact Nat.add_sub_cancel_left ..
    have a1 : (0 : Int) ≤ (chB s : Int) := Int.natCast_nonneg _
    have a2 : (chB s : Int) ≤ 65535 := by omega
    have a3 : (s.extract 7 (7 + lenB s)).size ≤ 16384 := by rw [hz]; exact hl
    clear hc hb hs hl h7 h
    apply enc_ok
    · exact hk
    · exact a1
    · exact a2
    · exact a3
  · have e2 : beB (chB s) 2 = seg s.data.toList 1 3 := by
      have := beB_natB (s.extract 1 3).data.toList
      rw [ext_seg, seg_len _ _ _ (by omega)] at this
      unfold chB
      rw [ext_seg]
      exact this
    have e4 : beB (lenB s) 4 = seg s.data.toList 3 7 := by
      have := beB_natB (s.extract 3 7).data.toList
      rw [ext_seg, seg_len _ _ _ (by omega)] at this
      unfold lenB
      rw [ext_seg]
      exact this
    have el : (s.extract 7 (7 + lenB s)).data.toList.length = lenB s := by rw [ext_seg, seg_len _ _ _ (by omega)]; omega
    have e1 : beB (atB s 0).toNat 1 = seg s.data.toList 0 1 := by rw [dig0, seg_one s 0 (by omega)]
    have e6 : ([206] : List UInt8) = seg s.data.toList (7 + lenB s) (lenB s + 8) := by rw [show lenB s + 8 = 7 + lenB s + 1 by omega, seg_one s _ (by omega), hb]
    unfold encB
    rw [el, e1, e2, e4, ext_seg s 7, e6, ext_seg s 0, seg_app _ (by omega) (by omega), seg_app _ (by omega) (by omega), seg_app _ (by omega) (by omega), seg_app _ (by omega) (by omega)]
end Go.Proofs.YtbniandbmabdbaaDoor.Af
