/- Layer 15: numbers as bytes; table.big; a clone. -/
import Derived.Test.YteigbejidfkhpaaDoorOpen2
import Derived.Laws.OwnMore
namespace Go.Proofs.YteigbejidfkhpaaDoor
open Go Go.RowKit
set_option linter.unusedSimpArgs false
set_option linter.unusedVariables false

/-- Byte i of a number; its k bytes, the highest first. -/
def dig (n i : Nat) : UInt8 := UInt8.ofNat (n / 2 ^ (8 * i))
def beB (n : Nat) : Nat → List UInt8
  | 0 => []
  | k + 1 => dig n k :: beB n k
theorem beB_len (n : Nat) : ∀ k, (beB n k).length = k
  | 0 => rfl
  | k + 1 => by simp [beB, beB_len n k]

theorem dig_val (n r : Nat) : ((n : Int) / 2 ^ (8 * r) % 256) = ((dig n r).toNat : Int) := by
  have h : (dig n r).toNat = n / 2 ^ (8 * r) % 256 := by
    unfold dig
    exact UInt8.toNat_ofNat' ..
  rw [h, Int.natCast_emod, Int.natCast_ediv, Int.natCast_pow]
  rfl
theorem rb_dig (w : World) (x : UInt8) (z : Int) (hz : z = (x.toNat : Int)) : RB (w.alloc (.cells #[.int .u8 z] 5)) (.slice (some ⟨w.heap.size, 0, none⟩) 1 1) [x] := by
  subst hz
  exact rb_one w x

/-- The number that bytes are, the highest first. -/
def natB (l : List UInt8) : Nat := l.foldl (fun a b => a * 256 + b.toNat) 0
theorem natB_snoc (l : List UInt8) (b : UInt8) : natB (l ++ [b]) = natB l * 256 + b.toNat := by simp [natB]
theorem natB_lt (l : List UInt8) : natB l < 256 ^ l.length := by
  have key : ∀ (l : List UInt8) (a : Nat), l.foldl (fun a b => a * 256 + b.toNat) a < (a + 1) * 256 ^ l.length := by
    intro l
    induction l with
    | nil => intro a; simp
    | cons b r ih =>
      intro a
      simp only [List.foldl_cons, List.length_cons]
      refine Nat.lt_of_lt_of_le (ih _) ?_
      have hb : b.toNat < 256 := UInt8.toNat_lt b
      rw [Nat.pow_succ, Nat.mul_comm (256 ^ r.length) 256, ← Nat.mul_assoc]
      exact Nat.mul_le_mul_right _ (by omega)
  unfold natB
  simpa using key l 0

theorem ba_at (s : ByteArray) (k : Nat) (h : k < s.size) : s.data.toList[k]? = some s[k] := by
  have h' : k < s.data.size := h
  rw [Array.getElem?_toList, Array.getElem?_eq_getElem h']
  rfl

theorem foldl_acc : ∀ (r : List UInt8) (a : Nat), r.foldl (fun a b => a * 256 + b.toNat) a = a * 256 ^ r.length + natB r := by
  intro r
  induction r with
  | nil => intro a; simp [natB]
  | cons b r ih =>
    intro a
    unfold natB
    simp only [List.foldl_cons, List.length_cons]
    rw [ih, ih (0 * 256 + b.toNat), Nat.pow_succ, Nat.add_mul, Nat.add_mul]
    simp only [Nat.zero_mul, Nat.zero_add, Nat.mul_assoc, Nat.mul_comm 256, Nat.add_assoc]
theorem natB_cons (b : UInt8) (r : List UInt8) : natB (b :: r) = b.toNat * 256 ^ r.length + natB r := by
  have := foldl_acc r b.toNat
  unfold natB at this ⊢
  simpa using this
theorem pow256 (i : Nat) : 2 ^ (8 * i) = 256 ^ i := by rw [Nat.pow_mul]
theorem dig_mod (n m k i : Nat) (h : i < k) : dig (n * 256 ^ k + m) i = dig m i := by
  unfold dig
  rw [pow256]
  have hk : 256 ^ k = 256 ^ (k - i - 1) * 256 * 256 ^ i := by
    rw [← Nat.pow_succ, ← Nat.pow_add]
    congr 1
    omega
  have hp : 0 < 256 ^ i := Nat.pow_pos (by decide)
  have e : (n * 256 ^ k + m) / 256 ^ i = n * 256 ^ (k - i - 1) * 256 + m / 256 ^ i := by
    rw [hk, ← Nat.mul_assoc, ← Nat.mul_assoc, Nat.add_comm, Nat.add_mul_div_right _ _ hp, Nat.add_comm]
  rw [e]
  apply UInt8.toNat_inj.1
  rw [UInt8.toNat_ofNat', UInt8.toNat_ofNat']
  omega
theorem beB_mod (n m k : Nat) : ∀ j, j ≤ k → beB (n * 256 ^ k + m) j = beB m j
  | 0, _ => rfl
  | j + 1, h => by rw [beB, beB, dig_mod n m k j (by omega), beB_mod n m k j (by omega)]
theorem beB_natB : ∀ l : List UInt8, beB (natB l) l.length = l
  | [] => rfl
  | b :: r => by
    have hr := natB_lt r
    have hp : 0 < 256 ^ r.length := Nat.pow_pos (by decide)
    rw [List.length_cons, beB, natB_cons, beB_mod _ _ _ _ (Nat.le_refl _), beB_natB r]
    congr 1
    unfold dig
    rw [pow256, Nat.add_comm, Nat.add_mul_div_right _ _ hp, Nat.div_eq_of_lt hr, Nat.zero_add]
    exact UInt8.ofNat_toNat

theorem dig_nat (n k : Nat) : (dig n k).toNat = n / 256 ^ k % 256 := by
  unfold dig
  rw [pow256]
  exact UInt8.toNat_ofNat' ..
theorem natB_beB (n : Nat) : ∀ k, natB (beB n k) = n % 256 ^ k
  | 0 => by simp [beB, natB, Nat.mod_one]
  | k + 1 => by
    rw [beB, natB_cons, beB_len, natB_beB n k, dig_nat, Nat.mod_pow_succ, Nat.add_comm, Nat.mul_comm]

theorem wrap_u8 (b : UInt8) : wrap64 (b.toNat : Int) = b.toNat := by
  have := UInt8.toNat_lt b
  unfold wrap64
  omega

set_option maxRecDepth 100000 in
set_option maxHeartbeats 1000000 in
theorem clone_b {w : World} {v : Value} {l : List UInt8} (h : RB w v l) (hl : l.length ≤ 140737488355328) :
    Calls Tryd.prog 32 #[v] w fun e w' => ∃ v', e = .returned v' ∧ OB w' w.heap.size v' l ∧ Below w.heap.size w w' := by
  obtain ⟨A, c, rfl, hnc, hc, hlen, hA, hcell⟩ := id h
  have q := fun (w : World) (a : Option Addr) (n c n' c' : Nat) => Lib.run_eql_slice_nil (P := Tryd.prog) w 29 _ a n c n' c' Tryd.underlying29
  have H := Lib.hid h
  have HC := Lib.hid hcell
  clear h hcell hlen
  rcases A with _ | ad
  · have : l = [] := List.eq_nil_of_length_eq_zero (by have := hA rfl; omega)
    subst this
    clear hA
    go_enter Tryd.func32, Tryd.ntmps32
    go_wp2
    go_ret
    exact ⟨_, rfl, ob_nil _ _, Below.refl _ _⟩
  · clear hA
    go_enter Tryd.func32, Tryd.ntmps32
    go_wp2_with (at_builtin; refine app_b (w0 := w) (base := w.heap.size) (l := []) (m := l) rfl (.tmp 5) (.tmp 6) rfl rfl rfl (World.ownsRow_made w #[] 0 (Nat.le_refl _) (Nat.zero_le _) (by simp)) (rc_alloc H.out _) ((Below.refl _ _).alloc (Nat.le_refl _) _) (by simp) (by simpa using hl) ?_; intro v1 w1 hown hb hg hat)
    go_ret
    exact ⟨v1, rfl, hown, hb⟩

set_option maxRecDepth 100000 in
set_option maxHeartbeats 1000000 in
theorem tableBig_c {w : World} {base : Nat} {v : Value} {l : List UInt8} (h : OB w base v l) (hB : base ≤ w.heap.size) (hl : l.length ≤ 70368744177664) (n : Nat) (hn : n < 18446744073709551616) (k : Nat) (hk : k ≤ 8) :
    Calls Tryd.prog 28 #[v, .int .u64 n, .int .i64 k] w fun e w' => ∃ v', e = .returned v' ∧ OB w' base v' (l ++ beB n k) ∧ Below base w w' := by
  have H := Lib.hid h
  clear h
  go_enter Tryd.func28, Tryd.ntmps28
  go_wp2
  go_loopw [0, 7] (fun x i wr => ∃ (r : Nat) (pre : List UInt8), r ≤ k ∧ i = .int .i64 ((r : Int) - 1) ∧ Hid (pre ++ beB n r = beB n k) ∧ Hid (OB wr base x (l ++ pre)) ∧ Below base w wr) (fun _ i _ => (intOf i + 1).toNat)
  case atStart => exact ⟨k, [], Nat.le_refl _, rfl, Lib.hid rfl, by simpa [Lib.hid] using H, Below.refl _ _⟩
  case round =>
    obtain ⟨r, pre, hr, rfl, HP, O2, b2⟩ := hrel
    cases r with
    | zero =>
      go_wp2
      go_ret
      have := HP.out
      simp only [beB, List.append_nil] at this
      exact ⟨_, rfl, by rw [← this]; exact O2.out, b2⟩
    | succ r =>
      have hpl : pre.length ≤ 8 := by
        have := congrArg List.length HP.out
        rw [List.length_append, beB_len, beB_len] at this
        omega
      go_wp2_with (at_builtin; refine app_b (w0 := w) (base := base) (l := l ++ pre) (m := [dig n r]) rfl (.tmp 14) (.tmp 20) rfl rfl rfl (O2.out.alloc _) (rb_dig wr _ _ (dig_val n r)) (b2.alloc (by have := b2.size; omega) _) (by have := b2.size; simp; omega) (by simp; omega) ?_; intro v4 w4 o4 b4 _ _; have O4 := Lib.hid o4; clear o4)
      go_roundw
      case rel => exact ⟨r, pre ++ [dig n r], by omega, by go_num, Lib.hid (by have := HP.out; simpa [beB] using this), Lib.hid (by have := O4.out; rwa [List.append_assoc] at this), b4⟩
      case measure => simp [intOf]

theorem ba_size (s : ByteArray) : s.data.toList.length = s.size := by rw [Array.length_toList]; rfl
theorem ne_nil (s : ByteArray) (h : 0 < s.size) : s.toList.isEmpty = false := by
  rw [ByteArray.toList_eq]
  have h' : 0 < s.data.toList.length := by rw [Array.length_toList]; exact h
  cases hd : s.data.toList with
  | nil => rw [hd] at h'; exact absurd h' (by decide)
  | cons a l => rfl
theorem ba_ext {a b : ByteArray} (h : a.data.toList = b.data.toList) : a = b := ByteArray.ext (Array.toList_inj.1 h)
theorem ba_nil {s : ByteArray} (h : s.size = 0) : s = ByteArray.empty := by
  apply ByteArray.ext
  exact Array.eq_empty_of_size_eq_zero (by have : s.data.size = s.size := rfl; omega)
theorem ob_lit {w : World} {base : Nat} (l : List UInt8) (cs : Array Value) (n : Nat) (hb : base ≤ w.heap.size) (hn : n = l.length) (hl : n ≤ 4096) (hc : cs.toList = Lib.byteCells l) : OB (w.alloc (.cells cs 5)) base (.slice (some ⟨w.heap.size, 0, none⟩) n n) l := by
  subst hn
  have h := World.ownsRow_lit (e := 5) (size := 1) w cs l.length hb (by simp only [maxLen]; omega) (by rw [← Array.length_toList, hc]; simp [Lib.byteCells])
  rw [hc] at h
  exact h
end Go.Proofs.YteigbejidfkhpaaDoor
