/- TableWays, the plain law: an int of any width and a float, in either order, are read as the same two properties. -/
import Derived.Test.YteigbejidfkhpaaDoorTkG
namespace Go.Proofs.YteigbejidfkhpaaDoor
open Go Go.RowKit
set_option linter.unusedSimpArgs false
set_option linter.unusedVariables false

def wI (n : Int) : Prp := ⟨⟨#[105]⟩, 1, n, ByteArray.empty, 0⟩
def wF (b : Nat) : Prp := ⟨⟨#[102]⟩, 4, 0, ByteArray.empty, canonR b⟩
def letZ (z : Nat) : UInt8 := if z = 1 then 98 else if z = 2 then 115 else if z = 4 then 73 else 108
def uN (n : Int) : Nat := (n % 18446744073709551616).toNat
def iB (z : Nat) (n : Int) : List UInt8 := [1, 105, letZ z] ++ beB (uN n) z
def fB (b : Nat) : List UInt8 := [1, 102, 100] ++ beB b 8
def okZ (z : Nat) (n : Int) : Prop := (z = 1 ∧ -128 ≤ n ∧ n < 128) ∨ (z = 2 ∧ -32768 ≤ n ∧ n < 32768) ∨ (z = 4 ∧ -2147483648 ≤ n ∧ n < 2147483648) ∨ (z = 8 ∧ -9223372036854775808 ≤ n ∧ n ≤ 9223372036854775807)

theorem numP_mod (k n : Nat) (r : List UInt8) : numP k (bs (beB n k ++ r)) = some (n % 256 ^ k, bs r) := by
  have h := takeP_app (beB n k) r
  rw [beB_len] at h
  unfold numP
  rw [h]
  simp only [Option.map_some, bs_list]
  rw [natB_beB]
theorem canon_twice (b : Nat) : canonR (canonR b) = canonR b := by
  unfold canonR
  cases h : nanB b with
  | true =>
    rw [if_pos rfl, if_pos (by decide +kernel)]
  | false =>
    have e : (if (false : Bool) = true then 9221120237041090561 else b) = b := if_neg (by decide)
    rw [e, if_neg (by rw [h]; decide)]
theorem valI {z : Nat} {n : Int} (h : okZ z n) (r : List UInt8) : valP (bs (letZ z :: (beB (uN n) z ++ r))) = some (⟨1, n, ByteArray.empty, 0⟩, bs r) := by
  unfold valP
  rw [takeP_one, Option.bind_some]
  dsimp only
  rcases h with ⟨rfl, h0, h1⟩ | ⟨rfl, h0, h1⟩ | ⟨rfl, h0, h1⟩ | ⟨rfl, h0, h1⟩
  · show valQ ⟨#[98]⟩ _ = _
    unfold valQ
    rw [if_neg (by decide), if_pos rfl, numP_mod, Option.map_some]
    dsimp only
    rw [show sgn 8 (uN n % 256 ^ 1) = n by unfold sgn uN; rw [show (256 ^ 1 : Nat) = 256 from rfl, show (2 ^ (8 - 1) : Nat) = 128 from rfl, show (2 ^ 8 : Int) = 256 from rfl]; split <;> omega]
  · show valQ ⟨#[115]⟩ _ = _
    unfold valQ
    rw [if_neg (by decide), if_neg (by decide), if_pos rfl, numP_mod, Option.map_some]
    dsimp only
    rw [show sgn 16 (uN n % 256 ^ 2) = n by unfold sgn uN; rw [show (256 ^ 2 : Nat) = 65536 from rfl, show (2 ^ (16 - 1) : Nat) = 32768 from rfl, show (2 ^ 16 : Int) = 65536 from rfl]; split <;> omega]
  · show valQ ⟨#[73]⟩ _ = _
    unfold valQ
    rw [if_neg (by decide), if_neg (by decide), if_neg (by decide), if_pos rfl, numP_mod, Option.map_some]
    dsimp only
    rw [show sgn 32 (uN n % 256 ^ 4) = n by unfold sgn uN; rw [show (256 ^ 4 : Nat) = 4294967296 from rfl, show (2 ^ (32 - 1) : Nat) = 2147483648 from rfl, show (2 ^ 32 : Int) = 4294967296 from rfl]; split <;> omega]
  · show valQ ⟨#[108]⟩ _ = _
    unfold valQ
    rw [if_neg (by decide), if_neg (by decide), if_neg (by decide), if_neg (by decide), if_pos rfl, numP_mod, Option.map_some]
    dsimp only
    rw [show sgn 64 (uN n % 256 ^ 8) = n by unfold sgn uN; rw [show (256 ^ 8 : Nat) = 18446744073709551616 from rfl, show (2 ^ (64 - 1) : Nat) = 9223372036854775808 from rfl, show (2 ^ 64 : Int) = 18446744073709551616 from rfl]; split <;> omega]
theorem valF {b : Nat} (h : b < 18446744073709551616) (r : List UInt8) : valP (bs (100 :: (beB b 8 ++ r))) = some (⟨4, 0, ByteArray.empty, canonR b⟩, bs r) := by
  unfold valP
  rw [takeP_one, Option.bind_some]
  show valQ ⟨#[100]⟩ _ = _
  unfold valQ
  rw [if_neg (by decide), if_neg (by decide), if_neg (by decide), if_neg (by decide), if_neg (by decide), if_neg (by decide), if_pos rfl, numP_app 8 b h, Option.map_some]
theorem itemI {z : Nat} {n : Int} (h : okZ z n) (r : List UInt8) : itemP (bs (iB z n ++ r)) = some (wI n, bs r) := by
  unfold itemP
  rw [show iB z n ++ r = UInt8.ofNat [(105 : UInt8)].length :: ([105] ++ (letZ z :: (beB (uN n) z ++ r))) by simp [iB], shortP_app [105] _ (by decide), Option.bind_some]
  dsimp only
  rw [valI h, Option.map_some]
  rfl
theorem itemF {b : Nat} (h : b < 18446744073709551616) (r : List UInt8) : itemP (bs (fB b ++ r)) = some (wF b, bs r) := by
  unfold itemP
  rw [show fB b ++ r = UInt8.ofNat [(102 : UInt8)].length :: ([102] ++ (100 :: (beB b 8 ++ r))) by simp [fB], shortP_app [102] _ (by decide), Option.bind_some]
  dsimp only
  rw [valF h, Option.map_some]
  rfl
theorem iB_len (z : Nat) (n : Int) : (iB z n).length = z + 3 := by unfold iB; rw [List.length_append, beB_len]; simp; omega
theorem fB_len (b : Nat) : (fB b).length = 11 := by unfold fB; rw [List.length_append, beB_len]; rfl
theorem items_two {x y : List UInt8} {p q : Prp} (hx : ∀ r, itemP (bs (x ++ r)) = some (p, bs r)) (hy : ∀ r, itemP (bs (y ++ r)) = some (q, bs r)) (h1 : 0 < x.length) (h2 : 0 < y.length) :
    itemsP (bs (x ++ y)).size (bs (x ++ y)) = some [p, q] := by
  rw [itemsP_step (by rw [bs_size, List.length_append]; omega), hx, Option.bind_some]
  dsimp only
  have hy' := hy []
  rw [List.append_nil] at hy'
  rw [itemsP_step (s := bs y) (by rw [bs_size]; omega), hy', Option.bind_some]
  dsimp only
  rw [itemsP_nil (s := bs []) rfl]
  rfl
theorem valid_ways (n : Int) (b : Nat) : validB [wF b, wI n] = true := by
  have h1 : nameB ⟨#[102]⟩ = true := by decide +kernel
  have h2 : nameB ⟨#[105]⟩ = true := by decide +kernel
  have h3 : Go.Op.bytesLess (⟨#[102]⟩ : ByteArray).toList (⟨#[105]⟩ : ByteArray).toList = true := by decide +kernel
  have h4 : (wF b).good = true := by
    show goodB 4 0 ByteArray.empty (canonR b) = true
    unfold goodB
    rw [if_neg (by decide), if_neg (by decide), if_neg (by decide), if_pos rfl, canon_twice]
    simp
  have h5 : (wI n).good = true := by
    show goodB 1 n ByteArray.empty 0 = true
    unfold goodB
    rw [if_pos rfl]
    simp
  unfold validB
  show (nameB ⟨#[102]⟩ && (wF b).good && (nameB ⟨#[105]⟩ && (wI n).good && Go.Op.bytesLess (⟨#[102]⟩ : ByteArray).toList (⟨#[105]⟩ : ByteArray).toList && true) && decide ([wF b, wI n].length ≤ 16)) = true
  rw [h1, h2, h3, h4, h5]
  rfl
theorem sort_ways (n : Int) (b : Nat) : sortP [wI n, wF b] = [wF b, wI n] := by
  have h : ltOf cfP (wF b) (wI n) = true := by
    show decide (cfP (wF b) (wI n) < 0) = true
    exact decide_eq_true (show Lib.compareBytes [102] [105] < 0 by decide +kernel)
  unfold sortP Sort.insertionSort
  show (Sort.insOuter (ltOf cfP) 0 2 (0 + 1) #[wI n, wF b]).toList = _
  rw [Sort.insOuter]
  rw [if_pos (show 0 + 1 < 2 by decide)]
  rw [Sort.insOuter]
  rw [if_neg (show ¬ 0 + 1 + 1 < 2 by decide)]
  show (Sort.insInner (ltOf cfP) 0 1 #[wI n, wF b]).toList = _
  unfold Sort.insInner
  rw [if_pos (by simpa using h)]
  rfl
theorem tab_ways (n : Int) (b : Nat) : tabP [wI n, wF b] = some [wF b, wI n] := by
  unfold tabP
  rw [sort_ways, if_pos ⟨show 2 < 20 by decide, valid_ways n b⟩]
theorem ways_tab {z : Nat} {n : Int} {b : Nat} (h : okZ z n) (hb : b < 18446744073709551616) (t : Bool) :
    ∀ l, l = (if t = true then fB b ++ iB z n else iB z n ++ fB b) → tableP (bs (beB l.length 4 ++ l)) = some ([wF b, wI n], bs []) := by
  intro l hl
  have hz : z ≤ 8 := by rcases h with ⟨rfl, _⟩ | ⟨rfl, _⟩ | ⟨rfl, _⟩ | ⟨rfl, _⟩ <;> omega
  have hll : l.length < 4294967296 := by
    rw [hl]
    split <;> rw [List.length_append, iB_len, fB_len] <;> omega
  have hL := longP_app l [] hll
  rw [List.append_nil] at hL
  unfold tableP
  rw [hL, Option.bind_some]
  dsimp only
  subst hl
  cases t with
  | true =>
    rw [if_pos rfl, items_two (itemF hb) (itemI h) (by rw [fB_len]; omega) (by rw [iB_len]; omega), Option.bind_some, tabP_valid (valid_ways n b)]
    rfl
  | false =>
    rw [if_neg (by decide), items_two (itemI h) (itemF hb) (by rw [iB_len]; omega) (by rw [fB_len]; omega), Option.bind_some, tab_ways]
    rfl
end Go.Proofs.YteigbejidfkhpaaDoor
