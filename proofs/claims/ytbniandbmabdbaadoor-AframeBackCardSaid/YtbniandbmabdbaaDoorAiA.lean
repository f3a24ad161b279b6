/- Layer 16: what is too long to be played; a header is read as what it was made of. -/
import Derived.Test.YtbniandbmabdbaaDoorAhB
namespace Go.Proofs.YtbniandbmabdbaaDoor
open Go Go.RowKit
set_option linter.unusedSimpArgs false
set_option linter.unusedVariables false

theorem round_lessM {n k : Nat} (h : k < n) : n - (intOf (.int .i64 ((k : Int) + 1))).toNat < n - (intOf (.int .i64 (k : Int))).toNat := by
  show n - ((k : Int) + 1).toNat < n - (k : Int).toNat
  rw [show ((k : Int) + 1).toNat = k + 1 by omega, Int.toNat_natCast]
  omega
set_option maxRecDepth 100000 in
set_option maxHeartbeats 2000000 in
theorem along_c {w : World} {v : Value} {ps : List Prp} (hp : RPr w v ps) (hsz : ∀ p ∈ ps, p.nm.size ≤ 140737488351232 ∧ p.t.size ≤ 140737488351232) :
    Calls Tryd.prog 13 #[v] w fun e w' => ∃ b : Bool, e = .returned (.bool b) ∧ (b = false → ps.length ≤ 16384) ∧ Below w.heap.size w w' := by
  obtain ⟨A, c, rfl, hnc, hcell⟩ := props_at hp
  have HC := Lib.hid hcell
  have HS := Lib.hid hsz
  have qs := store_float (P := Tryd.prog)
  clear hp hcell hsz
  go_enter Tryd.func13, Tryd.ntmps13
  go_wp2_with fail
  go_loopw [3, 8] (fun x i wr => ∃ k m : Nat, k ≤ ps.length ∧ i = .int .i64 k ∧ x = .int .i64 m ∧ m ≤ 16384 ∧ Hid (k ≤ m) ∧ Below w.heap.size w wr) (fun _ i _ => ps.length - (intOf i).toNat)
  case atStart => exact ⟨0, 0, Nat.zero_le _, rfl, rfl, Nat.zero_le _, Lib.hid (Nat.zero_le _), Below.refl _ _⟩
  case round =>
    obtain ⟨k, m, hk, rfl, rfl, hm, HKM, b2⟩ := hrel
    by_cases hlt : k < ps.length
    · obtain ⟨p, hp⟩ : ∃ p, ps[k]? = some p := ⟨_, List.getElem?_eq_getElem hlt⟩
      obtain ⟨a, rfl, q0, q1, q2, q3, q4⟩ := HC.out k p hp
      have hs2 := HS.out p (List.mem_of_getElem? hp)
      obtain ⟨tot, htot⟩ : ∃ tot : Nat, tot = m + (1 + p.nm.size + p.t.size) := ⟨_, rfl⟩
      have e1 : IntKind.i64.wrap (1 + (p.nm.size : Int)) = 1 + p.nm.size := IntWalk.i64_in _ (by omega)
      have e2 : IntKind.i64.wrap (1 + (p.nm.size : Int) + (p.t.size : Int)) = 1 + p.nm.size + p.t.size := IntWalk.i64_in _ (by omega)
      have e3 : IntKind.i64.wrap ((m : Int) + (1 + (p.nm.size : Int) + (p.t.size : Int))) = m + (1 + p.nm.size + p.t.size) := IntWalk.i64_in _ (by omega)
      have hz0 : (0 : Int) ≤ p.nm.size := by omega
      have hz1 : (p.nm.size : Int) ≤ 140737488351232 := by omega
      have hz2 : (p.t.size : Int) ≤ 140737488351232 := by omega
      have p0 := cell_below b2 (World.block_lt_of_cell? w _ q0) q0
      have p1 := cell_below b2 (World.block_lt_of_cell? w _ q1) q1
      have p2 := cell_below b2 (World.block_lt_of_cell? w _ q2) q2
      have p3 := cell_below b2 (World.block_lt_of_cell? w _ q3) q3
      have p4 := cell_below b2 (World.block_lt_of_cell? w _ q4) q4
      have b3 := b2.alloc b2.size (.cells #[.string p.nm, .int .i64 p.k, .int .i64 p.n, .string p.t, .float .f64 p.r] 59)
      have HTOT := Lib.hid htot
      have HLT := Lib.hid hlt
      clear hp q0 q1 q2 q3 q4 hs2 htot
      by_cases hg : (16384 : Int) < m + (1 + p.nm.size + p.t.size)
      · go_wp2_with fail
        go_ret
        exact ⟨true, rfl, (fun h => by cases h), b3⟩
      · have hg' : (m : Int) + (1 + p.nm.size + p.t.size) ≤ 16384 := by omega
        clear hg
        go_wp2_with fail
        have hwk : wrap64 ((k : Int) + 1) = (k : Int) + 1 := by have := HKM.out; unfold wrap64; omega
        go_roundw
        case rel => exact ⟨k + 1, tot, by omega, by rw [hwk]; rfl, by rw [HTOT.out]; rfl, by have := HTOT.out; omega, Lib.hid (by have := HTOT.out; have := HKM.out; omega), b3⟩
        case measure => rw [hwk]; exact round_lessM HLT.out
    · have hk2 : k = ps.length := by omega
      subst hk2
      clear hlt
      have HM := Lib.hid hm
      go_wp2_with fail
      go_ret
      exact ⟨false, rfl, (fun _ => by have := HKM.out; have := HM.out; omega), b2⟩

theorem fld_mid {l : List UInt8} (x y z : List UInt8) {a b : Nat} (hl : l = x ++ (y ++ z)) (ha : x.length = a) (hb : a + y.length = b) : fld (bs l) a b = natB y := by
  subst hl ha hb
  unfold fld
  rw [ba_extract, bs_list, List.drop_take, List.drop_left' rfl, Nat.add_sub_cancel_left, List.take_left' rfl]
theorem rest_of {l : List UInt8} (x z : List UInt8) {a : Nat} (hl : l = x ++ z) (ha : x.length = a) : (bs l).extract a (bs l).size = bs z := by
  subst hl ha
  rw [bs_extract, bs_size, List.take_of_length_le (Nat.le_refl _), List.drop_left' rfl]
theorem mark_size (d : Bool) : (bs (beB (if d then 2 else 1) 1)).size = 1 := by rw [bs_size, beB_len]
theorem rh2_mark {n f : Nat} {ps : List Prp} {d : Bool} (hn : n ≤ 1024) (hf : f = 4096 ∨ f = 12288) : rh2 n f ps (bs (beB (if d then 2 else 1) 1)) = .ok n ps d := by
  unfold rh2
  rw [if_pos hf]
  cases d with
  | true =>
    have e : bs (beB (if true = true then 2 else 1) 1) = ⟨#[2]⟩ := by decide +kernel
    rw [e, if_pos ⟨rfl, .inr rfl⟩, if_pos hn, decide_eq_true rfl]
  | false =>
    have e : bs (beB (if false = true then 2 else 1) 1) = ⟨#[1]⟩ := by decide +kernel
    rw [e, if_pos ⟨rfl, .inl rfl⟩, if_pos hn, decide_eq_false (by decide)]
theorem rh_back {n : Nat} {ps : List Prp} {d : Bool} (hn : n ≤ 1024) (h : validB ps = true) (hf : ∀ p ∈ ps, p.r < 2 ^ 64 ∧ -9223372036854775808 ≤ p.n ∧ p.n ≤ 9223372036854775807) : rhP (bs (headB n ps d)) = .ok n ps d := by
  obtain ⟨m, hm⟩ : ∃ m, m = beB (if d then 2 else 1) 1 := ⟨_, rfl⟩
  obtain ⟨q, hq⟩ : ∃ q, q = (if ps = [] then [] else putB ps) := ⟨_, rfl⟩
  have hl : headB n ps d = beB 60 2 ++ beB 0 2 ++ beB n 8 ++ beB (flagsB ps) 2 ++ q ++ m := by rw [hq, hm]; rfl
  have hsz : ¬ (bs (headB n ps d)).size < 14 := by rw [bs_size, hl]; simp [beB_len]; omega
  have hfl : flagsB ps < 65536 := by unfold flagsB; split <;> decide
  unfold rhP
  rw [if_neg hsz]
  rw [fld_mid (l := headB n ps d) (a := 0) (b := 2) [] (beB 60 2) (beB 0 2 ++ beB n 8 ++ beB (flagsB ps) 2 ++ q ++ m) (by rw [hl]; simp only [List.append_assoc, List.nil_append]) rfl (by rw [beB_len])]
  rw [fld_mid (l := headB n ps d) (a := 2) (b := 4) (beB 60 2) (beB 0 2) (beB n 8 ++ beB (flagsB ps) 2 ++ q ++ m) (by rw [hl]; simp only [List.append_assoc]) (by rw [beB_len]) (by rw [beB_len])]
  rw [fld_mid (l := headB n ps d) (a := 4) (b := 12) (beB 60 2 ++ beB 0 2) (beB n 8) (beB (flagsB ps) 2 ++ q ++ m) (by rw [hl]; simp only [List.append_assoc]) (by rw [List.length_append, beB_len, beB_len]) (by rw [beB_len])]
  rw [fld_mid (l := headB n ps d) (a := 12) (b := 14) (beB 60 2 ++ beB 0 2 ++ beB n 8) (beB (flagsB ps) 2) (q ++ m) (by rw [hl]; simp only [List.append_assoc]) (by rw [List.length_append, List.length_append, beB_len, beB_len, beB_len]) (by rw [beB_len])]
  rw [rest_of (l := headB n ps d) (a := 14) (beB 60 2 ++ beB 0 2 ++ beB n 8 ++ beB (flagsB ps) 2) (q ++ m) (by rw [hl]; simp only [List.append_assoc]) (by rw [List.length_append, List.length_append, List.length_append, beB_len, beB_len, beB_len, beB_len])]
  rw [natB_beB, natB_beB, natB_beB, natB_beB, Nat.mod_eq_of_lt (show n < 256 ^ 8 by omega), Nat.mod_eq_of_lt (show flagsB ps < 256 ^ 2 by omega)]
  unfold rhQ
  rw [if_neg (by decide), if_neg (by decide)]
  by_cases hp : ps = []
  · subst hp
    rw [if_pos rfl] at hq
    subst hq hm
    rw [if_pos (show flagsB [] = 0 ∨ flagsB [] = 4096 from .inr rfl)]
    exact rh2_mark hn (.inl rfl)
  · rw [if_neg hp] at hq
    have hF : flagsB ps = 12288 := by unfold flagsB; rw [if_neg hp]
    subst hq
    rw [hF, if_neg (by decide), if_pos (by decide), tableP_put h hf]
    dsimp only
    subst hm
    exact rh2_mark hn (.inr rfl)
end Go.Proofs.YtbniandbmabdbaaDoor
