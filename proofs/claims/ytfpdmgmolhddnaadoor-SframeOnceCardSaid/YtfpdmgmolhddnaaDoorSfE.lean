/- Layer 18: what is written with backslashes is read: the walk of unescaped. -/
import Derived.Test.YtfpdmgmolhddnaaDoorSfD
namespace Go.Proofs.YtfpdmgmolhddnaaDoor
open Go Go.RowKit Go.Sort
open Go.ChangeShapes Go.WideShapes Go.Deep
set_option linter.unusedSimpArgs false
set_option linter.unusedVariables false

def ahead (acc : L8) (o : Option L8) : Option L8 := match o with | none => none | some r => some (acc ++ r)
theorem unesc_lit {c : UInt8} (h : c ≠ 92) (t : L8) : unescP (c :: t) = ahead [c] (unescP t) := by
  cases t with
  | nil => unfold unescP; rw [if_neg h]; rfl
  | cons d u =>
    conv => lhs; unfold unescP
    rw [if_neg h]
    cases unescP (d :: u) <;> rfl
theorem unesc_esc (d : UInt8) (u : L8) : unescP (92 :: d :: u) = match escOf d with | none => none | some e => ahead [e] (unescP u) := by
  conv => lhs; unfold unescP
  rw [if_pos rfl]
  cases escOf d with
  | none => rfl
  | some e => cases unescP u <;> rfl
theorem ahead_ahead (a b : L8) (o : Option L8) : ahead a (ahead b o) = ahead (a ++ b) o := by cases o <;> simp [ahead]
def UPost (o : Option L8) (w : World) (e : Ending) (w' : World) : Prop := (match o with | some r => e = .returned (.string ⟨r.toArray⟩) | none => e = StopS) ∧ Below w.heap.size w w'
theorem upost_some {r : L8} {w w' : World} (b : Below w.heap.size w w') : UPost (some r) w (.returned (.string ⟨r.toArray⟩)) w' := ⟨rfl, b⟩
theorem upost_none {w w' : World} (b : Below w.heap.size w w') : UPost none w StopS w' := ⟨rfl, b⟩
theorem drop_at {s : ByteArray} {k : Nat} (h : k < s.size) : s.data.toList.drop k = s[k] :: s.data.toList.drop (k + 1) := by
  have h2 : k < s.data.toList.length := by rw [ba_size]; exact h
  rw [List.drop_eq_getElem_cons h2]
  have := ba_at s k h
  rw [List.getElem?_eq_getElem h2] at this
  injection this with this
  rw [this]
theorem less3 {n k : Nat} (h : k + 1 < n) : n - (intOf (.int .i64 ((k : Int) + 1 + 1))).toNat < n - (intOf (.int .i64 (k : Int))).toNat := by
  show n - ((k : Int) + 1 + 1).toNat < n - (k : Int).toNat
  omega
theorem drop_at' {s : ByteArray} {k : Nat} (h : k < s.size) {c : UInt8} (hc : s[k] = c) : s.data.toList.drop k = c :: s.data.toList.drop (k + 1) := hc ▸ drop_at h
theorem ne92 {c : UInt8} (h : c ≠ 92) : ¬ (c.toNat : Int) = 92 := fun e => h (UInt8.toNat_inj.1 (show c.toNat = 92 by omega))
theorem esc_at {d : UInt8} {e : UInt8} (h : escOf d = some e) : ∃ j : Nat, j < 4 ∧ Lib.indexByte [92, 114, 110, 99] d = (j : Int) ∧ ((⟨#[92, 13, 10, 58]⟩ : ByteArray).data.toList)[j]? = some e := by
  unfold escOf at h
  split at h
  · rename_i hd; subst hd; injection h with h; subst h; exact ⟨0, by decide, by decide, rfl⟩
  · split at h
    · rename_i hd; subst hd; injection h with h; subst h; exact ⟨1, by decide, by decide, rfl⟩
    · split at h
      · rename_i hd; subst hd; injection h with h; subst h; exact ⟨2, by decide, by decide, rfl⟩
      · split at h
        · rename_i hd; subst hd; injection h with h; subst h; exact ⟨3, by decide, by decide, rfl⟩
        · cases h
theorem esc_no {d : UInt8} (h : escOf d = none) : Lib.indexByte [92, 114, 110, 99] d = -1 := by
  unfold escOf at h
  split at h
  · cases h
  · split at h
    · cases h
    · split at h
      · cases h
      · split at h
        · cases h
        · rename_i h1 h2 h3 h4
          have g1 : ((92 : UInt8) == d) = false := beq_eq_false_iff_ne.2 (fun e => h1 e.symm)
          have g2 : ((114 : UInt8) == d) = false := beq_eq_false_iff_ne.2 (fun e => h2 e.symm)
          have g3 : ((110 : UInt8) == d) = false := beq_eq_false_iff_ne.2 (fun e => h3 e.symm)
          have g4 : ((99 : UInt8) == d) = false := beq_eq_false_iff_ne.2 (fun e => h4 e.symm)
          simp [Lib.indexByte, g1, g2, g3, g4]
theorem ib_new (w : World) : IB (w.alloc (.cells #[.pointer none, .slice none 0 0] 60)) w.heap.size w.heap.size [] :=
  .inl ⟨Nat.le_refl _, _, heap_alloc_new w _, own_nil _ _ _ _, (fun h => by cases h)⟩
theorem u8_back (d : UInt8) : ((d.toNat : Int)).toNat.toUInt8 = d := by simp

set_option maxRecDepth 100000 in
set_option maxHeartbeats 4000000 in
theorem unesc_c {w : World} (s : ByteArray) (hs : s.size ≤ 1073741824) :
    Calls Tryd.prog 23 #[.string s] w (UPost (unescP s.data.toList) w) := by
  obtain ⟨U, hU⟩ : ∃ U, U = unescP s.data.toList := ⟨_, rfl⟩
  rw [← hU]
  have HU := Lib.hid hU
  have HS := Lib.hid hs
  have hs' : (s.size : Int) ≤ 1073741824 := by omega
  obtain ⟨W, hW⟩ : ∃ W, W = w.alloc (.cells #[.pointer none, .slice none 0 0] 60) := ⟨_, rfl⟩
  have HI0 : Hid (IB W w.heap.size w.heap.size []) := Lib.hid (by rw [hW]; exact ib_new w)
  have HB0 : Hid (Below w.heap.size w W) := Lib.hid (by rw [hW]; exact (Below.refl _ _).alloc (Nat.le_refl _) _)
  have HW := Lib.hid hW
  clear hU hs hW
  go_enter Tryd.func23, Tryd.ntmps23
  go_upto_region 2 with fail
  rw [← HW.out]
  go_wp2_with fail
  go_loopw [4] (fun i wr => ∃ (k : Nat) (acc : L8), k ≤ s.size ∧ i = .int .i64 k ∧ Hid (U = ahead acc (unescP (s.data.toList.drop k))) ∧ Hid (acc.length ≤ k) ∧ Hid (IB wr w.heap.size w.heap.size acc) ∧ Hid (Below w.heap.size w wr)) (fun i _ => s.size - (intOf i).toNat)
  case atStart => exact ⟨0, [], Nat.zero_le _, rfl, Lib.hid (by rw [HU.out, List.drop_zero]; cases unescP s.data.toList <;> rfl), Lib.hid (Nat.le_refl _), HI0, HB0⟩
  case round =>
    clear HI0 HB0
    obtain ⟨k, acc, hk, rfl, HK, HA, HI, HB⟩ := hrel
    by_cases hlt : k < s.size
    · have hlt' : (k : Int) < s.size := by omega
      have HLT := Lib.hid hlt
      have HWK1 := Lib.hid (wk1' k _ hlt (by have := HS.out; omega))
      by_cases h92 : (s[k]'hlt) = 92
      · have c0 : ((s[k]'hlt).toNat : Int) = 92 := by rw [h92]; rfl
        have hdr := drop_at' hlt h92
        by_cases hl2 : k + 1 < s.size
        · have hl2' : ((k : Int) + 1) < s.size := by omega
          have hl3 : (((k + 1 : Nat) : Int)) < s.size := by omega
          have hl4 : (0 : Int) ≤ (k : Int) + 1 := by omega
          have HL2 := Lib.hid hl2
          have HWK3 := Lib.hid (wk1' (k + 1) _ hl2 (by have := HS.out; omega))
          have hk1 : wrap64 ((k : Int) + 1) = (k : Int) + 1 := HWK1.out
          have hk2 : IntKind.i64.wrap ((k : Int) + 1) = (k : Int) + 1 := by rw [IntKind.wrap_i64]; unfold wrap64 at hk1; exact hk1
          have HIX := Lib.hid (fun w1 : World => Tryd.strings_IndexByte ⟨#[92, 114, 110, 99]⟩ ((s[k + 1]'hl2).toNat : Int) w1)
          have hdr2 := drop_at hl2
          cases he : escOf (s[k + 1]'hl2) with
          | none =>
            have hix : Lib.indexByte (⟨#[92, 114, 110, 99]⟩ : ByteArray).data.toList (((s[k + 1]'hl2).toNat : Int)).toNat.toUInt8 = -1 := by rw [u8_back]; exact esc_no he
            rw [hix] at HIX
            obtain rfl : U = none := by rw [HK.out, hdr, hdr2, unesc_esc, he]; rfl
            clear hdr hdr2 h92 he hix hk HK
            go_wp2_with fail
            refine (unless_t _).mono ?_
            rintro e w1 ⟨rfl, rfl⟩
            go_wp2_with fail
            refine (HIX.out _).mono ?_
            rintro e w2 ⟨rfl, rfl⟩
            go_wp2_with fail
            refine (unless_f _).mono ?_
            rintro e w3 ⟨rfl, rfl⟩
            go_wp2_with fail
            exact ⟨rfl, upost_none HB.out⟩
          | some e =>
            obtain ⟨j, hj4, hix, hbt⟩ := esc_at he
            rw [u8_back, show (⟨#[92, 114, 110, 99]⟩ : ByteArray).data.toList = [92, 114, 110, 99] from rfl, hix] at HIX
            have HK2 : Hid (U = ahead (acc ++ [e]) (unescP (s.data.toList.drop (k + 2)))) := Lib.hid (by rw [HK.out, hdr, hdr2, unesc_esc, he]; show ahead acc (ahead [e] _) = _; rw [ahead_ahead])
            have HA2 : Hid ((acc ++ [e]).length ≤ k + 2) := Lib.hid (by rw [List.length_append]; have := HA.out; simp; omega)
            have hk3 : wrap64 ((k : Int) + 1 + 1) = (k : Int) + 1 + 1 := by have := HWK3.out; rw [show ((k + 1 : Nat) : Int) = (k : Int) + 1 by omega] at this; exact this
            have HWK4 := Lib.hid hk3
            clear hdr hdr2 h92 he hix hk HK
            rcases (show j = 0 ∨ j = 1 ∨ j = 2 ∨ j = 3 by omega) with rfl | rfl | rfl | rfl
            · obtain rfl : e = 92 := by injection hbt with hbt; exact hbt.symm
              have HWB : Hid (Calls Tryd.prog 30 #[.pointer (some ⟨w.heap.size, 0, none⟩), .int .u8 92] wr fun e w' => e = .returned .nilIface ∧ IB w' w.heap.size w.heap.size (acc ++ [92]) ∧ Below w.heap.size wr w') := Lib.hid (wbyte_c w.heap.size w.heap.size acc 92 wr HI.out (by have := HA.out; have := HS.out; omega) HB.out.size)
              clear hbt
              go_wp2_with fail
              refine (unless_t _).mono ?_
              rintro e w1 ⟨rfl, rfl⟩
              go_wp2_with fail
              refine (HIX.out _).mono ?_
              rintro e w2 ⟨rfl, rfl⟩
              go_wp2_with fail
              refine (unless_t _).mono ?_
              rintro e w3 ⟨rfl, rfl⟩
              go_wp2_with fail
              refine (HWB.out).mono ?_
              rintro e w4 ⟨rfl, i1, b1⟩
              have HI2 := Lib.hid i1
              have HB2 := Lib.hid (HB.out.trans b1)
              clear i1 b1
              go_wp2_with fail
              go_roundw
              case rel => exact ⟨k + 2, acc ++ [92], HL2.out, by first | rfl | (rw [show ((k + 2 : Nat) : Int) = (k : Int) + 1 + 1 by omega]), HK2, HA2, HI2, HB2⟩
              case measure => first | exact less3 HL2.out | (rw [HWK4.out]; exact less3 HL2.out)
            · obtain rfl : e = 13 := by injection hbt with hbt; exact hbt.symm
              have HWB : Hid (Calls Tryd.prog 30 #[.pointer (some ⟨w.heap.size, 0, none⟩), .int .u8 13] wr fun e w' => e = .returned .nilIface ∧ IB w' w.heap.size w.heap.size (acc ++ [13]) ∧ Below w.heap.size wr w') := Lib.hid (wbyte_c w.heap.size w.heap.size acc 13 wr HI.out (by have := HA.out; have := HS.out; omega) HB.out.size)
              clear hbt
              go_wp2_with fail
              refine (unless_t _).mono ?_
              rintro e w1 ⟨rfl, rfl⟩
              go_wp2_with fail
              refine (HIX.out _).mono ?_
              rintro e w2 ⟨rfl, rfl⟩
              go_wp2_with fail
              refine (unless_t _).mono ?_
              rintro e w3 ⟨rfl, rfl⟩
              go_wp2_with fail
              refine (HWB.out).mono ?_
              rintro e w4 ⟨rfl, i1, b1⟩
              have HI2 := Lib.hid i1
              have HB2 := Lib.hid (HB.out.trans b1)
              clear i1 b1
              go_wp2_with fail
              go_roundw
              case rel => exact ⟨k + 2, acc ++ [13], HL2.out, by first | rfl | (rw [show ((k + 2 : Nat) : Int) = (k : Int) + 1 + 1 by omega]), HK2, HA2, HI2, HB2⟩
              case measure => first | exact less3 HL2.out | (rw [HWK4.out]; exact less3 HL2.out)
            · obtain rfl : e = 10 := by injection hbt with hbt; exact hbt.symm
              have HWB : Hid (Calls Tryd.prog 30 #[.pointer (some ⟨w.heap.size, 0, none⟩), .int .u8 10] wr fun e w' => e = .returned .nilIface ∧ IB w' w.heap.size w.heap.size (acc ++ [10]) ∧ Below w.heap.size wr w') := Lib.hid (wbyte_c w.heap.size w.heap.size acc 10 wr HI.out (by have := HA.out; have := HS.out; omega) HB.out.size)
              clear hbt
              go_wp2_with fail
              refine (unless_t _).mono ?_
              rintro e w1 ⟨rfl, rfl⟩
              go_wp2_with fail
              refine (HIX.out _).mono ?_
              rintro e w2 ⟨rfl, rfl⟩
              go_wp2_with fail
              refine (unless_t _).mono ?_
              rintro e w3 ⟨rfl, rfl⟩
              go_wp2_with fail
              refine (HWB.out).mono ?_
              rintro e w4 ⟨rfl, i1, b1⟩
              have HI2 := Lib.hid i1
              have HB2 := Lib.hid (HB.out.trans b1)
              clear i1 b1
              go_wp2_with fail
              go_roundw
              case rel => exact ⟨k + 2, acc ++ [10], HL2.out, by first | rfl | (rw [show ((k + 2 : Nat) : Int) = (k : Int) + 1 + 1 by omega]), HK2, HA2, HI2, HB2⟩
              case measure => first | exact less3 HL2.out | (rw [HWK4.out]; exact less3 HL2.out)
            · obtain rfl : e = 58 := by injection hbt with hbt; exact hbt.symm
              have HWB : Hid (Calls Tryd.prog 30 #[.pointer (some ⟨w.heap.size, 0, none⟩), .int .u8 58] wr fun e w' => e = .returned .nilIface ∧ IB w' w.heap.size w.heap.size (acc ++ [58]) ∧ Below w.heap.size wr w') := Lib.hid (wbyte_c w.heap.size w.heap.size acc 58 wr HI.out (by have := HA.out; have := HS.out; omega) HB.out.size)
              clear hbt
              go_wp2_with fail
              refine (unless_t _).mono ?_
              rintro e w1 ⟨rfl, rfl⟩
              go_wp2_with fail
              refine (HIX.out _).mono ?_
              rintro e w2 ⟨rfl, rfl⟩
              go_wp2_with fail
              refine (unless_t _).mono ?_
              rintro e w3 ⟨rfl, rfl⟩
              go_wp2_with fail
              refine (HWB.out).mono ?_
              rintro e w4 ⟨rfl, i1, b1⟩
              have HI2 := Lib.hid i1
              have HB2 := Lib.hid (HB.out.trans b1)
              clear i1 b1
              go_wp2_with fail
              go_roundw
              case rel => exact ⟨k + 2, acc ++ [58], HL2.out, by first | rfl | (rw [show ((k + 2 : Nat) : Int) = (k : Int) + 1 + 1 by omega]), HK2, HA2, HI2, HB2⟩
              case measure => first | exact less3 HL2.out | (rw [HWK4.out]; exact less3 HL2.out)
        · have hl2' : (s.size : Int) ≤ (k : Int) + 1 := by omega
          have hk1 : wrap64 ((k : Int) + 1) = (k : Int) + 1 := HWK1.out
          obtain rfl : U = none := by rw [HK.out, hdr, List.drop_of_length_le (by rw [ba_size]; omega)]; rfl
          clear hdr h92 hk HK hl2
          have dl : decide ((k : Int) + 1 < (s.size : Int)) = false := decide_eq_false (by omega)
          go_wp2_with fail
          try rw [dl]
          refine (unless_f _).mono ?_
          rintro e w3 ⟨rfl, rfl⟩
          go_wp2_with fail
          exact ⟨rfl, upost_none HB.out⟩
      · have c0 := ne92 h92
        have hdr := drop_at hlt
        have HK2 : Hid (U = ahead (acc ++ [(s[k]'hlt)]) (unescP (s.data.toList.drop (k + 1)))) := Lib.hid (by rw [HK.out, hdr, unesc_lit h92, ahead_ahead])
        have HWB := Lib.hid (wbyte_c w.heap.size w.heap.size acc (s[k]'hlt) wr HI.out (by have := HA.out; have := HS.out; omega) HB.out.size)
        have HA2 : Hid ((acc ++ [(s[k]'hlt)]).length ≤ k + 1) := Lib.hid (by rw [List.length_append]; have := HA.out; simp; omega)
        clear hdr h92 hk HK
        go_wp2_with fail
        refine (HWB.out).mono ?_
        rintro e w1 ⟨rfl, i1, b1⟩
        have HI2 := Lib.hid i1
        have HB2 := Lib.hid (HB.out.trans b1)
        clear i1 b1
        go_wp2_with fail
        go_roundw
        case rel => exact ⟨k + 1, acc ++ [(s[k]'hlt)], HLT.out, by first | rfl | (rw [HWK1.out]; rfl), HK2, HA2, HI2, HB2⟩
        case measure => first | exact less1 HLT.out | (rw [HWK1.out]; exact less1 HLT.out)
    · have hk2 : k = s.size := by omega
      subst hk2
      obtain rfl : U = some acc := by rw [HK.out, List.drop_of_length_le (by rw [ba_size]; exact Nat.le_refl _)]; show some (acc ++ []) = _; rw [List.append_nil]
      have HST := Lib.hid (Tryd.Builder_String_any w.heap.size w.heap.size acc wr HI.out HB.out.size)
      clear hlt hk HK
      go_wp2_with fail
      refine (HST.out).mono ?_
      rintro e w1 ⟨rfl, b1⟩
      go_wp2_with fail
      go_ret
      exact upost_some (HB.out.trans b1)
end Go.Proofs.YtfpdmgmolhddnaaDoor
