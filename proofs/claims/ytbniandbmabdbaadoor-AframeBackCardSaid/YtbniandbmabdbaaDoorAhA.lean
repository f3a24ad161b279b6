/- Layer 16: Head. -/
import Derived.Test.YtbniandbmabdbaaDoorAgC
import Derived.Test.YtbniandbmabdbaaDoorTkG
import Derived.KernelRfl
namespace Go.Proofs.YtbniandbmabdbaaDoor
open Go Go.RowKit
set_option linter.unusedSimpArgs false
set_option linter.unusedVariables false

theorem afb (n : Nat) : ∀ k, Af.beB n k = beB n k
  | 0 => rfl
  | k + 1 => by rw [Af.beB, beB, afb n k]; rfl
theorem afn (l : List UInt8) : Af.natB l = natB l := rfl
theorem hput_c {w : World} {base : Nat} {v : Value} {l : List UInt8} (h : OB w base v l) (hB : base ≤ w.heap.size) (hl : l.length ≤ 70368744177664) (n k : Nat) (hn : n < 9223372036854775808) (hk : k ≤ 8) (ni ki : Int) (hni : ni = (n : Int)) (hki : ki = (k : Int)) :
    Calls Tryd.prog 20 #[v, .int .i64 ni, .int .i64 ki] w fun e w' => ∃ v', e = .returned v' ∧ OB w' base v' (l ++ beB n k) ∧ Below base w w' := by
  have := Af.put_c2 h hB hl n k hn hk ni ki hni hki
  rw [afb] at this
  exact this
/-- A content header's bytes. -/
def flagsB (ps : List Prp) : Nat := if ps = [] then 4096 else 12288
def headB (size : Nat) (ps : List Prp) (d : Bool) : List UInt8 := beB 60 2 ++ beB 0 2 ++ beB size 8 ++ beB (flagsB ps) 2 ++ (if ps = [] then [] else putB ps) ++ beB (if d then 2 else 1) 1
def HeadPost (w : World) (size : Int) (ps : List Prp) (d : Bool) (e : Ending) (w' : World) : Prop :=
  Below w.heap.size w w' ∧ if 0 ≤ size ∧ size ≤ 1024 then (if validB ps = true then ∃ v, e = .returned (.tuple #[v, .int .i64 0]) ∧ OB w' w.heap.size v (headB size.toNat ps d) else e = .returned (.tuple #[.slice none 0 0, .int .i64 36])) else e = .returned (.tuple #[.slice none 0 0, .int .i64 1])
theorem head_arg {w w' : World} {size : Int} {ps : List Prp} {d : Bool} (h : ¬ (0 ≤ size ∧ size ≤ 1024)) (b : Below w.heap.size w w') : HeadPost w size ps d (.returned (.tuple #[.slice none 0 0, .int .i64 1])) w' := ⟨b, by rw [if_neg h]⟩
theorem head_msg {w w' : World} {size : Int} {ps : List Prp} {d : Bool} (h : 0 ≤ size ∧ size ≤ 1024) (hv : validB ps = false) (b : Below w.heap.size w w') : HeadPost w size ps d (.returned (.tuple #[.slice none 0 0, .int .i64 36])) w' := ⟨b, by rw [if_pos h, hv]; simp⟩
theorem head_ok {w w' : World} {size : Int} {ps : List Prp} {d : Bool} {v : Value} (h : 0 ≤ size ∧ size ≤ 1024) (hv : validB ps = true) (b : Below w.heap.size w w') (o : OB w' w.heap.size v (headB size.toNat ps d)) : HeadPost w size ps d (.returned (.tuple #[v, .int .i64 0])) w' := ⟨b, by rw [if_pos h, if_pos hv]; exact ⟨v, rfl, o⟩⟩

theorem rc_form' {w : World} {v : Value} {n s : Nat} {cs : List Value} (h : RC w v n s cs) : ∃ A c, v = .slice A n c ∧ n ≤ c ∧ c ≤ 9223372036854775807 := by
  obtain ⟨A, c, e, h1, h2, _⟩ := h
  exact ⟨A, c, e, h1, h2⟩
theorem putBad_c {w : World} {v vl : Value} {ps : List Prp} (hp : RPr w vl ps) (hsz : ∀ p ∈ ps, p.nm.size ≤ 140737488351232) (hv : validB ps = false) :
    Calls Tryd.prog 26 #[v, vl] w fun e w' => e = .returned (.tuple #[.slice none 0 0, .int .i64 36]) ∧ Below w.heap.size w w' := by
  have HV := Lib.hid (valid_c hp hsz)
  rw [hv] at HV
  clear hp hsz hv
  go_enter Tryd.func26, Tryd.ntmps26
  go_wp2_with fail
  refine (HV.out).mono ?_
  rintro e w1 ⟨rfl, b1⟩
  go_wp2_with fail
  go_ret2
  exact ⟨rfl, b1⟩

/-- The first four fields. -/
def pre4 (size f : Nat) : List UInt8 := [] ++ beB 60 2 ++ beB 0 2 ++ beB size 8 ++ beB f 2
theorem pre4_len (size f : Nat) : (pre4 size f).length = 14 := by simp [pre4, beB_len]
set_option maxRecDepth 1000000 in
set_option maxHeartbeats 4000000 in
theorem ahead_c {w : World} (size : Int) {vl : Value} {ps : List Prp} (d : Bool) (hp : RPr w vl ps) (hc : ∀ p ∈ ps, p.nm.size ≤ 140737488351232) (hr : ∀ p ∈ ps, p.r < 18446744073709551616) :
    Calls Tryd.prog 14 #[.int .i64 size, vl, .bool d] w (HeadPost w size ps d) := by
  obtain ⟨A, c, rfl, hc1, hc2⟩ := rc_form' hp
  by_cases h0 : size < 0
  · have HN := Lib.hid (show ¬ (0 ≤ size ∧ size ≤ 1024) by omega)
    go_enter Tryd.func14, Tryd.ntmps14
    go_wp2_with fail
    go_ret2
    exact head_arg HN.out (Below.refl _ _)
  · have h0' : 0 ≤ size := by omega
    by_cases h1 : 1024 < size
    · have HN := Lib.hid (show ¬ (0 ≤ size ∧ size ≤ 1024) by omega)
      clear h0
      go_enter Tryd.func14, Tryd.ntmps14
      go_wp2_with fail
      go_ret2
      exact head_arg HN.out (Below.refl _ _)
    · have h1' : size ≤ 1024 := by omega
      have HS := Lib.hid (show 0 ≤ size ∧ size ≤ 1024 from ⟨h0', h1'⟩)
      clear h0 h1
      obtain ⟨n, rfl⟩ := Int.eq_ofNat_of_zero_le h0'
      have HP := Lib.hid hp
      have HC := Lib.hid hc
      have HR := Lib.hid hr
      have hn9 := Lib.hid (show n < 9223372036854775808 by omega)
      clear hp hc hr
      have key : ∀ (f : Nat) (hf : f = 4096 ∨ f = 12288), Calls Tryd.prog 20 #[.slice none 0 0, .int .i64 60, .int .i64 2] w fun e w1 => ∃ v1, e = .returned v1 ∧ OB w1 w.heap.size v1 ([] ++ beB 60 2) ∧ Below w.heap.size w w1 := fun f hf =>
        hput_c (base := w.heap.size) (ob_nil _ _) (Nat.le_refl _) (by simp) 60 2 (by omega) (by omega) 60 2 rfl rfl
      cases ps with
      | nil =>
        go_enter Tryd.func14, Tryd.ntmps14
        go_wp2_with fail
        refine (key 4096 (.inl rfl)).mono ?_
        rintro e w1 ⟨v1, rfl, o1, b1⟩
        go_wp2_with fail
        refine (hput_c (base := w.heap.size) o1 b1.size (by simp [beB_len]) 0 2 (by omega) (by omega) 0 2 rfl rfl).mono ?_
        rintro e w2 ⟨v2, rfl, o2, b2⟩
        have B2 := b1.trans b2
        go_wp2_with fail
        refine (hput_c (base := w.heap.size) o2 B2.size (by simp [beB_len]) n 8 hn9.out (by omega) n 8 rfl rfl).mono ?_
        rintro e w3 ⟨v3, rfl, o3, b3⟩
        have B3 := B2.trans b3
        go_wp2_with fail
        refine (hput_c (base := w.heap.size) o3 B3.size (by simp [beB_len]) 4096 2 (by omega) (by omega) 4096 2 rfl rfl).mono ?_
        rintro e w4 ⟨v4, rfl, o4, b4⟩
        have B4 := B3.trans b4
        have O4 := Lib.hid (show OB w4 w.heap.size v4 (pre4 n 4096) from o4)
        have hv0 : validB [] = true := by decide
        have HPT := Lib.hid (put_c (base := 0) (ob_rb o4) (by simp [beB_len]) (rc_below HP.out B4) (by simp) (by simp) hv0)
        clear o1 b1 o2 b2 o3 b3 o4 b4 B2 B3
        cases d with
        | true =>
          go_wp2_with fail
          refine (HPT.out).mono ?_
          rintro e w5 ⟨v5, rfl, _, b5⟩
          have o5 := own_below O4.out b5
          have B5 := B4.trans (b5.mono B4.size)
          go_wp2_with fail
          refine (hput_c (base := w.heap.size) o5 B5.size (by rw [pre4_len]; omega) 2 1 (by omega) (by omega) 2 1 rfl rfl).mono ?_
          rintro e w6 ⟨v6, rfl, o6, b6⟩
          have O6 := Lib.hid o6
          clear o5 o6
          go_wp2_with fail
          go_ret2
          exact head_ok HS.out hv0 (B5.trans b6) (by have := O6.out; unfold headB flagsB; rw [if_pos rfl, if_pos rfl]; simpa [pre4] using this)
        | false =>
          go_wp2_with fail
          refine (HPT.out).mono ?_
          rintro e w5 ⟨v5, rfl, _, b5⟩
          have o5 := own_below O4.out b5
          have B5 := B4.trans (b5.mono B4.size)
          go_wp2_with fail
          refine (hput_c (base := w.heap.size) o5 B5.size (by rw [pre4_len]; omega) 1 1 (by omega) (by omega) 1 1 rfl rfl).mono ?_
          rintro e w6 ⟨v6, rfl, o6, b6⟩
          have O6 := Lib.hid o6
          clear o5 o6
          go_wp2_with fail
          go_ret2
          exact head_ok HS.out hv0 (B5.trans b6) (by have := O6.out; unfold headB flagsB; rw [if_pos rfl, if_pos rfl]; simpa [pre4] using this)
      | cons p ps =>
        have hl0 : (0 : Int) < (ps.length : Int) + 1 := by omega
        have hor : bits BinOp.or IntKind.i64 4096 8192 = 12288 := by kernel_rfl
        clear hc1 hc2
        go_enter Tryd.func14, Tryd.ntmps14
        go_wp2_with fail
        refine (key 4096 (.inl rfl)).mono ?_
        rintro e w1 ⟨v1, rfl, o1, b1⟩
        go_wp2_with fail
        refine (hput_c (base := w.heap.size) o1 b1.size (by simp [beB_len]) 0 2 (by omega) (by omega) 0 2 rfl rfl).mono ?_
        rintro e w2 ⟨v2, rfl, o2, b2⟩
        have B2 := b1.trans b2
        go_wp2_with fail
        refine (hput_c (base := w.heap.size) o2 B2.size (by simp [beB_len]) n 8 hn9.out (by omega) n 8 rfl rfl).mono ?_
        rintro e w3 ⟨v3, rfl, o3, b3⟩
        have B3 := B2.trans b3
        go_wp2_with fail
        refine (hput_c (base := w.heap.size) o3 B3.size (by simp [beB_len]) 12288 2 (by omega) (by omega) _ 2 rfl rfl).mono ?_
        rintro e w4 ⟨v4, rfl, o4, b4⟩
        have B4 := B3.trans b4
        have O4 := Lib.hid (show OB w4 w.heap.size v4 (pre4 n 12288) from o4)
        clear o1 b1 o2 b2 o3 b3 o4 b4 B2 B3
        cases hv : validB (p :: ps) with
        | false =>
          have HPT := Lib.hid (putBad_c (v := v4) (rc_below HP.out B4) HC.out hv)
          have HV := Lib.hid hv
          clear hv
          cases d with
          | true =>
            go_wp2_with fail
            refine (HPT.out).mono ?_
            rintro e w5 ⟨rfl, b5⟩
            go_wp2_with fail
            go_ret2
            exact head_msg HS.out HV.out (B4.trans (b5.mono B4.size))
          | false =>
            go_wp2_with fail
            refine (HPT.out).mono ?_
            rintro e w5 ⟨rfl, b5⟩
            go_wp2_with fail
            go_ret2
            exact head_msg HS.out HV.out (B4.trans (b5.mono B4.size))
        | true =>
          have HPT := Lib.hid (put_c (base := 0) (ob_rb O4.out) (by rw [pre4_len]; omega) (rc_below HP.out B4) HC.out HR.out hv)
          have HPL := Lib.hid (props_small hv)
          have HV := Lib.hid hv
          clear hv
          cases d with
          | true =>
            go_wp2_with fail
            refine (HPT.out).mono ?_
            rintro e w5 ⟨v5, rfl, o5, b5⟩
            have O5 := Lib.hid (own_lower o5 B4.size)
            have B5 := B4.trans (b5.mono B4.size)
            clear o5 b5
            go_wp2_with fail
            refine (hput_c (base := w.heap.size) O5.out B5.size (by have := HPL.out; rw [List.length_append, List.length_append, pre4_len, beB_len]; omega) 2 1 (by omega) (by omega) 2 1 rfl rfl).mono ?_
            rintro e w6 ⟨v6, rfl, o6, b6⟩
            have O6 := Lib.hid o6
            clear o6
            go_wp2_with fail
            go_ret2
            exact head_ok HS.out HV.out (B5.trans b6) (by have := O6.out; unfold headB flagsB; rw [if_neg (by simp), if_neg (by simp)]; unfold putB; simpa [pre4] using this)
          | false =>
            go_wp2_with fail
            refine (HPT.out).mono ?_
            rintro e w5 ⟨v5, rfl, o5, b5⟩
            have O5 := Lib.hid (own_lower o5 B4.size)
            have B5 := B4.trans (b5.mono B4.size)
            clear o5 b5
            go_wp2_with fail
            refine (hput_c (base := w.heap.size) O5.out B5.size (by have := HPL.out; rw [List.length_append, List.length_append, pre4_len, beB_len]; omega) 1 1 (by omega) (by omega) 1 1 rfl rfl).mono ?_
            rintro e w6 ⟨v6, rfl, o6, b6⟩
            have O6 := Lib.hid o6
            clear o6
            go_wp2_with fail
            go_ret2
            exact head_ok HS.out HV.out (B5.trans b6) (by have := O6.out; unfold headB flagsB; rw [if_neg (by simp), if_neg (by simp)]; unfold putB; simpa [pre4] using this)
end Go.Proofs.YtbniandbmabdbaaDoor
