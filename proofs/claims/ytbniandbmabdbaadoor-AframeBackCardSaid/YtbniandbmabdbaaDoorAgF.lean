/- Layers 15, 16: the reference's reader, its Next. -/
import Derived.Test.YtbniandbmabdbaaDoorAgD
import Derived.Deep.DeepCutAuto
import Derived.Deep.CutRange
namespace Go.Proofs.YtbniandbmabdbaaDoor.Af
open Go Go.RowKit
set_option linter.unusedSimpArgs false
set_option linter.unusedVariables false

/-- Block R is a reader of s. -/
def RR (w : World) (R : Nat) (s : ByteArray) (bad : Bool) : Prop := w.heap[R]? = some (.cells #[.string s, .bool bad] 52 (0, 0))
theorem rr_facts {w : World} {R : Nat} {s : ByteArray} {bad : Bool} (h : RR w R s bad) :
    w.cell? ⟨R, 0, none⟩ = some (.string s) ∧ w.cell? ⟨R, 1, none⟩ = some (.bool bad) ∧ w.frozen? ⟨R, 0, none⟩ = false ∧ w.frozen? ⟨R, 1, none⟩ = false := by
  refine ⟨?_, ?_, ?_, ?_⟩ <;> simp [World.cell?, World.frozen?, show w.heap[R]? = _ from h]
theorem rr_set0 {w : World} {R : Nat} {s : ByteArray} {bad : Bool} (h : RR w R s bad) (s' : ByteArray) : RR (w.setCell ⟨R, 0, none⟩ (.string s')) R s' bad := by
  unfold RR at h ⊢
  simp [World.setCell, Array.getElem?_modify, h]
theorem rr_set1 {w : World} {R : Nat} {s : ByteArray} {bad : Bool} (h : RR w R s bad) (b' : Bool) : RR (w.setCell ⟨R, 1, none⟩ (.bool b')) R s b' := by
  unfold RR at h ⊢
  simp [World.setCell, Array.getElem?_modify, h]

/-- What Take answers, what is left. -/
def tkOk (n : Int) (s : ByteArray) (bad : Bool) : Bool := !bad && decide (0 ≤ n) && decide (n ≤ s.size)
def tkOut (n : Int) (s : ByteArray) (bad : Bool) : ByteArray := if tkOk n s bad = true then s.extract 0 n.toNat else ByteArray.empty
def tkS (n : Int) (s : ByteArray) (bad : Bool) : ByteArray := if tkOk n s bad = true then s.extract n.toNat s.size else s
def tkBad (n : Int) (s : ByteArray) (bad : Bool) : Bool := !tkOk n s bad

def TkPost (w : World) (R : Nat) (v : Value) (s : ByteArray) (bad : Bool) (e : Ending) (w' : World) : Prop :=
  e = .returned v ∧ RR w' R s bad ∧ w.grownBy w' (some R)

set_option maxRecDepth 1000000 in
set_option maxHeartbeats 2000000 in
theorem take_c {w : World} {R : Nat} {s : ByteArray} {bad : Bool} (h : RR w R s bad) (n : Int) :
    Calls Tryd.prog 25 #[.pointer (some ⟨R, 0, none⟩), .int .i64 n] w (TkPost w R (.string (tkOut n s bad)) (tkS n s bad) (tkBad n s bad)) := by
  obtain ⟨c0, c1, f0, f1⟩ := rr_facts h
  have H := Lib.hid h
  clear h
  cases bad with
  | true =>
    have e1 : tkOut n s true = ByteArray.empty := rfl
    have e2 : tkS n s true = s := rfl
    have e3 : tkBad n s true = true := rfl
    rw [e1, e2, e3]
    clear e1 e2 e3
    go_enter Tryd.func25, Tryd.ntmps25
    go_wp2
    go_ret
    exact ⟨rfl, rr_set1 H.out true, grownBy_set _ R 1 _⟩
  | false =>
    by_cases h0 : n < 0
    · have e0 : tkOk n s false = false := by unfold tkOk; simp; omega
      rw [tkOut, tkS, tkBad, e0]
      clear e0
      go_enter Tryd.func25, Tryd.ntmps25
      go_wp2
      go_ret
      exact ⟨rfl, rr_set1 H.out true, grownBy_set _ R 1 _⟩
    · have h0' : 0 ≤ n := by omega
      by_cases h1 : (s.size : Int) < n
      · have e0 : tkOk n s false = false := by unfold tkOk; simp; omega
        rw [tkOut, tkS, tkBad, e0]
        clear e0 h0
        go_enter Tryd.func25, Tryd.ntmps25
        go_wp2
        go_ret
        exact ⟨rfl, rr_set1 H.out true, grownBy_set _ R 1 _⟩
      · have e0 : tkOk n s false = true := by unfold tkOk; simp; omega
        have h1' : n ≤ s.size := by omega
        have ht : n.toNat ≤ s.size := by omega
        rw [tkOut, tkS, tkBad, e0, if_pos rfl, if_pos rfl]
        clear e0 h0 h1
        go_enter Tryd.func25, Tryd.ntmps25
        go_wp2
        go_ret
        exact ⟨rfl, rr_set0 H.out _, grownBy_set _ R 0 _⟩

theorem tkOut_size (n : Int) (s : ByteArray) (bad : Bool) (k : Nat) (h : n ≤ k) : (tkOut n s bad).size ≤ k := by
  unfold tkOut
  split
  · rw [ByteArray.size_extract]; omega
  · exact Nat.zero_le _

set_option maxRecDepth 1000000 in
set_option maxHeartbeats 2000000 in
theorem number_c {w : World} {R : Nat} {s : ByteArray} {bad : Bool} (h : RR w R s bad) (n : Int) (hn : n ≤ 8) :
    Calls Tryd.prog 24 #[.pointer (some ⟨R, 0, none⟩), .int .i64 n] w (TkPost w R (.int .u64 (natB (tkOut n s bad).data.toList)) (tkS n s bad) (tkBad n s bad)) := by
  have HT := Lib.hid (take_c h n)
  have hx := tkOut_size n s bad 8 hn
  obtain ⟨x, hxe⟩ : ∃ x, x = tkOut n s bad := ⟨_, rfl⟩
  rw [← hxe] at HT hx
  rw [← hxe]
  clear hxe h
  have hsl : x.data.toList.length = x.size := by rw [Array.length_toList]; rfl
  have HSL := Lib.hid hsl
  clear hsl
  go_enter Tryd.func24, Tryd.ntmps24
  go_wp2_with fail
  refine (HT.out).mono ?_
  rintro e w1 ⟨rfl, r1, g1⟩
  have R1 := Lib.hid r1
  have G1 := Lib.hid g1
  clear r1 g1
  go_wp2
  go_loop [6, 7] (fun a i => ∃ k : Nat, k ≤ x.size ∧ i = .int .i64 k ∧ a = .int .u64 (natB (x.data.toList.take k))) (fun _ i => x.size - (intOf i).toNat)
  case atStart => exact ⟨0, Nat.zero_le _, rfl, rfl⟩
  case round =>
    obtain ⟨k, hk, rfl, rfl⟩ := hrel
    by_cases hlt : k < x.size
    · have hlt' : (k : Int) < x.size := by omega
      have hz : natB (x.data.toList.take k) < 256 ^ 7 := by
        refine Nat.lt_of_lt_of_le (natB_lt _) (Nat.pow_le_pow_right (by omega) ?_)
        rw [List.length_take]; omega
      have hb := UInt8.toNat_lt x[k]
      obtain ⟨z, hze⟩ : ∃ z, z = natB (x.data.toList.take k) := ⟨_, rfl⟩
      have hnx : natB (x.data.toList.take (k + 1)) = z * 256 + x[k].toNat := by
        rw [List.take_add_one, ba_at x k hlt, hze]
        exact natB_snoc _ _
      have HNX := Lib.hid hnx
      rw [← hze] at hz ⊢
      clear hnx hze
      have h256 : (256 : Nat) ^ 7 = 72057594037927936 := by decide
      rw [h256] at hz
      clear h256
      have hz1 : (z : Int) * 256 ≤ 18446744073709551360 := by omega
      have hz2 : (z : Int) * 256 + (x[k].toNat : Int) ≤ 18446744073709551615 := by omega
      have hz3 : (z : Int) < 72057594037927936 := by omega
      have hb3 : (x[k].toNat : Int) < 256 := by omega
      clear hz hb
      go_wp2
      trace_state
      go_round
      case rel => exact ⟨k + 1, by omega, by go_num, by rw [HNX.out, Int.natCast_add, Int.natCast_mul]; rfl⟩
      case measure => simp [intOf]; omega
    · have hd : x.data.toList.take k = x.data.toList := List.take_of_length_le (by have := HSL.out; omega)
      rw [hd]
      go_wp2
      go_ret
      exact ⟨rfl, R1.out, G1.out⟩
end Go.Proofs.YtbniandbmabdbaaDoor.Af
