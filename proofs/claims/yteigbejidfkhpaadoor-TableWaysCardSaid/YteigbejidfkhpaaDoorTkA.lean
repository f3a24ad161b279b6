/- Layer 15: the reader: it gives up where bytes are missing. -/
import Derived.Test.YteigbejidfkhpaaDoorTbF
import Derived.WalkSmall
import Derived.Lib.ConvBytes
namespace Go.Proofs.YteigbejidfkhpaaDoor
open Go Go.RowKit
set_option linter.unusedSimpArgs false
set_option linter.unusedVariables false

theorem below_al1 (w : World) (o : Obj) : Below w.heap.size w (w.alloc o) := (Below.refl _ _).alloc (Nat.le_refl _) o
abbrev StopE : Ending := .panicked [{ v := .iface 87 (.agg #[]), recovered := false }]
/-- Block g is a reader of s. -/
def RD (w : World) (g : Nat) (s : ByteArray) : Prop := w.heap[g]? = some (.cells #[.string s] 68 (0, 0))
theorem rd_facts {w : World} {g : Nat} {s : ByteArray} (h : RD w g s) : w.cell? ⟨g, 0, none⟩ = some (.string s) ∧ w.frozen? ⟨g, 0, none⟩ = false := by
  refine ⟨?_, ?_⟩ <;> simp [World.cell?, World.frozen?, show w.heap[g]? = _ from h]
theorem rd_lt {w : World} {g : Nat} {s : ByteArray} (h : RD w g s) : g < w.heap.size := (Array.getElem?_eq_some_iff.1 h).1
theorem rd_set {w : World} {g : Nat} {s : ByteArray} (h : RD w g s) (s' : ByteArray) : RD (w.setCell ⟨g, 0, none⟩ (.string s')) g s' := by
  unfold RD at h ⊢
  simp [World.setCell, Array.getElem?_modify, h]
/-- The next n bytes, and what is left. -/
def takeP (n : Nat) (s : ByteArray) : Option (ByteArray × ByteArray) := if n ≤ s.size then some (s.extract 0 n, s.extract n s.size) else none
def numP (k : Nat) (s : ByteArray) : Option (Nat × ByteArray) := (takeP k s).map fun p => (natB p.1.data.toList, p.2)
def shortP (s : ByteArray) : Option (ByteArray × ByteArray) := (numP 1 s).bind fun p => takeP p.1 p.2
def longP (s : ByteArray) : Option (ByteArray × ByteArray) := (numP 4 s).bind fun p => takeP p.1 p.2
/-- What a reading leaves: an answer and a reader of what is left, or it has given up. -/
def PR {X : Type} (w : World) (g : Nat) (f : X → Value) (o : Option (X × ByteArray)) (e : Ending) (w' : World) : Prop :=
  w.grownBy w' (some g) ∧ match o with
    | some (x, r) => e = .returned (f x) ∧ RD w' g r
    | none => e = StopE
theorem pr_some {X : Type} {w w' : World} {g : Nat} {f : X → Value} {o : Option (X × ByteArray)} {e : Ending} {x : X} {r : ByteArray} (ho : o = some (x, r)) (hg : w.grownBy w' (some g)) (he : e = .returned (f x)) (hr : RD w' g r) : PR w g f o e w' := by
  subst ho
  exact ⟨hg, he, hr⟩
theorem pr_none {X : Type} {w w' : World} {g : Nat} {f : X → Value} {o : Option (X × ByteArray)} {e : Ending} (ho : o = none) (hg : w.grownBy w' (some g)) (he : e = StopE) : PR w g f o e w' := by
  subst ho
  exact ⟨hg, he⟩

set_option maxRecDepth 1000000 in
set_option maxHeartbeats 2000000 in
theorem rdTake_c {w : World} {g : Nat} {s : ByteArray} (h : RD w g s) (n : Nat) (ni : Int) (hni : ni = n) :
    Calls Tryd.prog 67 #[.pointer (some ⟨g, 0, none⟩), .int .i64 ni] w (PR w g Value.string (takeP n s)) := by
  subst hni
  obtain ⟨c0, f0⟩ := rd_facts h
  have H := Lib.hid h
  clear h
  by_cases h1 : n ≤ s.size
  · have h1' : (n : Int) ≤ s.size := by omega
    have hp := Lib.hid (show takeP n s = some (s.extract 0 n, s.extract n s.size) by unfold takeP; rw [if_pos h1])
    clear h1
    go_enter Tryd.func67, Tryd.ntmps67
    go_wp2
    go_ret
    exact pr_some hp.out (grownBy_set _ g 0 _) rfl (rd_set H.out _)
  · have h1' : (s.size : Int) < n := by omega
    have hp := Lib.hid (show takeP n s = none by unfold takeP; rw [if_neg h1])
    clear h1
    go_enter Tryd.func67, Tryd.ntmps67
    go_wp2
    exact ⟨rfl, pr_none hp.out (World.grownBy.refl w _) rfl⟩
/-- The two ways of a reading, apart. -/
theorem pr_yes {X : Type} {P : Program} {f : FuncId} {args : Array Value} {w : World} {g : Nat} {v : X → Value} {o : Option (X × ByteArray)} {x : X} {r : ByteArray} (h : Calls P f args w (PR w g v o)) (ho : o = some (x, r)) : Calls P f args w fun e w' => e = .returned (v x) ∧ RD w' g r ∧ w.grownBy w' (some g) := by
  subst ho
  exact h.mono fun e w' ⟨a, b, c⟩ => ⟨b, c, a⟩
theorem pr_no {X : Type} {P : Program} {f : FuncId} {args : Array Value} {w : World} {g : Nat} {v : X → Value} {o : Option (X × ByteArray)} (h : Calls P f args w (PR w g v o)) (ho : o = none) : Calls P f args w fun e w' => e = StopE ∧ w.grownBy w' (some g) := by
  subst ho
  exact h.mono fun e w' ⟨a, b⟩ => ⟨b, a⟩

theorem takeP_size {n : Nat} {s x r : ByteArray} (h : takeP n s = some (x, r)) : x.size = n ∧ r.size + n = s.size := by
  unfold takeP at h
  split at h
  · injection h with h
    injection h with h1 h2
    subst h1 h2
    rw [ByteArray.size_extract, ByteArray.size_extract]
    omega
  · cases h

theorem or64 (z b : Nat) (hz : z < 2 ^ 56) (hb : b < 256) : bits BinOp.or IntKind.u64 ((z : Int) * 256) (b : Int) = ((z * 256 + b : Nat) : Int) := by
  have h3 : (z * 256) ||| b = z * 256 + b := by
    have := Nat.shiftLeft_add_eq_or_of_lt (i := 8) (b := b) (by omega) z
    rw [Nat.shiftLeft_eq] at this
    exact this.symm
  rw [show ((z : Int) * 256) = ((z * 256 : Nat) : Int) by omega]
  have e64 : IntKind.u64.bits = 64 := rfl
  have hm : (BitVec.ofInt IntKind.u64.bits ((z * 256 : Nat) : Int) ||| BitVec.ofInt IntKind.u64.bits ((b : Nat) : Int)).toNat = z * 256 + b := by
    rw [BitVec.toNat_or, BitVec.ofInt_natCast, BitVec.ofInt_natCast, BitVec.toNat_ofNat, BitVec.toNat_ofNat, e64, Nat.mod_eq_of_lt (by omega), Nat.mod_eq_of_lt (by omega), h3]
  show IntKind.u64.wrap (((BitVec.ofInt IntKind.u64.bits ((z * 256 : Nat) : Int) ||| BitVec.ofInt IntKind.u64.bits ((b : Nat) : Int)).toNat : Nat) : Int) = _
  rw [hm]
  exact IntWalk.u64_in _ (by omega)
theorem conv_b (w : World) (s : ByteArray) : ∃ (c : Nat) (W : World), (convert 9 29 (.string s)).run Tryd.prog w = .ok (.slice (some ⟨w.heap.size, 0, none⟩) s.size c) W ∧ Below w.heap.size w W ∧ ∀ (j : Nat) (h : j < s.size), W.cell? ⟨w.heap.size, j, none⟩ = some (.int .u8 s[j].toNat) := by
  refine ⟨_, _, Lib.run_convert_string_bytes w 9 29 5 s Tryd.underlying9 Tryd.underlying29 Tryd.underlying5, ?_, fun j h => ?_⟩
  · exact ⟨rfl, rfl, rfl, by rw [Lib.bytesWorld_size]; omega, fun i hi => Lib.bytesWorld_at_old w _ s i hi⟩
  · rw [Lib.bytesWorld_cell w _ s j h, List.getD_eq_getElem?_getD, ba_at s j h]
    rfl
theorem rd_below {w w1 : World} {g : Nat} {s : ByteArray} (h : RD w g s) (b : Below w.heap.size w w1) : RD w1 g s := by
  unfold RD at h ⊢
  rw [b.block g (Array.getElem?_eq_some_iff.1 h).1]
  exact h
set_option maxRecDepth 1000000 in
set_option maxHeartbeats 2000000 in
theorem rdNumber_c {w : World} {g : Nat} {s : ByteArray} (h : RD w g s) (k : Nat) (hk : k ≤ 8) (ki : Int) (hki : ki = k) :
    Calls Tryd.prog 48 #[.pointer (some ⟨g, 0, none⟩), .int .i64 ki] w (PR w g (fun n : Nat => .int .u64 n) (numP k s)) := by
  have hT := rdTake_c h k ki hki
  clear h
  cases ho : takeP k s with
  | none =>
    have HT := Lib.hid (pr_no hT ho)
    have HN := Lib.hid (show numP k s = none by unfold numP; rw [ho]; rfl)
    clear ho hT hki
    go_enter Tryd.func48, Tryd.ntmps48
    go_wp2_with fail
    refine (HT.out).mono ?_
    rintro e w1 ⟨rfl, g1⟩
    go_wp2_with fail
    exact ⟨rfl, pr_none HN.out g1 rfl⟩
  | some p =>
    obtain ⟨x, r⟩ := p
    have HT := Lib.hid (pr_yes hT ho)
    have hxs := (takeP_size ho).1
    have HN := Lib.hid (show numP k s = some (natB x.data.toList, r) by unfold numP; rw [ho]; rfl)
    have hx : x.size ≤ 8 := by omega
    have hsl := Lib.hid (ba_size x)
    have hxm : x.size ≤ 140737488355328 := by omega
    clear ho hT hki hxs
    go_enter Tryd.func48, Tryd.ntmps48
    go_wp2_with fail
    refine (HT.out).mono ?_
    rintro e w1 ⟨rfl, r1, g1⟩
    have R1 := Lib.hid r1
    have G1 := Lib.hid g1
    clear r1 g1
    obtain ⟨c, W, hcv, bW, hcell⟩ := conv_b w1 x
    have HC := Lib.hid hcell
    have R2 := Lib.hid (rd_below R1.out bW)
    have G2 := Lib.hid (G1.out.trans (grownBy_below bW _))
    clear hcell bW R1 G1
    go_wp2_with fail
    go_loop [5, 13, 7] (fun a i _y => ∃ j : Nat, j ≤ x.size ∧ i = .int .i64 j ∧ a = .int .u64 (natB (x.data.toList.take j))) (fun _ i _ => x.size - (intOf i).toNat)
    case atStart => exact ⟨0, Nat.zero_le _, rfl, rfl⟩
    case round =>
      obtain ⟨j, hj, rfl, rfl⟩ := hrel
      by_cases hlt : j < x.size
      · have hlt' : (j : Int) < x.size := by omega
        have q0 := HC.out j hlt
        have hz : natB (x.data.toList.take j) < 256 ^ 7 := by
          refine Nat.lt_of_lt_of_le (natB_lt _) (Nat.pow_le_pow_right (by omega) ?_)
          rw [List.length_take]; omega
        have hb := UInt8.toNat_lt x[j]
        obtain ⟨z, hze⟩ : ∃ z, z = natB (x.data.toList.take j) := ⟨_, rfl⟩
        have hnx : natB (x.data.toList.take (j + 1)) = z * 256 + x[j].toNat := by
          rw [List.take_add_one, ba_at x j hlt, hze]
          exact natB_snoc _ _
        have HNX := Lib.hid hnx
        rw [← hze] at hz ⊢
        clear hnx hze
        have h256 : (256 : Nat) ^ 7 = 72057594037927936 := by decide
        rw [h256] at hz
        clear h256
        obtain ⟨y, hy⟩ : ∃ y : Nat, y = x[j].toNat := ⟨_, rfl⟩
        rw [← hy] at q0 hb HNX
        have hor := or64 z y (by omega) hb
        have hz1 : (z : Int) * 256 ≤ 18446744073709551360 := by omega
        have hz3 : (z : Int) < 72057594037927936 := by omega
        have hb3 : (y : Int) < 256 := by omega
        clear hz hb hy
        go_wp2
        go_round
        case rel => exact ⟨j + 1, by omega, by go_num, by rw [HNX.out, Int.natCast_add, Int.natCast_mul]; rfl⟩
        case measure => simp [intOf]; omega
      · have hd : x.data.toList.take j = x.data.toList := List.take_of_length_le (by have := hsl.out; omega)
        rw [hd]
        go_wp2
        go_ret
        exact pr_some HN.out G2.out rfl R2.out
theorem numP_lt {k n : Nat} {s r : ByteArray} (h : numP k s = some (n, r)) : n < 256 ^ k := by
  unfold numP at h
  obtain ⟨p, h1, h2⟩ := Option.map_eq_some_iff.1 h
  obtain ⟨x, y⟩ := p
  injection h2 with h2 h3
  have := natB_lt x.data.toList
  rw [ba_size, (takeP_size h1).1] at this
  rw [← h2]
  exact this
theorem numP_size {k n : Nat} {s r : ByteArray} (h : numP k s = some (n, r)) : r.size + k = s.size := by
  unfold numP at h
  obtain ⟨p, h1, h2⟩ := Option.map_eq_some_iff.1 h
  obtain ⟨x, y⟩ := p
  injection h2 with h2 h3
  have := (takeP_size h1).2
  rw [← h3]
  exact this

set_option maxRecDepth 100000 in
theorem unless_yes {w : World} : Calls Tryd.prog 49 #[.bool true] w fun e w' => e = .returned (.tuple #[]) ∧ w = w' := by
  go_enter Tryd.func49, Tryd.ntmps49
  go_wp2
  go_end0
  exact ⟨rfl, rfl⟩
set_option maxRecDepth 100000 in
theorem unless_no {w : World} : Calls Tryd.prog 49 #[.bool false] w fun e w' => e = StopE ∧ w = w' := by
  go_enter Tryd.func49, Tryd.ntmps49
  go_wp2
  exact ⟨rfl, rfl, rfl⟩

set_option maxRecDepth 1000000 in
set_option maxHeartbeats 2000000 in
theorem rdShort_c {w : World} {g : Nat} {s : ByteArray} (h : RD w g s) :
    Calls Tryd.prog 50 #[.pointer (some ⟨g, 0, none⟩)] w (PR w g Value.string (shortP s)) := by
  have hN := rdNumber_c h 1 (by omega) 1 rfl
  clear h
  cases ho : numP 1 s with
  | none =>
    have HN := Lib.hid (pr_no hN ho)
    have HP := Lib.hid (show shortP s = none by unfold shortP; rw [ho]; rfl)
    clear ho hN
    go_enter Tryd.func50, Tryd.ntmps50
    go_wp2_with fail
    refine (HN.out).mono ?_
    rintro e w1 ⟨rfl, g1⟩
    go_wp2_with fail
    exact ⟨rfl, pr_none HP.out g1 rfl⟩
  | some p =>
    obtain ⟨n, r⟩ := p
    have HN := Lib.hid (pr_yes hN ho)
    have hn := numP_lt ho
    have hnI : (n : Int) < 256 := by omega
    have HP := Lib.hid (show shortP s = takeP n r by unfold shortP; rw [ho]; rfl)
    clear ho hN hn
    go_enter Tryd.func50, Tryd.ntmps50
    go_wp2_with fail
    refine (HN.out).mono ?_
    rintro e w1 ⟨rfl, r1, g1⟩
    have hT := rdTake_c r1 n n rfl
    have G1 := Lib.hid g1
    clear r1 g1
    cases ho2 : takeP n r with
    | none =>
      have HT := Lib.hid (pr_no hT ho2)
      have HO := Lib.hid ho2
      clear hT ho2
      go_wp2_with fail
      refine (HT.out).mono ?_
      rintro e w2 ⟨rfl, g2⟩
      go_wp2_with fail
      exact ⟨rfl, pr_none (HP.out.trans HO.out) (G1.out.trans g2) rfl⟩
    | some q =>
      obtain ⟨x, r'⟩ := q
      have HT := Lib.hid (pr_yes hT ho2)
      have HO := Lib.hid ho2
      clear hT ho2
      go_wp2_with fail
      refine (HT.out).mono ?_
      rintro e w2 ⟨rfl, r2, g2⟩
      go_wp2_with fail
      go_ret
      exact pr_some (HP.out.trans HO.out) (G1.out.trans g2) rfl r2

set_option maxRecDepth 1000000 in
set_option maxHeartbeats 2000000 in
theorem rdLong_c {w : World} {g : Nat} {s : ByteArray} (h : RD w g s) (hs : s.size ≤ 140737488355328) :
    Calls Tryd.prog 51 #[.pointer (some ⟨g, 0, none⟩)] w (PR w g Value.string (longP s)) := by
  have hN := rdNumber_c h 4 (by omega) 4 rfl
  clear h
  cases ho : numP 4 s with
  | none =>
    have HN := Lib.hid (pr_no hN ho)
    have HP := Lib.hid (show longP s = none by unfold longP; rw [ho]; rfl)
    clear ho hN
    go_enter Tryd.func51, Tryd.ntmps51
    go_wp2_with fail
    refine (HN.out).mono ?_
    rintro e w1 ⟨rfl, g1⟩
    go_wp2_with fail
    exact ⟨rfl, pr_none HP.out g1 rfl⟩
  | some p =>
    obtain ⟨n, r⟩ := p
    have HN := Lib.hid (pr_yes hN ho)
    have hn := numP_lt ho
    have hr := numP_size ho
    have hrI : (r.size : Int) ≤ 140737488355328 := by omega
    have hnI : (n : Int) < 4294967296 := by omega
    have HP := Lib.hid (show longP s = takeP n r by unfold longP; rw [ho]; rfl)
    clear ho hN hn hr hs
    go_enter Tryd.func51, Tryd.ntmps51
    go_wp2_with fail
    refine (HN.out).mono ?_
    rintro e w1 ⟨rfl, r1, g1⟩
    have hT := rdTake_c r1 n n rfl
    obtain ⟨c0, f0⟩ := rd_facts r1
    have G1 := Lib.hid g1
    clear r1 g1
    by_cases hle : n ≤ r.size
    · have hleI : (n : Int) ≤ r.size := by omega
      have ho2 : takeP n r = some (r.extract 0 n, r.extract n r.size) := by unfold takeP; rw [if_pos hle]
      have HT := Lib.hid (pr_yes hT ho2)
      have HO := Lib.hid ho2
      clear hT ho2 hle
      go_wp2_with (first
        | (go_at_call 49; refine unless_yes.mono ?_; rintro e w2 ⟨rfl, rfl⟩)
        | (go_at_call 67; refine (HT.out).mono ?_; rintro e w2 ⟨rfl, r2, g2⟩))
      go_ret
      exact pr_some (HP.out.trans HO.out) (G1.out.trans g2) rfl r2
    · have hleI : ¬ (n : Int) ≤ r.size := by omega
      have HO := Lib.hid (show takeP n r = none by unfold takeP; rw [if_neg hle])
      have hd : decide (n ≤ r.size) = false := decide_eq_false hle
      clear hT hle
      go_wp2_with (go_at_call 49; refine unless_no.mono ?_; rintro e w2 ⟨rfl, rfl⟩)
      exact ⟨rfl, pr_none (HP.out.trans HO.out) G1.out rfl⟩
end Go.Proofs.YteigbejidfkhpaaDoor
