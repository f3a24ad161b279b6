/- Layer 16: the reference's Next. -/
import Derived.Test.YtbniandbmabdbaaDoorAgF
import Derived.Test.YtbniandbmabdbaaDoorAgE
import Derived.Deep.DeepCutAuto
import Derived.Deep.CutRange
namespace Go.Proofs.YtbniandbmabdbaaDoor.Af
open Go Go.RowKit
set_option linter.unusedSimpArgs false
set_option linter.unusedVariables false

theorem ext_ext (s : ByteArray) (a n : Nat) (h : a + n ≤ s.size) : (s.extract a s.size).extract 0 n = s.extract a (a + n) := by
  rw [ByteArray.extract_extract, Nat.min_eq_left h, Nat.add_zero]
theorem ext_rest (s : ByteArray) (a n : Nat) (h : a ≤ s.size) : (s.extract a s.size).extract n (s.extract a s.size).size = s.extract (a + n) s.size := by
  rw [ByteArray.extract_extract, ByteArray.size_extract, Nat.min_eq_right (by omega)]
theorem tk_ok (s : ByteArray) (a k : Nat) (h : a + k ≤ s.size) : tkOut k (s.extract a s.size) false = s.extract a (a + k) ∧ tkS k (s.extract a s.size) false = s.extract (a + k) s.size ∧ tkBad k (s.extract a s.size) false = false := by
  have e : tkOk k (s.extract a s.size) false = true := by
    unfold tkOk
    rw [ByteArray.size_extract]
    simp
    omega
  rw [tkOut, tkS, tkBad, if_pos e, if_pos e, e, Int.toNat_natCast, ext_ext s a k h, ext_rest s a k (by omega)]
  exact ⟨rfl, rfl, rfl⟩
theorem num_ok {w : World} {R : Nat} {s : ByteArray} {a k : Nat} (h : RR w R (s.extract a s.size) false) (hk : k ≤ 8) (ha : a + k ≤ s.size) (ki : Int) (hki : ki = (k : Int)) :
    Calls Tryd.prog 24 #[.pointer (some ⟨R, 0, none⟩), .int .i64 ki] w (TkPost w R (.int .u64 (natB (s.extract a (a + k)).data.toList)) (s.extract (a + k) s.size) false) := by
  subst hki
  have c := number_c h (k : Int) (by omega)
  obtain ⟨e1, e2, e3⟩ := tk_ok s a k ha
  rw [e1, e2, e3] at c
  exact c
theorem ext_all (s : ByteArray) : s.extract 0 s.size = s := by
  apply ByteArray.ext
  rw [ByteArray.data_extract]
  exact Array.extract_size
theorem at0 (s : ByteArray) (h : 0 < s.size) : natB (s.extract 0 1).data.toList = (atB s 0).toNat := by
  have : s.data.size = s.size := rfl
  rw [ByteArray.data_extract, atB]
  obtain ⟨⟨l⟩⟩ := s
  cases l with
  | nil => exact absurd h (by decide)
  | cons b r => simp [natB]

theorem num1 {w : World} {R : Nat} {s : ByteArray} (h : RR w R s false) (h7 : 7 ≤ s.size) :
    Calls Tryd.prog 24 #[.pointer (some ⟨R, 0, none⟩), .int .i64 1] w (TkPost w R (.int .u64 (atB s 0).toNat) (s.extract 1 s.size) false) := by
  have := num_ok (a := 0) (k := 1) (s := s) (by rw [ext_all]; exact h) (by omega) (by omega) 1 rfl
  rw [at0 s (by omega)] at this
  exact this
theorem num2 {w : World} {R : Nat} {s : ByteArray} (h : RR w R (s.extract 1 s.size) false) (h7 : 7 ≤ s.size) :
    Calls Tryd.prog 24 #[.pointer (some ⟨R, 0, none⟩), .int .i64 2] w (TkPost w R (.int .u64 (chB s)) (s.extract 3 s.size) false) :=
  num_ok (a := 1) (k := 2) h (by omega) (by omega) 2 rfl
theorem num4 {w : World} {R : Nat} {s : ByteArray} (h : RR w R (s.extract 3 s.size) false) (h7 : 7 ≤ s.size) :
    Calls Tryd.prog 24 #[.pointer (some ⟨R, 0, none⟩), .int .i64 4] w (TkPost w R (.int .u64 (lenB s)) (s.extract 7 s.size) false) :=
  num_ok (a := 3) (k := 4) h (by omega) (by omega) 4 rfl

/-- Block F is a frame. -/
def FB (w : World) (F : Nat) (c0 c1 c2 : Value) : Prop := w.heap[F]? = some (.cells #[c0, c1, c2] 23 (0, 0))
theorem fb_facts {w : World} {F : Nat} {a b c : Value} (h : FB w F a b c) :
    w.cell? ⟨F, 0, none⟩ = some a ∧ w.cell? ⟨F, 1, none⟩ = some b ∧ w.cell? ⟨F, 2, none⟩ = some c ∧ w.frozen? ⟨F, 0, none⟩ = false ∧ w.frozen? ⟨F, 1, none⟩ = false ∧ w.frozen? ⟨F, 2, none⟩ = false := by
  refine ⟨?_, ?_, ?_, ?_, ?_, ?_⟩ <;> simp [World.cell?, World.frozen?, show w.heap[F]? = _ from h]
theorem fb_new (w : World) (a b c : Value) : FB (w.alloc (.cells #[a, b, c] 23)) w.heap.size a b c := heap_alloc_new w _
theorem fb_alloc {w : World} {F : Nat} {a b c : Value} (h : FB w F a b c) (o : Obj) : FB (w.alloc o) F a b c := by
  unfold FB at h ⊢
  rw [heap_alloc_old _ _ (Array.getElem?_eq_some_iff.1 h).1]
  exact h
theorem fb_lt {w : World} {F : Nat} {a b c : Value} (h : FB w F a b c) : F < w.heap.size := (Array.getElem?_eq_some_iff.1 h).1
theorem fb_grown {w w1 : World} {F : Nat} {a b c : Value} (h : FB w F a b c) {r : Nat} (hg : w.grownBy w1 (some r)) (hr : r ≠ F) : FB w1 F a b c := by
  unfold FB at h ⊢
  rw [hg.block F (fb_lt h) (by simpa using Ne.symm hr)]
  exact h
theorem fb_set1 {w : World} {F : Nat} {a b c : Value} (h : FB w F a b c) (v : Value) : FB (w.setCell ⟨F, 1, none⟩ v) F a v c := by
  unfold FB at h ⊢
  simp [World.setCell, Array.getElem?_modify, h]
theorem fb_set2 {w : World} {F : Nat} {a b c : Value} (h : FB w F a b c) (v : Value) : FB (w.setCell ⟨F, 2, none⟩ v) F a b v := by
  unfold FB at h ⊢
  simp [World.setCell, Array.getElem?_modify, h]
theorem fb_store {w : World} {F : Nat} {a b c : Value} (h : FB w F a b c) (a' b' c' : Value) : FB (((w.setCell ⟨F, 0, none⟩ a').setCell ⟨F, 1, none⟩ b').setCell ⟨F, 2, none⟩ c') F a' b' c' := by
  unfold FB at h ⊢
  simp [World.setCell, Array.getElem?_modify, h]
theorem store_below {w0 w : World} {B F : Nat} (h : Below B w0 w) (hB : B ≤ w.heap.size) (hF : B ≤ F) (a' b' c' : Value) : Below B w0 (((w.setCell ⟨F, 0, none⟩ a').setCell ⟨F, 1, none⟩ b').setCell ⟨F, 2, none⟩ c') :=
  h.grown (((grownBy_set w F 0 a').trans (grownBy_set _ F 1 b')).trans (grownBy_set _ F 2 c')) hB (by intro k hk; injection hk with hk; omega)
theorem rr_lt {w : World} {R : Nat} {s : ByteArray} {bad : Bool} (h : RR w R s bad) : R < w.heap.size := (Array.getElem?_eq_some_iff.1 h).1
theorem rr_alloc {w : World} {R : Nat} {s : ByteArray} {bad : Bool} (h : RR w R s bad) (o : Obj) : RR (w.alloc o) R s bad := by
  unfold RR at h ⊢
  rw [heap_alloc_old _ _ (Array.getElem?_eq_some_iff.1 h).1]
  exact h
theorem rr_grown {w w1 : World} {R : Nat} {s : ByteArray} {bad : Bool} (h : RR w R s bad) {r : Nat} (hg : w.grownBy w1 (some r)) (hr : r ≠ R) : RR w1 R s bad := by
  unfold RR at h ⊢
  rw [hg.block R (rr_lt h) (by simpa using Ne.symm hr)]
  exact h
theorem rr_new (w : World) (o : Obj) (s : ByteArray) : RR ((w.alloc o).alloc (.cells #[.string s, .bool false] 52)) (w.heap.size + 1) s false := heap_alloc2_new w _ _
theorem ne_nil (s : ByteArray) (h : 0 < s.size) : s.toList.isEmpty = false := by
  rw [ByteArray.toList_eq]
  have h' : 0 < s.data.toList.length := by rw [Array.length_toList]; exact h
  cases hd : s.data.toList with
  | nil => rw [hd] at h'; exact absurd h' (by decide)
  | cons a l => rfl

theorem ext_one (s : ByteArray) (k : Nat) (h : k < s.size) : (s.extract k (k + 1)).toList = [atB s k] := by
  have h' : k < s.data.toList.length := by rw [Array.length_toList]; exact h
  rw [ByteArray.toList_eq, ByteArray.data_extract, Array.toList_extract, List.extract_eq_take_drop, Nat.add_sub_cancel_left, List.drop_eq_getElem_cons h', atB, List.getElem?_eq_getElem h']
  rfl
theorem at_lt (s : ByteArray) : ((atB s 0).toNat : Int) < 256 := by have := UInt8.toNat_lt (atB s 0); omega
theorem ch_lt (s : ByteArray) (h7 : 7 ≤ s.size) : (chB s : Int) < 65536 := by
  have := natB_lt (s.extract 1 3).data.toList
  rw [show (s.extract 1 3).data.toList.length = 2 by rw [Array.length_toList]; show (s.extract 1 3).size = 2; rw [ext_size _ _ _ (by omega)]] at this
  unfold chB
  omega
theorem len_lt (s : ByteArray) (h7 : 7 ≤ s.size) : (lenB s : Int) < 4294967296 := by
  have := natB_lt (s.extract 3 7).data.toList
  rw [show (s.extract 3 7).data.toList.length = 4 by rw [Array.length_toList]; show (s.extract 3 7).size = 4; rw [ext_size _ _ _ (by omega)]] at this
  unfold lenB
  omega

set_option maxRecDepth 1000000 in
set_option maxHeartbeats 8000000 in
theorem refNext_c {w : World} (s : ByteArray) (hs : s.size ≤ 140737488351232) :
    Calls Tryd.prog 12 #[.string s] w fun e w' => e = .returned (nxA s) ∧ Below w.heap.size w w' := by
  have bW := (Below.refl w.heap.size w).alloc (Nat.le_refl _) (.cells #[.int .i64 0, .int .i64 0, .string ByteArray.empty] 23)
  by_cases h0 : 0 < s.size
  · have h0' : (0 : Int) < s.size := by omega
    have hE := ne_nil s h0
    have hk1 : wrap64 (s[0].toNat : Int) = (atB s 0).toNat := by rw [atB_eq s 0 h0, wrap_u8]
    by_cases hk : kindB (atB s 0).toNat = false
    · have hp : nxA s = nxV 0 0 ByteArray.empty 0 (40 : Nat) := nxA_err (by unfold nxE; rw [if_pos ⟨h0, hk⟩]) (by decide)
      rw [hp]
      have hk2 : kindB (wrap64 (s[0].toNat : Int)) = false := by rw [hk1]; exact hk
      clear hp hk hk1
      go_enter Tryd.func12, Tryd.ntmps12
      go_wp2_with fail
      refine (refKind_c _).mono ?_
      rw [hk2]
      rintro e w1 ⟨rfl, rfl⟩
      go_wp2_with fail
      refine next_end rfl rfl (heap_alloc_new w _) rfl ?_
      exact ⟨rfl, bW⟩
    · have hk2 : kindB (wrap64 (s[0].toNat : Int)) = true := by rw [hk1]; simpa using hk
      clear hk1
      by_cases h7 : s.size < 7
      · have hp : nxA s = nxV 0 0 ByteArray.empty 0 (41 : Nat) := nxA_err (by unfold nxE; rw [if_neg (fun h => hk h.2), if_pos h7]) (by decide)
        rw [hp]
        have h7' : (s.size : Int) < 7 := by omega
        clear hp hk h7
        go_enter Tryd.func12, Tryd.ntmps12
        go_wp2_with fail
        refine (refKind_c _).mono ?_
        rw [hk2]
        rintro e w1 ⟨rfl, rfl⟩
        go_wp2_with fail
        refine next_end rfl rfl (heap_alloc_new w _) rfl ?_
        exact ⟨rfl, bW⟩
      · have h7' : (7 : Int) ≤ s.size := by omega
        have H7 := Lib.hid (show 7 ≤ s.size by omega)
        have HK := Lib.hid hk
        have R0 := Lib.hid (rr_new w (.cells #[.int .i64 0, .int .i64 0, .string ByteArray.empty] 23) s)
        have G0 := Lib.hid (fb_alloc (fb_new w (.int .i64 0) (.int .i64 0) (.string ByteArray.empty)) (.cells #[.string s, .bool false] 52))
        have B0 := Lib.hid (bW.alloc (Nat.le_of_lt (fb_lt (fb_new w (.int .i64 0) (.int .i64 0) (.string ByteArray.empty)))) (.cells #[.string s, .bool false] 52))
        have hsz0 := Lib.hid (show ((w.alloc (.cells #[.int .i64 0, .int .i64 0, .string ByteArray.empty] 23)).alloc (.cells #[.string s, .bool false] 52)).heap.size = w.heap.size + 2 by show ((w.heap.push _).push _).size = _; simp)
        clear hk h7
        go_enter Tryd.func12, Tryd.ntmps12
        go_wp2_with fail
        refine (refKind_c _).mono ?_
        rw [hk2]
        rintro e w1 ⟨rfl, rfl⟩
        go_wp2_with fail
        refine (num1 R0.out H7.out).mono ?_
        rintro e w1 ⟨rfl, r1, g1⟩
        have hs1 : w.heap.size + 2 ≤ w1.heap.size := Nat.le_trans (Nat.le_of_eq hsz0.out.symm) g1.size
        have R1 := Lib.hid (rr_alloc r1 (.cells #[.int .i64 (atB s 0).toNat, .int .i64 0, .string ByteArray.empty] 23))
        have G1 := Lib.hid (fb_alloc (fb_grown G0.out g1 (by omega)) (.cells #[.int .i64 (atB s 0).toNat, .int .i64 0, .string ByteArray.empty] 23))
        have F1 := Lib.hid (fb_new w1 (.int .i64 (atB s 0).toNat) (.int .i64 0) (.string ByteArray.empty))
        have B1 := Lib.hid ((B0.out.grown g1 B0.out.size (by intro k hk; injection hk with hk; omega)).alloc (by omega) (.cells #[.int .i64 (atB s 0).toNat, .int .i64 0, .string ByteArray.empty] 23))
        have ht := at_lt s
        clear r1 g1
        go_wp2_with fail
        refine (num2 R1.out H7.out).mono ?_
        rintro e w2 ⟨rfl, r2, g2⟩
        have F2 := fb_grown F1.out g2 (by omega)
        have G2 := fb_grown G1.out g2 (by omega)
        obtain ⟨_, f1, _, _, f1', _⟩ := fb_facts F2
        have gs2 := grownBy_set w2 w1.heap.size 1 (.int .i64 (chB s))
        have R2 := Lib.hid (rr_grown r2 gs2 (by omega))
        have F2' := Lib.hid (fb_set1 F2 (.int .i64 (chB s)))
        have G2' := Lib.hid (fb_grown G2 gs2 (by omega))
        have B2 := Lib.hid ((B1.out.grown g2 B1.out.size (by intro k hk; injection hk with hk; omega)).grown gs2 (Nat.le_trans B1.out.size g2.size) (by intro k hk; injection hk with hk; omega))
        have hc := ch_lt s H7.out
        have hs2 : w1.heap.size + 1 ≤ w2.heap.size := Nat.le_trans (Nat.le_of_eq (Array.size_push _).symm) g2.size
        clear r2 g2 F2 G2 gs2 ht
        go_wp2_with fail
        refine (num4 R2.out H7.out).mono ?_
        rintro e w3 ⟨rfl, r3, g3⟩
        have R3 := Lib.hid r3
        have F3 := Lib.hid (fb_grown F2'.out g3 (by omega))
        have G3 := Lib.hid (fb_grown G2'.out g3 (by omega))
        have B3 := Lib.hid (B2.out.grown g3 B2.out.size (by intro k hk; injection hk with hk; omega))
        have hs3 : w2.heap.size ≤ w3.heap.size := Nat.le_trans (grownBy_set w2 w1.heap.size 1 (.int .i64 (chB s))).size g3.size
        have hl := len_lt s H7.out
        clear r3 g3 hc f1 f1'
        by_cases hn : 16384 < lenB s
        · have hp : nxA s = nxV 0 0 ByteArray.empty 0 (40 : Nat) := nxA_err (by unfold nxE; rw [if_neg (fun h => HK.out h.2), if_neg (by have := H7.out; omega), if_pos hn]) (by decide)
          have HP := Lib.hid hp
          have hn' : (16384 : Int) < lenB s := by omega
          obtain ⟨g0, g1, g2, k0, k1, k2⟩ := fb_facts G3.out
          clear hp hn
          go_wp2_with fail
          refine next_end rfl rfl (fb_store G3.out _ _ _) rfl ?_
          exact ⟨by rw [HP.out]; rfl, store_below B3.out B3.out.size (Nat.le_refl _) _ _ _⟩
        · have hn' : (lenB s : Int) ≤ 16384 := by omega
          by_cases hm : s.size < lenB s + 8
          · have hp : nxA s = nxV 0 0 ByteArray.empty 0 (41 : Nat) := nxA_err (by unfold nxE; rw [if_neg (fun h => HK.out h.2), if_neg (by have := H7.out; omega), if_neg hn, if_pos hm]) (by decide)
            have HP := Lib.hid hp
            have hbad : tkBad 1 (tkS (lenB s) (s.extract 7 s.size) false) (tkBad (lenB s) (s.extract 7 s.size) false) = true := by
              by_cases hq : 7 + lenB s ≤ s.size
              · obtain ⟨_, e2, e3⟩ := tk_ok s 7 (lenB s) hq
                rw [e2, e3]
                have : tkOk 1 (s.extract (7 + lenB s) s.size) false = false := by
                  unfold tkOk
                  rw [ByteArray.size_extract]
                  simp
                  omega
                rw [tkBad, this]
                rfl
              · have e3 : tkBad (lenB s) (s.extract 7 s.size) false = true := by
                  have : tkOk (lenB s) (s.extract 7 s.size) false = false := by
                    unfold tkOk
                    rw [ByteArray.size_extract]
                    simp
                    omega
                  rw [tkBad, this]
                  rfl
                rw [e3]
                rfl
            have HB := Lib.hid hbad
            clear hp hn hm hbad hl
            go_wp2_with fail
            refine (take_c R3.out (lenB s : Int)).mono ?_
            rintro e w4 ⟨rfl, r4, g4⟩
            have F4 := fb_grown F3.out g4 (by omega)
            have G4 := fb_grown G3.out g4 (by omega)
            obtain ⟨_, _, f1, _, _, f1'⟩ := fb_facts F4
            obtain ⟨y, hy⟩ : ∃ y, y = tkOut (lenB s) (s.extract 7 s.size) false := ⟨_, rfl⟩
            rw [← hy]
            have gs4 := grownBy_set w4 w1.heap.size 2 (.string y)
            have R4 := Lib.hid (rr_grown r4 gs4 (by omega))
            have G4' := Lib.hid (fb_grown G4 gs4 (by omega))
            have B4 := Lib.hid ((B3.out.grown g4 B3.out.size (by intro k hk; injection hk with hk; omega)).grown gs4 (Nat.le_trans B3.out.size g4.size) (by intro k hk; injection hk with hk; omega))
            clear r4 g4 F4 G4 gs4 hy
            go_wp2_with fail
            refine (take_c R4.out 1).mono ?_
            rw [HB.out]
            rintro e w5 ⟨rfl, r5, g5⟩
            obtain ⟨_, r5b, _, _⟩ := rr_facts r5
            have G5 := fb_grown G4'.out g5 (by omega)
            obtain ⟨p0, p1, p2, k0, k1, k2⟩ := fb_facts G5
            have B5 := Lib.hid (B4.out.grown g5 B4.out.size (by intro k hk; injection hk with hk; omega))
            have HG5 := Lib.hid G5
            clear r5 g5 f1 f1' G5
            go_wp2_with fail
            refine next_end rfl rfl (fb_store HG5.out _ _ _) rfl ?_
            exact ⟨by rw [HP.out]; rfl, store_below B5.out B5.out.size (Nat.le_refl _) _ _ _⟩
          · have HN := Lib.hid hn
            have HM := Lib.hid hm
            clear hn hm hl
            go_wp2_with fail
            have HT := take_c R3.out (lenB s : Int)
            obtain ⟨e1, e2, e3⟩ := tk_ok s 7 (lenB s) (by have := HM.out; omega)
            rw [e1, e2, e3] at HT
            refine HT.mono ?_
            clear HT e1 e2 e3
            rintro e w4 ⟨rfl, r4, g4⟩
            have F4 := fb_grown F3.out g4 (by omega)
            have G4 := fb_grown G3.out g4 (by omega)
            obtain ⟨_, _, f1, _, _, f1'⟩ := fb_facts F4
            have gs4 := grownBy_set w4 w1.heap.size 2 (.string (s.extract 7 (7 + lenB s)))
            have R4 := Lib.hid (rr_grown r4 gs4 (by omega))
            have F4' := Lib.hid (fb_set2 F4 (.string (s.extract 7 (7 + lenB s))))
            have G4' := Lib.hid (fb_grown G4 gs4 (by omega))
            have B4 := Lib.hid ((B3.out.grown g4 B3.out.size (by intro k hk; injection hk with hk; omega)).grown gs4 (Nat.le_trans B3.out.size g4.size) (by intro k hk; injection hk with hk; omega))
            clear r4 g4 F4 G4 gs4
            go_wp2_with fail
            have HT1 := take_c R4.out 1
            obtain ⟨d1, d2, d3⟩ := tk_ok s (7 + lenB s) 1 (by have := HM.out; omega)
            rw [show (1 : Int) = ((1 : Nat) : Int) from rfl, d1, d2, d3] at HT1
            have hz := ext_one s (7 + lenB s) (by have := HM.out; omega)
            obtain ⟨z, hze⟩ : ∃ z, z = s.extract (7 + lenB s) (7 + lenB s + 1) := ⟨_, rfl⟩
            rw [← hze] at hz HT1
            refine HT1.mono ?_
            clear HT1 d1 d2 d3 hze
            rintro e w5 ⟨rfl, r5, g5⟩
            obtain ⟨_, r5b, _, _⟩ := rr_facts r5
            have G5 := fb_grown G4'.out g5 (by omega)
            have F5 := fb_grown F4'.out g5 (by omega)
            obtain ⟨p0, p1, p2, k0, k1, k2⟩ := fb_facts G5
            obtain ⟨q0, q1, q2, _, _, _⟩ := fb_facts F5
            have B5 := Lib.hid (B4.out.grown g5 B4.out.size (by intro k hk; injection hk with hk; omega))
            have HG5 := Lib.hid G5
            clear r5 g5 f1 f1' G5 F5
            by_cases hb : atB s (7 + lenB s) = 206
            · rw [hb] at hz
              have HB := Lib.hid hb
              clear hb
              go_wp2_with fail
              refine next_end rfl rfl (fb_store HG5.out _ _ _) rfl ?_
              have hp : nxA s = nxV (atB s 0).toNat (chB s) (s.extract 7 (7 + lenB s)) (lenB s + 8 : Nat) 0 := by
                unfold nxA
                rw [if_pos (by unfold nxE; rw [if_neg (fun h => HK.out h.2), if_neg (by have := H7.out; omega), if_neg HN.out, if_neg HM.out, if_neg (fun h => h HB.out)])]
              exact ⟨by rw [hp]; rfl, store_below B5.out B5.out.size (Nat.le_refl _) _ _ _⟩
            · have hzb : (z.toList == [206]) = false := by
                rw [hz]
                simpa using hb
              have HB := Lib.hid hb
              clear hb hz
              go_wp2_with fail
              refine next_end rfl rfl (fb_store HG5.out _ _ _) rfl ?_
              have hp : nxA s = nxV 0 0 ByteArray.empty 0 (40 : Nat) := nxA_err (by unfold nxE; rw [if_neg (fun h => HK.out h.2), if_neg (by have := H7.out; omega), if_neg HN.out, if_neg HM.out, if_pos HB.out]) (by decide)
              exact ⟨by rw [hp]; rfl, store_below B5.out B5.out.size (Nat.le_refl _) _ _ _⟩
  · have hp : nxA s = nxV 0 0 ByteArray.empty 0 (41 : Nat) := nxA_err (by unfold nxE; rw [if_neg (fun h => h0 h.1), if_pos (by omega)]) (by decide)
    obtain rfl : s = ByteArray.empty := by
      apply ByteArray.ext
      have h : s.data.size = 0 := by have : s.data.size = s.size := rfl; omega
      exact Array.eq_empty_of_size_eq_zero h
    rw [hp]
    clear hp h0
    go_enter Tryd.func12, Tryd.ntmps12
    go_wp2_with fail
    refine next_end rfl rfl (heap_alloc_new w _) rfl ?_
    exact ⟨rfl, bW⟩
end Go.Proofs.YtbniandbmabdbaaDoor.Af
