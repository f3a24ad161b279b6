/- Texts of this claim, joined: AgG, AgH, TbH, Open3, OpenP, AjA. -/
import Derived.Test.YtbniandbmabdbaaDoorMAh3
import Derived.Deep.DeepCutAuto
import Derived.Deep.CutRange
import Derived.ChangeSame
/- Layer 16: the reference's Next. -/
namespace Go.Proofs.YtbniandbmabdbaaDoor.Af
open Go Go.RowKit
set_option linter.unusedSimpArgs false
set_option linter.unusedVariables false

theorem ext_ext (s : ByteArray) (a n : Nat) (h : a + n ≤ s.size) : (s.extract a s.size).extract 0 n = s.extract a (a + n) := by
  rw [ByteArray.extract_extract, Nat.min_eq_left h, Nat.add_zero]
theorem ext_rest (s : ByteArray) (a n : Nat) (h : a ≤ s.size) : (s.extract a s.size).extract n (s.extract a s.size).size = s.extract (a + n) s.size := by
  rw [ByteArray.extract_extract, ByteArray.size_extract, Nat.min_eq_right (by omega)]
theorem tk_ok (s : ByteArray) (a k : Nat) (h : a + k ≤ s.size) : tkOut k (s.extract a s.size) false = s.extract a (a + k) ∧ tkS k (s.extract a s.size) false = s.extract (a + k) s.size ∧ tkBad k (s.extract a s.size) false = false := by
  have e : tkOk k (s.extract a s.size) false = true := by
    unfold tkOk
    rw [ByteArray.size_extract]
    simp
    omega
  rw [tkOut, tkS, tkBad, if_pos e, if_pos e, e, Int.toNat_natCast, ext_ext s a k h, ext_rest s a k (by omega)]
  exact ⟨rfl, rfl, rfl⟩
theorem num_ok {w : World} {R : Nat} {s : ByteArray} {a k : Nat} (h : RR w R (s.extract a s.size) false) (hk : k ≤ 8) (ha : a + k ≤ s.size) (ki : Int) (hki : ki = (k : Int)) :
    Calls Tryd.prog 24 #[.pointer (some ⟨R, 0, none⟩), .int .i64 ki] w (TkPost w R (.int .u64 (natB (s.extract a (a + k)).data.toList)) (s.extract (a + k) s.size) false) := by
  subst hki
  have c := number_c h (k : Int) (by omega)
  obtain ⟨e1, e2, e3⟩ := tk_ok s a k ha
  rw [e1, e2, e3] at c
  exact c
theorem ext_all (s : ByteArray) : s.extract 0 s.size = s := by
  apply ByteArray.ext
  rw [ByteArray.data_extract]
  exact Array.extract_size
theorem at0 (s : ByteArray) (h : 0 < s.size) : natB (s.extract 0 1).data.toList = (atB s 0).toNat := by
  have : s.data.size = s.size := rfl
  rw [ByteArray.data_extract, atB]
  obtain ⟨⟨l⟩⟩ := s
  cases l with
  | nil => exact absurd h (by decide)
  | cons b r => simp [natB]

theorem num1 {w : World} {R : Nat} {s : ByteArray} (h : RR w R s false) (h7 : 7 ≤ s.size) :
    Calls Tryd.prog 24 #[.pointer (some ⟨R, 0, none⟩), .int .i64 1] w (TkPost w R (.int .u64 (atB s 0).toNat) (s.extract 1 s.size) false) := by
  have := num_ok (a := 0) (k := 1) (s := s) (by rw [ext_all]; exact h) (by omega) (by omega) 1 rfl
  rw [at0 s (by omega)] at this
  exact this
theorem num2 {w : World} {R : Nat} {s : ByteArray} (h : RR w R (s.extract 1 s.size) false) (h7 : 7 ≤ s.size) :
    Calls Tryd.prog 24 #[.pointer (some ⟨R, 0, none⟩), .int .i64 2] w (TkPost w R (.int .u64 (chB s)) (s.extract 3 s.size) false) :=
  num_ok (a := 1) (k := 2) h (by omega) (by omega) 2 rfl
theorem num4 {w : World} {R : Nat} {s : ByteArray} (h : RR w R (s.extract 3 s.size) false) (h7 : 7 ≤ s.size) :
    Calls Tryd.prog 24 #[.pointer (some ⟨R, 0, none⟩), .int .i64 4] w (TkPost w R (.int .u64 (lenB s)) (s.extract 7 s.size) false) :=
  num_ok (a := 3) (k := 4) h (by omega) (by omega) 4 rfl

/-- Block F is a frame. -/
def FB (w : World) (F : Nat) (c0 c1 c2 : Value) : Prop := w.heap[F]? = some (.cells #[c0, c1, c2] 23 (0, 0))
theorem fb_facts {w : World} {F : Nat} {a b c : Value} (h : FB w F a b c) :
    w.cell? ⟨F, 0, none⟩ = some a ∧ w.cell? ⟨F, 1, none⟩ = some b ∧ w.cell? ⟨F, 2, none⟩ = some c ∧ w.frozen? ⟨F, 0, none⟩ = false ∧ w.frozen? ⟨F, 1, none⟩ = false ∧ w.frozen? ⟨F, 2, none⟩ = false := by
  refine ⟨?_, ?_, ?_, ?_, ?_, ?_⟩ <;> simp [World.cell?, World.frozen?, show w.heap[F]? = _ from h]
theorem fb_new (w : World) (a b c : Value) : FB (w.alloc (.cells #[a, b, c] 23)) w.heap.size a b c := heap_alloc_new w _
theorem fb_alloc {w : World} {F : Nat} {a b c : Value} (h : FB w F a b c) (o : Obj) : FB (w.alloc o) F a b c := by
  unfold FB at h ⊢
  rw [heap_alloc_old _ _ (Array.getElem?_eq_some_iff.1 h).1]
  exact h
theorem fb_lt {w : World} {F : Nat} {a b c : Value} (h : FB w F a b c) : F < w.heap.size := (Array.getElem?_eq_some_iff.1 h).1
theorem fb_grown {w w1 : World} {F : Nat} {a b c : Value} (h : FB w F a b c) {r : Nat} (hg : w.grownBy w1 (some r)) (hr : r ≠ F) : FB w1 F a b c := by
  unfold FB at h ⊢
  rw [hg.block F (fb_lt h) (by simpa using Ne.symm hr)]
  exact h
theorem fb_set1 {w : World} {F : Nat} {a b c : Value} (h : FB w F a b c) (v : Value) : FB (w.setCell ⟨F, 1, none⟩ v) F a v c := by
  unfold FB at h ⊢
  simp [World.setCell, Array.getElem?_modify, h]
theorem fb_set2 {w : World} {F : Nat} {a b c : Value} (h : FB w F a b c) (v : Value) : FB (w.setCell ⟨F, 2, none⟩ v) F a b v := by
  unfold FB at h ⊢
  simp [World.setCell, Array.getElem?_modify, h]
theorem fb_store {w : World} {F : Nat} {a b c : Value} (h : FB w F a b c) (a' b' c' : Value) : FB (((w.setCell ⟨F, 0, none⟩ a').setCell ⟨F, 1, none⟩ b').setCell ⟨F, 2, none⟩ c') F a' b' c' := by
  unfold FB at h ⊢
  simp [World.setCell, Array.getElem?_modify, h]
theorem store_below {w0 w : World} {B F : Nat} (h : Below B w0 w) (hB : B ≤ w.heap.size) (hF : B ≤ F) (a' b' c' : Value) : Below B w0 (((w.setCell ⟨F, 0, none⟩ a').setCell ⟨F, 1, none⟩ b').setCell ⟨F, 2, none⟩ c') :=
  h.grown (((grownBy_set w F 0 a').trans (grownBy_set _ F 1 b')).trans (grownBy_set _ F 2 c')) hB (by intro k hk; injection hk with hk; omega)
theorem rr_lt {w : World} {R : Nat} {s : ByteArray} {bad : Bool} (h : RR w R s bad) : R < w.heap.size := (Array.getElem?_eq_some_iff.1 h).1
theorem rr_alloc {w : World} {R : Nat} {s : ByteArray} {bad : Bool} (h : RR w R s bad) (o : Obj) : RR (w.alloc o) R s bad := by
  unfold RR at h ⊢
  rw [heap_alloc_old _ _ (Array.getElem?_eq_some_iff.1 h).1]
  exact h
theorem rr_grown {w w1 : World} {R : Nat} {s : ByteArray} {bad : Bool} (h : RR w R s bad) {r : Nat} (hg : w.grownBy w1 (some r)) (hr : r ≠ R) : RR w1 R s bad := by
  unfold RR at h ⊢
  rw [hg.block R (rr_lt h) (by simpa using Ne.symm hr)]
  exact h
theorem rr_new (w : World) (o : Obj) (s : ByteArray) : RR ((w.alloc o).alloc (.cells #[.string s, .bool false] 52)) (w.heap.size + 1) s false := heap_alloc2_new w _ _
theorem ne_nil (s : ByteArray) (h : 0 < s.size) : s.toList.isEmpty = false := by
  rw [ByteArray.toList_eq]
  have h' : 0 < s.data.toList.length := by rw [Array.length_toList]; exact h
  cases hd : s.data.toList with
  | nil => rw [hd] at h'; exact absurd h' (by decide)
  | cons a l => rfl

theorem ext_one (s : ByteArray) (k : Nat) (h : k < s.size) : (s.extract k (k + 1)).toList = [atB s k] := by
  have h' : k < s.data.toList.length := by rw [Array.length_toList]; exact h
  rw [ByteArray.toList_eq, ByteArray.data_extract, Array.toList_extract, List.extract_eq_take_drop, Nat.add_sub_cancel_left, List.drop_eq_getElem_cons h', atB, List.getElem?_eq_getElem h']
  rfl
theorem at_lt (s : ByteArray) : ((atB s 0).toNat : Int) < 256 := by have := UInt8.toNat_lt (atB s 0); omega
theorem ch_lt (s : ByteArray) (h7 : 7 ≤ s.size) : (chB s : Int) < 65536 := by
  have := natB_lt (s.extract 1 3).data.toList
  rw [show (s.extract 1 3).data.toList.length = 2 by rw [Array.length_toList]; show (s.extract 1 3).size = 2; rw [ext_size _ _ _ (by omega)]] at this
  unfold chB
  omega
theorem len_lt (s : ByteArray) (h7 : 7 ≤ s.size) : (lenB s : Int) < 4294967296 := by
  have := natB_lt (s.extract 3 7).data.toList
  rw [show (s.extract 3 7).data.toList.length = 4 by rw [Array.length_toList]; show (s.extract 3 7).size = 4; rw [ext_size _ _ _ (by omega)]] at this
  unfold lenB
  omega

set_option maxRecDepth 1000000 in
set_option maxHeartbeats 8000000 in
theorem refNext_c {w : World} (s : ByteArray) (hs : s.size ≤ 140737488351232) :
    Calls Tryd.prog 12 #[.string s] w fun e w' => e = .returned (nxA s) ∧ Below w.heap.size w w' := by
  have bW := (Below.refl w.heap.size w).alloc (Nat.le_refl _) (.cells #[.int .i64 0, .int .i64 0, .string ByteArray.empty] 23)
  by_cases h0 : 0 < s.size
  · have h0' : (0 : Int) < s.size := by omega
    have hE := ne_nil s h0
    have hk1 : wrap64 (s[0].toNat : Int) = (atB s 0).toNat := by rw [atB_eq s 0 h0, wrap_u8]
    by_cases hk : kindB (atB s 0).toNat = false
    · have hp : nxA s = nxV 0 0 ByteArray.empty 0 (40 : Nat) := nxA_err (by unfold nxE; rw [if_pos ⟨h0, hk⟩]) (by decide)
      rw [hp]
      have hk2 : kindB (wrap64 (s[0].toNat : Int)) = false := by rw [hk1]; exact hk
      clear hp hk hk1
      go_enter Tryd.func12, Tryd.ntmps12
      go_wp2_with fail
      refine (refKind_c _).mono ?_
      rw [hk2]
      rintro e w1 ⟨rfl, rfl⟩
      go_wp2_with fail
      refine next_end rfl rfl (heap_alloc_new w _) rfl ?_
      exact ⟨rfl, bW⟩
    · have hk2 : kindB (wrap64 (s[0].toNat : Int)) = true := by rw [hk1]; simpa using hk
      clear hk1
      by_cases h7 : s.size < 7
      · have hp : nxA s = nxV 0 0 ByteArray.empty 0 (41 : Nat) := nxA_err (by unfold nxE; rw [if_neg (fun h => hk h.2), if_pos h7]) (by decide)
        rw [hp]
        have h7' : (s.size : Int) < 7 := by omega
        clear hp hk h7
        go_enter Tryd.func12, Tryd.ntmps12
        go_wp2_with fail
        refine (refKind_c _).mono ?_
        rw [hk2]
        rintro e w1 ⟨rfl, rfl⟩
        go_wp2_with fail
        refine next_end rfl rfl (heap_alloc_new w _) rfl ?_
        exact ⟨rfl, bW⟩
      · have h7' : (7 : Int) ≤ s.size := by omega
        have H7 := Lib.hid (show 7 ≤ s.size by omega)
        have HK := Lib.hid hk
        have R0 := Lib.hid (rr_new w (.cells #[.int .i64 0, .int .i64 0, .string ByteArray.empty] 23) s)
        have G0 := Lib.hid (fb_alloc (fb_new w (.int .i64 0) (.int .i64 0) (.string ByteArray.empty)) (.cells #[.string s, .bool false] 52))
        have B0 := Lib.hid (bW.alloc (Nat.le_of_lt (fb_lt (fb_new w (.int .i64 0) (.int .i64 0) (.string ByteArray.empty)))) (.cells #[.string s, .bool false] 52))
        have hsz0 := Lib.hid (show ((w.alloc (.cells #[.int .i64 0, .int .i64 0, .string ByteArray.empty] 23)).alloc (.cells #[.string s, .bool false] 52)).heap.size = w.heap.size + 2 by show ((w.heap.push _).push _).size = _; simp)
        clear hk h7
        go_enter Tryd.func12, Tryd.ntmps12
        go_wp2_with fail
        refine (refKind_c _).mono ?_
        rw [hk2]
        rintro e w1 ⟨rfl, rfl⟩
        go_wp2_with fail
        refine (num1 R0.out H7.out).mono ?_
        rintro e w1 ⟨rfl, r1, g1⟩
        have hs1 : w.heap.size + 2 ≤ w1.heap.size := Nat.le_trans (Nat.le_of_eq hsz0.out.symm) g1.size
        have R1 := Lib.hid (rr_alloc r1 (.cells #[.int .i64 (atB s 0).toNat, .int .i64 0, .string ByteArray.empty] 23))
        have G1 := Lib.hid (fb_alloc (fb_grown G0.out g1 (by omega)) (.cells #[.int .i64 (atB s 0).toNat, .int .i64 0, .string ByteArray.empty] 23))
        have F1 := Lib.hid (fb_new w1 (.int .i64 (atB s 0).toNat) (.int .i64 0) (.string ByteArray.empty))
        have B1 := Lib.hid ((B0.out.grown g1 B0.out.size (by intro k hk; injection hk with hk; omega)).alloc (by omega) (.cells #[.int .i64 (atB s 0).toNat, .int .i64 0, .string ByteArray.empty] 23))
        have ht := at_lt s
        clear r1 g1
        go_wp2_with fail
        refine (num2 R1.out H7.out).mono ?_
        rintro e w2 ⟨rfl, r2, g2⟩
        have F2 := fb_grown F1.out g2 (by omega)
        have G2 := fb_grown G1.out g2 (by omega)
        obtain ⟨_, f1, _, _, f1', _⟩ := fb_facts F2
        have gs2 := grownBy_set w2 w1.heap.size 1 (.int .i64 (chB s))
        have R2 := Lib.hid (rr_grown r2 gs2 (by omega))
        have F2' := Lib.hid (fb_set1 F2 (.int .i64 (chB s)))
        have G2' := Lib.hid (fb_grown G2 gs2 (by omega))
        have B2 := Lib.hid ((B1.out.grown g2 B1.out.size (by intro k hk; injection hk with hk; omega)).grown gs2 (Nat.le_trans B1.out.size g2.size) (by intro k hk; injection hk with hk; omega))
        have hc := ch_lt s H7.out
        have hs2 : w1.heap.size + 1 ≤ w2.heap.size := Nat.le_trans (Nat.le_of_eq (Array.size_push _).symm) g2.size
        clear r2 g2 F2 G2 gs2 ht
        go_wp2_with fail
        refine (num4 R2.out H7.out).mono ?_
        rintro e w3 ⟨rfl, r3, g3⟩
        have R3 := Lib.hid r3
        have F3 := Lib.hid (fb_grown F2'.out g3 (by omega))
        have G3 := Lib.hid (fb_grown G2'.out g3 (by omega))
        have B3 := Lib.hid (B2.out.grown g3 B2.out.size (by intro k hk; injection hk with hk; omega))
        have hs3 : w2.heap.size ≤ w3.heap.size := Nat.le_trans (grownBy_set w2 w1.heap.size 1 (.int .i64 (chB s))).size g3.size
        have hl := len_lt s H7.out
        clear r3 g3 hc f1 f1'
        by_cases hn : 16384 < lenB s
        · have hp : nxA s = nxV 0 0 ByteArray.empty 0 (40 : Nat) := nxA_err (by unfold nxE; rw [if_neg (fun h => HK.out h.2), if_neg (by have := H7.out; omega), if_pos hn]) (by decide)
          have HP := Lib.hid hp
          have hn' : (16384 : Int) < lenB s := by omega
          obtain ⟨g0, g1, g2, k0, k1, k2⟩ := fb_facts G3.out
          clear hp hn
          go_wp2_with fail
          refine next_end rfl rfl (fb_store G3.out _ _ _) rfl ?_
          exact ⟨by rw [HP.out]; rfl, store_below B3.out B3.out.size (Nat.le_refl _) _ _ _⟩
        · have hn' : (lenB s : Int) ≤ 16384 := by omega
          by_cases hm : s.size < lenB s + 8
          · have hp : nxA s = nxV 0 0 ByteArray.empty 0 (41 : Nat) := nxA_err (by unfold nxE; rw [if_neg (fun h => HK.out h.2), if_neg (by have := H7.out; omega), if_neg hn, if_pos hm]) (by decide)
            have HP := Lib.hid hp
            have hbad : tkBad 1 (tkS (lenB s) (s.extract 7 s.size) false) (tkBad (lenB s) (s.extract 7 s.size) false) = true := by
              by_cases hq : 7 + lenB s ≤ s.size
              · obtain ⟨_, e2, e3⟩ := tk_ok s 7 (lenB s) hq
                rw [e2, e3]
                have : tkOk 1 (s.extract (7 + lenB s) s.size) false = false := by
                  unfold tkOk
                  rw [ByteArray.size_extract]
                  simp
                  omega
                rw [tkBad, this]
                rfl
              · have e3 : tkBad (lenB s) (s.extract 7 s.size) false = true := by
                  have : tkOk (lenB s) (s.extract 7 s.size) false = false := by
                    unfold tkOk
                    rw [ByteArray.size_extract]
                    simp
                    omega
                  rw [tkBad, this]
                  rfl
                rw [e3]
                rfl
            have HB := Lib.hid hbad
            clear hp hn hm hbad hl
            go_wp2_with fail
            refine (take_c R3.out (lenB s : Int)).mono ?_
            rintro e w4 ⟨rfl, r4, g4⟩
            have F4 := fb_grown F3.out g4 (by omega)
            have G4 := fb_grown G3.out g4 (by omega)
            obtain ⟨_, _, f1, _, _, f1'⟩ := fb_facts F4
            obtain ⟨y, hy⟩ : ∃ y, y = tkOut (lenB s) (s.extract 7 s.size) false := ⟨_, rfl⟩
            rw [← hy]
            have gs4 := grownBy_set w4 w1.heap.size 2 (.string y)
            have R4 := Lib.hid (rr_grown r4 gs4 (by omega))
            have G4' := Lib.hid (fb_grown G4 gs4 (by omega))
            have B4 := Lib.hid ((B3.out.grown g4 B3.out.size (by intro k hk; injection hk with hk; omega)).grown gs4 (Nat.le_trans B3.out.size g4.size) (by intro k hk; injection hk with hk; omega))
            clear r4 g4 F4 G4 gs4 hy
            go_wp2_with fail
            refine (take_c R4.out 1).mono ?_
            rw [HB.out]
            rintro e w5 ⟨rfl, r5, g5⟩
            obtain ⟨_, r5b, _, _⟩ := rr_facts r5
            have G5 := fb_grown G4'.out g5 (by omega)
            obtain ⟨p0, p1, p2, k0, k1, k2⟩ := fb_facts G5
            have B5 := Lib.hid (B4.out.grown g5 B4.out.size (by intro k hk; injection hk with hk; omega))
            have HG5 := Lib.hid G5
            clear r5 g5 f1 f1' G5
            go_wp2_with fail
            refine next_end rfl rfl (fb_store HG5.out _ _ _) rfl ?_
            exact ⟨by rw [HP.out]; rfl, store_below B5.out B5.out.size (Nat.le_refl _) _ _ _⟩
          · have HN := Lib.hid hn
            have HM := Lib.hid hm
            clear hn hm hl
            go_wp2_with fail
            have HT := take_c R3.out (lenB s : Int)
            obtain ⟨e1, e2, e3⟩ := tk_ok s 7 (lenB s) (by have := HM.out; omega)
            rw [e1, e2, e3] at HT
            refine HT.mono ?_
            clear HT e1 e2 e3
            rintro e w4 ⟨rfl, r4, g4⟩
            have F4 := fb_grown F3.out g4 (by omega)
            have G4 := fb_grown G3.out g4 (by omega)
            obtain ⟨_, _, f1, _, _, f1'⟩ := fb_facts F4
            have gs4 := grownBy_set w4 w1.heap.size 2 (.string (s.extract 7 (7 + lenB s)))
            have R4 := Lib.hid (rr_grown r4 gs4 (by omega))
            have F4' := Lib.hid (fb_set2 F4 (.string (s.extract 7 (7 + lenB s))))
            have G4' := Lib.hid (fb_grown G4 gs4 (by omega))
            have B4 := Lib.hid ((B3.out.grown g4 B3.out.size (by intro k hk; injection hk with hk; omega)).grown gs4 (Nat.le_trans B3.out.size g4.size) (by intro k hk; injection hk with hk; omega))
            clear r4 g4 F4 G4 gs4
            go_wp2_with fail
            have HT1 := take_c R4.out 1
            obtain ⟨d1, d2, d3⟩ := tk_ok s (7 + lenB s) 1 (by have := HM.out; omega)
            rw [show (1 : Int) = ((1 : Nat) : Int) from rfl, d1, d2, d3] at HT1
            have hz := ext_one s (7 + lenB s) (by have := HM.out; omega)
            obtain ⟨z, hze⟩ : ∃ z, z = s.extract (7 + lenB s) (7 + lenB s + 1) := ⟨_, rfl⟩
            rw [← hze] at hz HT1
            refine HT1.mono ?_
            clear HT1 d1 d2 d3 hze
            rintro e w5 ⟨rfl, r5, g5⟩
            obtain ⟨_, r5b, _, _⟩ := rr_facts r5
            have G5 := fb_grown G4'.out g5 (by omega)
            have F5 := fb_grown F4'.out g5 (by omega)
            obtain ⟨p0, p1, p2, k0, k1, k2⟩ := fb_facts G5
            obtain ⟨q0, q1, q2, _, _, _⟩ := fb_facts F5
            have B5 := Lib.hid (B4.out.grown g5 B4.out.size (by intro k hk; injection hk with hk; omega))
            have HG5 := Lib.hid G5
            clear r5 g5 f1 f1' G5 F5
            by_cases hb : atB s (7 + lenB s) = 206
            · rw [hb] at hz
              have HB := Lib.hid hb
              clear hb
              go_wp2_with fail
              refine next_end rfl rfl (fb_store HG5.out _ _ _) rfl ?_
              have hp : nxA s = nxV (atB s 0).toNat (chB s) (s.extract 7 (7 + lenB s)) (lenB s + 8 : Nat) 0 := by
                unfold nxA
                rw [if_pos (by unfold nxE; rw [if_neg (fun h => HK.out h.2), if_neg (by have := H7.out; omega), if_neg HN.out, if_neg HM.out, if_neg (fun h => h HB.out)])]
              exact ⟨by rw [hp]; rfl, store_below B5.out B5.out.size (Nat.le_refl _) _ _ _⟩
            · have hzb : (z.toList == [206]) = false := by
                rw [hz]
                simpa using hb
              have HB := Lib.hid hb
              clear hb hz
              go_wp2_with fail
              refine next_end rfl rfl (fb_store HG5.out _ _ _) rfl ?_
              have hp : nxA s = nxV 0 0 ByteArray.empty 0 (40 : Nat) := nxA_err (by unfold nxE; rw [if_neg (fun h => HK.out h.2), if_neg (by have := H7.out; omega), if_neg HN.out, if_neg HM.out, if_pos HB.out]) (by decide)
              exact ⟨by rw [hp]; rfl, store_below B5.out B5.out.size (Nat.le_refl _) _ _ _⟩
  · have hp : nxA s = nxV 0 0 ByteArray.empty 0 (41 : Nat) := nxA_err (by unfold nxE; rw [if_neg (fun h => h0 h.1), if_pos (by omega)]) (by decide)
    obtain rfl : s = ByteArray.empty := by
      apply ByteArray.ext
      have h : s.data.size = 0 := by have : s.data.size = s.size := rfl; omega
      exact Array.eq_empty_of_size_eq_zero h
    rw [hp]
    clear hp h0
    go_enter Tryd.func12, Tryd.ntmps12
    go_wp2_with fail
    refine next_end rfl rfl (heap_alloc_new w _) rfl ?_
    exact ⟨rfl, bW⟩
end Go.Proofs.YtbniandbmabdbaaDoor.Af

/- Layer 16: what the statements' wakes reach. -/
namespace Go.Proofs.YtbniandbmabdbaaDoor.Af
open Go Go.RowKit
set_option linter.unusedSimpArgs false
set_option linter.unusedVariables false

set_option maxRecDepth 100000 in
set_option maxHeartbeats 1000000 in
theorem clone_b {w : World} {v : Value} {l : List UInt8} (h : RB w v l) (hl : l.length ≤ 140737488355328) :
    Calls Tryd.prog 35 #[v] w fun e w' => ∃ v', e = .returned v' ∧ OB w' w.heap.size v' l ∧ Below w.heap.size w w' := by
  obtain ⟨A, c, rfl, hnc, hc, hlen, hA, hcell⟩ := id h
  have q := fun (w : World) (a : Option Addr) (n c n' c' : Nat) => Lib.run_eql_slice_nil (P := Tryd.prog) w 25 _ a n c n' c' Tryd.underlying25
  have H := Lib.hid h
  have HC := Lib.hid hcell
  clear h hcell hlen
  rcases A with _ | ad
  · have : l = [] := List.eq_nil_of_length_eq_zero (by have := hA rfl; omega)
    subst this
    clear hA
    go_enter Tryd.func35, Tryd.ntmps35
    go_wp2
    go_ret
    exact ⟨_, rfl, ob_nil _ _, Below.refl _ _⟩
  · clear hA
    go_enter Tryd.func35, Tryd.ntmps35
    go_wp2_with (at_builtin; refine app_b (w0 := w) (base := w.heap.size) (l := []) (m := l) rfl (.tmp 5) (.tmp 6) rfl rfl rfl (World.ownsRow_made w #[] 0 (Nat.le_refl _) (Nat.zero_le _) (by simp)) (rc_alloc H.out _) ((Below.refl _ _).alloc (Nat.le_refl _) _) (by simp) (by simpa using hl) ?_; intro v1 w1 hown hb hg hat)
    go_ret
    exact ⟨v1, rfl, hown, hb⟩

set_option maxRecDepth 100000 in
set_option maxHeartbeats 1000000 in
theorem tableBig_c {w : World} {base : Nat} {v : Value} {l : List UInt8} (h : OB w base v l) (hB : base ≤ w.heap.size) (hl : l.length ≤ 70368744177664) (n : Nat) (hn : n < 18446744073709551616) (k : Nat) (hk : k ≤ 8) :
    Calls Tryd.prog 33 #[v, .int .u64 n, .int .i64 k] w fun e w' => ∃ v', e = .returned v' ∧ OB w' base v' (l ++ beB n k) ∧ Below base w w' := by
  have H := Lib.hid h
  clear h
  go_enter Tryd.func33, Tryd.ntmps33
  go_wp2
  go_loopw [0, 7] (fun x i wr => ∃ (r : Nat) (pre : List UInt8), r ≤ k ∧ i = .int .i64 ((r : Int) - 1) ∧ Hid (pre ++ beB n r = beB n k) ∧ Hid (OB wr base x (l ++ pre)) ∧ Below base w wr) (fun _ i _ => (intOf i + 1).toNat)
  case atStart => exact ⟨k, [], Nat.le_refl _, rfl, Lib.hid rfl, by simpa [Lib.hid] using H, Below.refl _ _⟩
  case round =>
    obtain ⟨r, pre, hr, rfl, HP, O2, b2⟩ := hrel
    cases r with
    | zero =>
      go_wp2
      go_ret
      have := HP.out
      simp only [beB, List.append_nil] at this
      exact ⟨_, rfl, by rw [← this]; exact O2.out, b2⟩
    | succ r =>
      have hpl : pre.length ≤ 8 := by
        have := congrArg List.length HP.out
        rw [List.length_append, beB_len, beB_len] at this
        omega
      go_wp2_with (at_builtin; refine app_b (w0 := w) (base := base) (l := l ++ pre) (m := [dig n r]) rfl (.tmp 14) (.tmp 20) rfl rfl rfl (O2.out.alloc _) (rb_dig wr _ _ (dig_val n r)) (b2.alloc (by have := b2.size; omega) _) (by have := b2.size; simp; omega) (by simp; omega) ?_; intro v4 w4 o4 b4 _ _; have O4 := Lib.hid o4; clear o4)
      go_roundw
      case rel => exact ⟨r, pre ++ [dig n r], by omega, by go_num, Lib.hid (by have := HP.out; simpa [beB] using this), Lib.hid (by have := O4.out; rwa [List.append_assoc] at this), b4⟩
      case measure => simp [intOf]

set_option maxRecDepth 100000 in
theorem valid_nil {w : World} : Calls Tryd.prog 32 #[.slice none 0 0] w fun e w' => e = .returned (.bool true) ∧ w = w' := by
  go_enter Tryd.func32, Tryd.ntmps32
  go_wp2
  go_loop [7] (fun i => i = .int .i64 0) (fun _ => 0)
  case atStart => rfl
  case round =>
    subst hrel
    go_wp2
    go_ret
    exact ⟨rfl, rfl⟩

set_option maxRecDepth 100000 in
set_option maxHeartbeats 1000000 in
theorem putNil_c {w : World} {base : Nat} {v : Value} {l : List UInt8} (h : OB w base v l) (hl : l.length ≤ 70368744177664) :
    Calls Tryd.prog 26 #[v, .slice none 0 0] w fun e w' => ∃ v', e = .returned (.tuple #[v', .int .i64 0]) ∧ Below w.heap.size w w' := by
  have H := Lib.hid h
  clear h
  go_enter Tryd.func26, Tryd.ntmps26
  go_wp2_with (go_at_call 32; refine valid_nil.mono ?_; rintro e w1 ⟨rfl, rfl⟩)
  go_loop [6, 14] (fun x i => x = .slice none 0 0 ∧ i = .int .i64 0) (fun _ _ => 0)
  case atStart => exact ⟨rfl, rfl⟩
  case round =>
    obtain ⟨rfl, rfl⟩ := hrel
    go_wp2_with fail
    refine (clone_b (ob_rb H.out) (by omega)).mono ?_
    rintro e w1 ⟨v1, rfl, o1, b1⟩
    go_wp2_with fail
    refine (tableBig_c o1 b1.size hl 0 (by omega) 4 (by omega)).mono ?_
    rintro e w2 ⟨v2, rfl, o2, b2⟩
    have O2 := Lib.hid o2
    have B2 := Lib.hid (b1.trans b2)
    clear o1 b1 o2 b2
    go_wp2_with (at_builtin; refine app_b (w0 := w) (base := w.heap.size) (l := l ++ beB 0 4) (m := []) rfl (.tmp 76) (.tmp 77) rfl rfl rfl O2.out (ob_rb (ob_nil _ 0)) B2.out B2.out.size (by simp [beB_len]; omega) ?_; intro v4 w4 o4 b4 _ _; have O4 := Lib.hid o4; clear o4)
    go_ret2
    exact ⟨_, rfl, b4⟩

set_option maxRecDepth 100000 in
set_option maxHeartbeats 1000000 in
theorem head5_c {w : World} : Calls Tryd.prog 14 #[.int .i64 5, .slice none 0 0, .bool true] w fun e w' => ∃ v', e = .returned (.tuple #[v', .int .i64 0]) ∧ OB w' w.heap.size v' [0, 60, 0, 0, 0, 0, 0, 0, 0, 0, 0, 5, 16, 0, 2] ∧ Below w.heap.size w w' := by
  go_enter Tryd.func14, Tryd.ntmps14
  go_wp2_with fail
  refine (put_c2 (base := w.heap.size) (ob_nil _ _) (Nat.le_refl _) (by simp) 60 2 (by omega) (by omega) 60 2 rfl rfl).mono ?_
  rintro e w1 ⟨v1, rfl, o1, b1⟩
  go_wp2_with fail
  refine (put_c2 (base := w.heap.size) o1 b1.size (by simp [beB_len]) 0 2 (by omega) (by omega) 0 2 rfl rfl).mono ?_
  rintro e w2 ⟨v2, rfl, o2, b2⟩
  have B2 := b1.trans b2
  go_wp2_with fail
  refine (put_c2 (base := w.heap.size) o2 B2.size (by simp [beB_len]) 5 8 (by omega) (by omega) 5 8 rfl rfl).mono ?_
  rintro e w3 ⟨v3, rfl, o3, b3⟩
  have B3 := B2.trans b3
  go_wp2_with fail
  refine (put_c2 (base := w.heap.size) o3 B3.size (by simp [beB_len]) 4096 2 (by omega) (by omega) 4096 2 rfl rfl).mono ?_
  rintro e w4 ⟨v4, rfl, o4, b4⟩
  have B4 := B3.trans b4
  go_wp2_with fail
  refine (putNil_c o4 (by simp [beB_len])).mono ?_
  rintro e w5 ⟨v5, rfl, b5⟩
  have o5 := own_below o4 b5
  have B5 := B4.trans (b5.mono B4.size)
  go_wp2_with fail
  refine (put_c2 (base := w.heap.size) o5 B5.size (by simp [beB_len]) 2 1 (by omega) (by omega) 2 1 rfl rfl).mono ?_
  rintro e w6 ⟨v6, rfl, o6, b6⟩
  go_wp2_with fail
  go_ret2
  exact ⟨v6, rfl, o6, B5.trans b6⟩

set_option maxRecDepth 100000 in
set_option maxHeartbeats 2000000 in
theorem wakes_c {w : World} : Calls Tryd.prog 8 #[] w fun e w' => e = .returned (.bool true) ∧ Below w.heap.size w w' := by
  go_enter Tryd.func8, Tryd.ntmps8
  go_wp2_with fail
  refine (encode_c 8 0 ByteArray.empty (by decide)).mono ?_
  rintro e w1 ⟨b1, h1⟩
  rw [if_pos (by decide)] at h1
  obtain ⟨v1, rfl, o1⟩ := h1
  have O1 := Lib.hid o1
  clear o1
  go_wp2_with fail
  refine head5_c.mono ?_
  rintro e w2 ⟨v2, rfl, o2, b2⟩
  have O2 := Lib.hid o2
  have B2 := b1.trans (b2.mono b1.size)
  clear o2
  go_wp2_with fail
  refine (next_c ⟨#[71, 69, 84, 32, 47]⟩ (by decide)).mono ?_
  rw [show nxA ⟨#[71, 69, 84, 32, 47]⟩ = .tuple #[.agg #[.int .i64 0, .int .i64 0, .string ByteArray.empty], .int .i64 0, .int .i64 40] from nxA_err (k := 40) (by decide +kernel) (by decide)]
  rintro e w3 ⟨rfl, b3⟩
  have b4 := b3.alloc b3.size (.cells #[.int .i64 0, .int .i64 0, .string ByteArray.empty] 23)
  have hc1 := rb_string (rb_below (ob_rb O1.out) (b2.trans (b4.mono b2.size)))
  rw [show (⟨(encB (Int.toNat 8) (Int.toNat 0) ByteArray.empty.data.toList).toArray⟩ : ByteArray) = ⟨#[8, 0, 0, 0, 0, 0, 0, 206]⟩ by decide +kernel] at hc1
  have hc2 := rb_string (rb_below (ob_rb O2.out) b4)
  clear b1 b2
  go_wp2_with fail
  go_ret
  exact ⟨rfl, B2.trans (b4.mono B2.size)⟩
end Go.Proofs.YtbniandbmabdbaaDoor.Af

/- The reference's sameness of lists of properties. -/
namespace Go.Proofs.YtbniandbmabdbaaDoor
open Go Go.RowKit Go.Sort
set_option linter.unusedSimpArgs false
set_option linter.unusedVariables false

theorem prp_ext {p q : Prp} (h0 : p.nm = q.nm) (h : valSame p.k p.n p.t p.r q.k q.n q.t q.r = true) : p = q := by
  unfold valSame at h
  simp only [decide_eq_true_eq] at h
  obtain ⟨h1, h2, h3, h4⟩ := h
  cases p; cases q
  simp_all

theorem round_less1 {n k : Nat} (h : k < n) : n - (intOf (.int .i64 ((k : Int) + 1))).toNat < n - (intOf (.int .i64 (k : Int))).toNat := by
  show n - ((k : Int) + 1).toNat < n - (k : Int).toNat
  rw [show ((k : Int) + 1).toNat = k + 1 by omega, Int.toNat_natCast]
  omega
theorem valSame_self (p : Prp) : valSame p.k p.n p.t p.r p.k p.n p.t p.r = true := by unfold valSame; simp

set_option maxRecDepth 100000 in
set_option maxHeartbeats 2000000 in
theorem sameAll_c {w : World} {v v' : Value} {ps qs : List Prp} (hp : RPr w v ps) (hq : RPr w v' qs) :
    Calls Tryd.prog 18 #[v, v'] w fun e w' => ∃ b : Bool, e = .returned (.bool b) ∧ (b = true ↔ ps = qs) ∧ Below w.heap.size w w' := by
  have h63 : ps.length ≤ 9223372036854775807 := by obtain ⟨_, _, _, h1, h2, _⟩ := id hp; omega
  obtain ⟨A, c, rfl, hnc, hcell⟩ := props_at hp
  obtain ⟨A', c', rfl, hnc', hcell'⟩ := props_at hq
  have HC := Lib.hid hcell
  have HC' := Lib.hid hcell'
  have H63 := Lib.hid h63
  clear hp hq hcell hcell' h63
  by_cases hl : ps.length = qs.length
  · have HL := Lib.hid hl
    rw [← hl] at hnc' ⊢
    clear hl
    go_enter Tryd.func18, Tryd.ntmps18
    go_wp2_with fail
    go_loopw [13] (fun i wr => ∃ k : Nat, k ≤ ps.length ∧ i = .int .i64 k ∧ Hid (ps.take k = qs.take k) ∧ Below w.heap.size w wr) (fun i _ => ps.length - (intOf i).toNat)
    case atStart => exact ⟨0, Nat.zero_le _, rfl, Lib.hid rfl, Below.refl _ _⟩
    case round =>
      obtain ⟨k, hk, rfl, HT, b2⟩ := hrel
      by_cases hlt : k < ps.length
      · obtain ⟨p, hp⟩ : ∃ p, ps[k]? = some p := ⟨_, List.getElem?_eq_getElem hlt⟩
        obtain ⟨q, hq⟩ : ∃ q, qs[k]? = some q := ⟨_, List.getElem?_eq_getElem (by have := HL.out; omega)⟩
        obtain ⟨a, rfl, q0, q1, q2, q3, q4⟩ := HC.out k p hp
        obtain ⟨a', rfl, r0, r1, r2, r3, r4⟩ := HC'.out k q hq
        have hne : p ≠ q → ¬ ps = qs := fun h e => h (by rw [e] at hp; rw [hp] at hq; injection hq)
        have htk : p = q → ps.take (k + 1) = qs.take (k + 1) := fun h => by rw [List.take_add_one, List.take_add_one, hp, hq, HT.out, h]
        have HNE := Lib.hid hne
        have HTK := Lib.hid htk
        have hwk : wrap64 ((k : Int) + 1) = (k : Int) + 1 := by have := H63.out; unfold wrap64; omega
        have hkI : (k : Int) < ps.length := by omega
        have z0 : ∀ d os, (grow (redrawn wr d) os).cell? (a.add (k * 5)) = some (.string p.nm) := fun d os => cell_regrown (cell_below b2 (World.block_lt_of_cell? w _ q0) q0) d os
        have z1 : ∀ d os, (grow (redrawn wr d) os).cell? ⟨(a.add (k * 5)).block, (a.add (k * 5)).off + 1, none⟩ = some (.int .i64 p.k) := fun d os => cell_regrown (cell_below b2 (World.block_lt_of_cell? w _ q1) q1) d os
        have z2 : ∀ d os, (grow (redrawn wr d) os).cell? ⟨(a.add (k * 5)).block, (a.add (k * 5)).off + 2, none⟩ = some (.int .i64 p.n) := fun d os => cell_regrown (cell_below b2 (World.block_lt_of_cell? w _ q2) q2) d os
        have z3 : ∀ d os, (grow (redrawn wr d) os).cell? ⟨(a.add (k * 5)).block, (a.add (k * 5)).off + 3, none⟩ = some (.string p.t) := fun d os => cell_regrown (cell_below b2 (World.block_lt_of_cell? w _ q3) q3) d os
        have z4 : ∀ d os, (grow (redrawn wr d) os).cell? ⟨(a.add (k * 5)).block, (a.add (k * 5)).off + 4, none⟩ = some (.float .f64 p.r) := fun d os => cell_regrown (cell_below b2 (World.block_lt_of_cell? w _ q4) q4) d os
        have y0 : ∀ d os, (grow (redrawn wr d) os).cell? (a'.add (k * 5)) = some (.string q.nm) := fun d os => cell_regrown (cell_below b2 (World.block_lt_of_cell? w _ r0) r0) d os
        have y1 : ∀ d os, (grow (redrawn wr d) os).cell? ⟨(a'.add (k * 5)).block, (a'.add (k * 5)).off + 1, none⟩ = some (.int .i64 q.k) := fun d os => cell_regrown (cell_below b2 (World.block_lt_of_cell? w _ r1) r1) d os
        have y2 : ∀ d os, (grow (redrawn wr d) os).cell? ⟨(a'.add (k * 5)).block, (a'.add (k * 5)).off + 2, none⟩ = some (.int .i64 q.n) := fun d os => cell_regrown (cell_below b2 (World.block_lt_of_cell? w _ r2) r2) d os
        have y3 : ∀ d os, (grow (redrawn wr d) os).cell? ⟨(a'.add (k * 5)).block, (a'.add (k * 5)).off + 3, none⟩ = some (.string q.t) := fun d os => cell_regrown (cell_below b2 (World.block_lt_of_cell? w _ r3) r3) d os
        have y4 : ∀ d os, (grow (redrawn wr d) os).cell? ⟨(a'.add (k * 5)).block, (a'.add (k * 5)).off + 4, none⟩ = some (.float .f64 q.r) := fun d os => cell_regrown (cell_below b2 (World.block_lt_of_cell? w _ r4) r4) d os
        clear hp hq q0 q1 q2 q3 q4 r0 r1 r2 r3 r4 hne htk
        by_cases hnm : p.nm = q.nm
        · cases hvs : valSame p.k p.n p.t p.r q.k q.n q.t q.r with
          | true =>
            have hpq := prp_ext hnm hvs
            have hnx := HTK.out hpq
            have cS : ∀ d os, Calls Tryd.prog 31 #[.agg #[.int .i64 p.k, .int .i64 p.n, .string p.t, .float .f64 p.r], .agg #[.int .i64 q.k, .int .i64 q.n, .string q.t, .float .f64 q.r]] (grow (redrawn wr d) os) fun e w'' => e = .returned (.bool true) ∧ ∃ p : Regrown, w'' = grow (redrawn wr p.d) p.os := fun d os => Calls.regrown_of (by have := valSame_c (w := grow (redrawn wr d) os) p.k p.n p.t p.r q.k q.n q.t q.r; rw [hvs] at this; exact this)
            rw [← hnm] at y0
            clear hpq hvs hnm
            go_upto_region 6 with fail
            refine wp_region_quiet_below (by kernel_rfl) (by kernel_rfl) ?_
            repeat (go_big_quiet_step (first | exact cS _ _))
            refine wpQuiet_nil ?_
            intro _ hw'
            obtain ⟨⟨dq, osq⟩, hw''⟩ := hw'
            subst hw''
            have bE := b2.trans ((below_regrown wr dq osq).mono b2.size)
            go_wp2
            go_roundw
            case rel => exact ⟨k + 1, by omega, by go_num, Lib.hid hnx, bE⟩
            case measure => first | exact round_less1 hlt | (rw [hwk]; exact round_less1 hlt)
          | false =>
            have hpq : p ≠ q := fun e => by subst e; rw [valSame_self] at hvs; cases hvs
            have HPQ := Lib.hid hpq
            have cS : ∀ d os, Calls Tryd.prog 31 #[.agg #[.int .i64 p.k, .int .i64 p.n, .string p.t, .float .f64 p.r], .agg #[.int .i64 q.k, .int .i64 q.n, .string q.t, .float .f64 q.r]] (grow (redrawn wr d) os) fun e w'' => e = .returned (.bool false) ∧ ∃ p : Regrown, w'' = grow (redrawn wr p.d) p.os := fun d os => Calls.regrown_of (by have := valSame_c (w := grow (redrawn wr d) os) p.k p.n p.t p.r q.k q.n q.t q.r; rw [hvs] at this; exact this)
            rw [← hnm] at y0
            clear hpq hvs hnm hwk
            go_upto_region 6 with fail
            refine wp_region_quiet_below (by kernel_rfl) (by kernel_rfl) ?_
            repeat (go_big_quiet_step (first | exact cS _ _))
            refine wpQuiet_nil ?_
            intro _ hw'
            obtain ⟨⟨dq, osq⟩, hw''⟩ := hw'
            subst hw''
            have bE := b2.trans ((below_regrown wr dq osq).mono b2.size)
            go_wp2
            go_ret
            exact ⟨false, rfl, ⟨(fun h => by cases h), fun h => absurd h (HNE.out HPQ.out)⟩, bE⟩
        · have hpq : p ≠ q := fun e => hnm (by rw [e])
          have HPQ := Lib.hid hpq
          have hnm' := str_ne hnm
          clear hpq hnm hwk
          go_upto_region 6 with fail
          refine wp_region_quiet_below (by kernel_rfl) (by kernel_rfl) ?_
          repeat (go_big_quiet_step (first | fail))
          refine wpQuiet_nil ?_
          intro _ hw'
          obtain ⟨⟨dq, osq⟩, hw''⟩ := hw'
          subst hw''
          have bE := b2.trans ((below_regrown wr dq osq).mono b2.size)
          go_wp2
          go_ret
          exact ⟨false, rfl, ⟨(fun h => by cases h), fun h => absurd h (HNE.out HPQ.out)⟩, bE⟩
      · have hk2 : k = ps.length := by omega
        subst hk2
        have heq : ps = qs := by
          have := HT.out
          rwa [List.take_of_length_le (Nat.le_refl _), List.take_of_length_le (by have := HL.out; omega)] at this
        have HEQ := Lib.hid heq
        clear hlt heq
        go_wp2_with fail
        go_ret
        exact ⟨true, rfl, ⟨fun _ => HEQ.out, fun _ => rfl⟩, b2⟩
  · have hne : ¬ ps = qs := fun e => hl (by rw [e])
    have HNE := Lib.hid hne
    have hlb : ((ps.length : Int) == (qs.length : Int)) = false := beq_eq_false_iff_ne.2 (by omega)
    have hlb2 : (ps.length == qs.length) = false := beq_eq_false_iff_ne.2 hl
    clear hne hl
    go_enter Tryd.func18, Tryd.ntmps18
    go_wp2_with fail
    go_ret
    exact ⟨false, rfl, ⟨(fun h => by cases h), fun h => absurd h HNE.out⟩, Below.refl _ _⟩
end Go.Proofs.YtbniandbmabdbaaDoor

/- Data that came in, opened whole: structs, slices, slices in structs in slices. -/
namespace Go.Proofs.YtbniandbmabdbaaDoor
open Go Go.RowKit
open Go.ChangeShapes Go.WideShapes Go.Deep
set_option linter.unusedSimpArgs false
set_option linter.unusedVariables false

section
variable {H : Type} (enc : TypeId × Value → H) (P : Program) (W : World)
/-- Data of type t: s cells, which are f of some x that is Good. -/
def Opn (t : TypeId) (s : Nat) {X : Type} (f : X → List Value) (Good : X → Prop) : Prop :=
  P.cellsOf t = s ∧ (∀ x, (f x).length = s) ∧ ∀ (n : Nat) (cs : List Value) (y : DataW H × List MemPlace), DataW.trod enc P W 0 (fun _ => true) true n t cs = some y → cs.length = s → (DataW.weights P t y.1).all (· ≤ reachBytes) = true → ∃ x, cs = f x ∧ Good x
/-- Fields, from an offset on. -/
def OpnF (fs : List Field) (off sz : Nat) {X : Type} (f : X → List Value) (Good : X → Prop) : Prop :=
  (∀ x, (f x).length = sz) ∧ ∀ (n : Nat) (cs : List Value) (ys : List (DataW H × List MemPlace)), ys.length = fs.length → (∀ (i : Nat) (fl : Field), fs[i]? = some fl → DataW.trod enc P W 0 (fun _ => true) true n fl.type ((cs.drop fl.offset).take (P.cellsOf fl.type)) = ys[i]?) → cs.length = off + sz →
    (DataW.weightsEach P (fs.map (·.type)) (ys.map (·.1))).all (· ≤ reachBytes) = true → ∃ x, cs.drop off = f x ∧ Good x
end

section
variable {H : Type} {enc : TypeId × Value → H} {P : Program} {W : World}
theorem Opn.map {t : TypeId} {s : Nat} {X Y : Type} {f : X → List Value} {Good : X → Prop} (h : Opn enc P W t s f Good) (g : X → Y) (f' : Y → List Value) (Good' : Y → Prop) (hl : ∀ y, (f' y).length = s) (hf : ∀ x, f x = f' (g x)) (hg : ∀ x, Good x → Good' (g x)) : Opn enc P W t s f' Good' :=
  ⟨h.1, hl, fun n cs y hy hc hw => by
    obtain ⟨x, h1, h2⟩ := h.2.2 n cs y hy hc hw
    exact ⟨g x, by rw [h1, hf], hg x h2⟩⟩
theorem opnF_nil (off : Nat) : OpnF enc P W [] off 0 (fun _ : Unit => []) (fun _ => True) :=
  ⟨fun _ => rfl, fun n cs ys _ _ hc _ => ⟨(), List.drop_eq_nil_of_le (by omega), trivial⟩⟩
theorem opnF_cons {fl : Field} {fs : List Field} {off s sz : Nat} {X Y : Type} {f : X → List Value} {g : Y → List Value} {Good : X → Prop} {Good' : Y → Prop} (h : Opn enc P W fl.type s f Good) (ho : fl.offset = off) (hr : OpnF enc P W fs (off + s) sz g Good') :
    OpnF enc P W (fl :: fs) off (s + sz) (fun p : X × Y => f p.1 ++ g p.2) (fun p => Good p.1 ∧ Good' p.2) := by
  refine ⟨fun p => by rw [List.length_append, h.2.1, hr.1], fun n cs ys hl hf hc hw => ?_⟩
  match ys, hl with
  | y :: ys, hl =>
    simp only [List.map_cons, DataW.weightsEach, List.all_append, Bool.and_eq_true] at hw
    have h0 := hf 0 fl rfl
    simp only [List.getElem?_cons_zero] at h0
    rw [h.1, ho] at h0
    obtain ⟨x, hx, gx⟩ := h.2.2 n _ y h0 (by rw [List.length_take, List.length_drop]; omega) hw.1
    obtain ⟨z, hz, gz⟩ := hr.2 n cs ys (by simpa using hl) (fun i fl' hi => by have := hf (i + 1) fl' (by simpa using hi); simpa using this) (by omega) hw.2
    exact ⟨(x, z), by show _ = f x ++ g z; rw [← hx, ← hz, ← List.drop_drop, List.take_append_drop], gx, gz⟩
theorem opn_struct {t : TypeId} {fs : Array Field} {sz : Nat} {X : Type} {f : X → List Value} {Good : X → Prop} (hs : P.underlying t = some (.struct fs)) (hc : P.cellsOf t = sz) (h : OpnF enc P W fs.toList 0 sz f Good) : Opn enc P W t sz f Good := by
  refine ⟨hc, h.1, fun n cs y hy hl hw => ?_⟩
  obtain ⟨xs, n', _, rfl, _, hlen, hf⟩ := DataW.trod_struct hs hy
  have hw' : (DataW.weightsEach P (fs.toList.map (·.type)) (xs.map (·.1))).all (· ≤ reachBytes) = true := by
    simpa only [DataW.weights, hs] using hw
  obtain ⟨x, hx, gx⟩ := h.2 n' cs xs (by rw [Array.length_toList]; exact hlen) (fun i fl hi => hf i fl (by simpa using hi)) (by omega) hw'
  exact ⟨x, by simpa using hx, gx⟩
theorem opn_int {t : TypeId} {k : IntKind} (hu : P.underlying t = some (.int k)) (hc : P.cellsOf t = 1) : Opn enc P W t 1 (fun n : Int => [.int k n]) (fun n => (Lit.int k n).wf = true) :=
  ⟨hc, fun _ => rfl, fun n cs y hy _ _ => by
    obtain ⟨z, h1, _, h2⟩ := DataW.trod_int hu hy
    exact ⟨z, h1, h2⟩⟩
theorem opn_bool {t : TypeId} (hu : P.underlying t = some .bool) (hc : P.cellsOf t = 1) : Opn enc P W t 1 (fun b : Bool => [.bool b]) (fun _ => True) :=
  ⟨hc, fun _ => rfl, fun n cs y hy _ _ => by
    obtain ⟨z, h1, _⟩ := DataW.trod_bool hu hy
    exact ⟨z, h1, trivial⟩⟩
theorem opn_string {t : TypeId} (hu : P.underlying t = some .string) (hc : P.cellsOf t = 1) : Opn enc P W t 1 (fun s : ByteArray => [.string s]) (fun s => s.size ≤ 140737488351232) :=
  ⟨hc, fun _ => rfl, fun n cs y hy _ hw => by
    obtain ⟨z, h1, rfl, _⟩ := DataW.trod_string hu hy
    refine ⟨z, h1, ?_⟩
    simp only [DataW.weights, List.all_cons, List.all_nil, Bool.and_true, decide_eq_true_eq, Array.length_toList] at hw
    exact hw⟩
theorem opn_float {t : TypeId} (hu : P.underlying t = some (.float .f64)) (hc : P.cellsOf t = 1) : Opn enc P W t 1 (fun r : Nat => [.float .f64 r]) (fun r => r < 18446744073709551616) :=
  ⟨hc, fun _ => rfl, fun n cs y hy _ _ => by
    cases n with
    | zero => simp [DataW.trod] at hy
    | succ n =>
      unfold DataW.trod at hy
      rw [hu] at hy
      split at hy
      all_goals first
        | (simp_all [Lit.wf]; done)
        | (rename_i k' b heq _
           injection heq with heq
           injection heq with heq
           subst heq
           split at hy
           · rename_i hc2
             obtain ⟨rfl, hb⟩ := hc2
             exact ⟨b, rfl, by simpa [Lit.wf] using hb⟩
           · cases hy)⟩
theorem weightsAll_mem {e : TypeId} : ∀ {l : List (DataW H)} {d : DataW H}, d ∈ l → ∀ n ∈ d.weights P e, n ∈ DataW.weightsAll P e l
  | d' :: r, d, hd, n, hn => by
    simp only [DataW.weightsAll, List.mem_append]
    rcases List.mem_cons.1 hd with rfl | h
    · exact Or.inl hn
    · exact Or.inr (weightsAll_mem h n hn)
/-- v reads as the row xs of good elements. -/
def RowOf (P : Program) (W : World) (e : TypeId) (s : Nat) {X : Type} (f : X → List Value) (Good : X → Prop) (v : Value) : Prop :=
  ∃ xs : List X, RC W v xs.length s (xs.flatMap f) ∧ (∀ x ∈ xs, Good x) ∧ xs.length * P.bytesOf e ≤ 140737488351232
theorem opn_slice {t e : TypeId} {s : Nat} {X : Type} {f : X → List Value} {Good : X → Prop} (hs : 0 < s) (hu : P.underlying t = some (.slice e)) (hct : P.cellsOf t = 1) (he : Opn enc P W e s f Good) :
    Opn enc P W t 1 (fun v : Value => [v]) (RowOf P W e s f Good) := by
  obtain ⟨hc, hf, hel⟩ := he
  refine ⟨hct, fun _ => rfl, fun fuel cs y hy hl hw => ?_⟩
  rcases open_slice hu hy with ⟨hcs, _⟩ | ⟨a, len, cap, m, n, D, Pl, hcs, _, hlen', hm, hmm, hx, hi⟩
  · refine ⟨_, hcs, [], ⟨none, 0, rfl, Nat.le_refl _, by omega, by simp, fun _ => rfl, fun j u hu => ?_⟩, fun n hn => absurd hn (by simp), by simp⟩
    simp at hu
  · simp only [if_true] at hmm
    subst hmm
    subst hx
    refine ⟨_, hcs, ?_⟩
    simp only [DataW.weights, hu, List.all_cons, List.all_append, Bool.and_eq_true, decide_eq_true_eq] at hw
    obtain ⟨hw0, hw1, _⟩ := hw
    simp only [List.length_map, List.length_range] at hw0
    have key : ∀ i : Fin len, ∃ y, W.cells? 0 (a.add (i.1 * s)) s = some (f y) ∧ Good y := by
      intro i
      obtain ⟨cs', h1, h2⟩ := hi i.1 (by omega)
      rw [hc] at h1
      obtain ⟨y, rfl, hg⟩ := hel n cs' _ h2 (World.cells?_some h1).2.1 (List.all_eq_true.2 fun k hk => List.all_eq_true.1 hw1 k (weightsAll_mem (List.mem_map.2 ⟨i.1, List.mem_range.2 i.2, rfl⟩) k hk))
      exact ⟨y, h1, hg⟩
    have hlen : (List.ofFn fun i : Fin len => Classical.choose (key i)).length = len := by simp
    refine ⟨List.ofFn fun i : Fin len => Classical.choose (key i), ?_, ?_, ?_⟩
    · rw [hlen]
      refine ⟨some a, _, rfl, hlen', by simpa [maxLen] using hm, by rw [flat_len f s hf, hlen], (fun h => by cases h), fun q u hq => ⟨a, rfl, ?_⟩⟩
      rw [flat_get f s hs hf] at hq
      obtain ⟨y, hy, hq⟩ := Option.bind_eq_some_iff.1 hq
      have hql : q / s < len := by
        have := (List.getElem?_eq_some_iff.1 hy).1
        rwa [hlen] at this
      have hye : y = Classical.choose (key ⟨q / s, hql⟩) := by
        rw [List.getElem?_ofFn] at hy
        simp only [hql, dite_true, Option.some.injEq] at hy
        exact hy.symm
      have hk := (Classical.choose_spec (key ⟨q / s, hql⟩)).1
      rw [← hye] at hk
      have := (World.cells?_some hk).2.2 (q % s) (Nat.mod_lt _ hs)
      rw [add_add] at this
      rw [Nat.div_add_mod' q s] at this
      rw [this]
      exact hq
    · intro y hy
      rw [List.mem_ofFn] at hy
      obtain ⟨i, rfl⟩ := hy
      exact (Classical.choose_spec (key i)).2
    · rw [hlen]
      refine Nat.le_trans (Nat.mul_le_mul_right _ ?_) hw0
      omega
/-- A parameter that is a struct, by value. -/
theorem open_agg {t : TypeId} {fs : Array Field} {s base : Nat} {X : Type} {f : X → List Value} {Good : X → Prop} {v : Value} {d : DataW H} {p : List MemPlace} {ts : List TypeId} {ds : List (DataW H)} (hO : Opn enc P W t s f Good) (hs : P.underlying t = some (.struct fs)) (hv : Value.okWide P W .any base t v)
    (h : DataW.Trod enc P W 0 (fun _ => true) true t v d p) (hsz : (DataW.weightsEach P ts ds).all (· ≤ reachBytes) = true) (j : Nat) (ht : ts[j]? = some t) (hd : ds[j]? = some d) : ∃ x, v = .agg (f x).toArray ∧ Good x := by
  obtain ⟨cs, rfl, hz⟩ := okWide_struct hs hv
  obtain ⟨fuel, hf⟩ := h
  obtain ⟨x, hx, hg⟩ := hO.2.2 fuel _ _ hf (by rw [hO.1] at hz; simpa [Value.cells] using hz) (List.all_eq_true.2 fun k hk => List.all_eq_true.1 hsz k (DataW.weights_mem_each ht hd k hk))
  refine ⟨x, ?_, hg⟩
  rw [← hx]
  simp [Value.cells]
/-- A parameter that is a slice. -/
theorem open_sl {t e : TypeId} {s base : Nat} {X : Type} {f : X → List Value} {Good : X → Prop} {v : Value} {d : DataW H} {p : List MemPlace} {ts : List TypeId} {ds : List (DataW H)} (h0 : 0 < s) (hu : P.underlying t = some (.slice e)) (hct : P.cellsOf t = 1) (hO : Opn enc P W e s f Good) (hv : Value.okWide P W .any base t v)
    (h : DataW.Trod enc P W 0 (fun _ => true) true t v d p) (hsz : (DataW.weightsEach P ts ds).all (· ≤ reachBytes) = true) (j : Nat) (ht : ts[j]? = some t) (hd : ds[j]? = some d) : RowOf P W e s f Good v := by
  obtain ⟨a, len, cap, rfl⟩ := okWide_slice hu hv
  obtain ⟨fuel, hf⟩ := h
  obtain ⟨x, hx, hg⟩ := (opn_slice h0 hu hct hO).2.2 fuel _ _ hf (by simp [Value.cells]) (List.all_eq_true.2 fun k hk => List.all_eq_true.1 hsz k (DataW.weights_mem_each ht hd k hk))
  have e1 : Value.slice a len cap = x := by simpa [Value.cells] using hx
  rw [e1]
  exact hg
end
end Go.Proofs.YtbniandbmabdbaaDoor

/- Properties that came in. -/
namespace Go.Proofs.YtbniandbmabdbaaDoor
open Go Go.RowKit
open Go.ChangeShapes Go.WideShapes Go.Deep
set_option linter.unusedSimpArgs false
set_option linter.unusedVariables false

section
variable {H : Type} {enc : TypeId × Value → H} {W : World}
theorem opn_i64 {t : TypeId} (hu : Tryd.prog.underlying t = some (.int .i64)) (hc : Tryd.prog.cellsOf t = 1) : Opn enc Tryd.prog W t 1 (fun n : Int => [.int .i64 n]) (fun n => -9223372036854775808 ≤ n ∧ n ≤ 9223372036854775807) :=
  (opn_int hu hc).map id _ _ (fun _ => rfl) (fun _ => rfl) (fun x hx => wf_i64 hx)
/-- What a property that came in is good for. -/
def Prp.came (p : Prp) : Prop := p.nm.size ≤ 140737488351232 ∧ p.t.size ≤ 140737488351232 ∧ p.r < 18446744073709551616 ∧ (-9223372036854775808 ≤ p.n ∧ p.n ≤ 9223372036854775807) ∧ (-9223372036854775808 ≤ p.k ∧ p.k ≤ 9223372036854775807)
theorem opn_prop : Opn enc Tryd.prog W 59 5 Prp.cells Prp.came :=
  (opn_struct Tryd.underlying59 (by kernel_rfl) (opnF_cons (opn_string Tryd.underlying9 (by kernel_rfl)) rfl (opnF_cons
    (opn_struct Tryd.underlying57 (by kernel_rfl) (opnF_cons (opn_i64 Tryd.underlying3 (by kernel_rfl)) rfl (opnF_cons (opn_i64 Tryd.underlying3 (by kernel_rfl)) rfl (opnF_cons (opn_string Tryd.underlying9 (by kernel_rfl)) rfl (opnF_cons (opn_float Tryd.underlying55 (by kernel_rfl)) rfl (opnF_nil _)))))) rfl (opnF_nil _)))).map
    (fun x => ⟨x.1, x.2.1.1, x.2.1.2.1, x.2.1.2.2.1, x.2.1.2.2.2.1⟩) _ _ (fun _ => rfl) (fun _ => rfl) (fun x hx => ⟨hx.1, hx.2.1.2.2.1, hx.2.1.2.2.2.1, hx.2.1.2.1, hx.2.1.1⟩)

theorem flat_one {X : Type} (g : X → Value) (xs : List X) : xs.flatMap (fun x => [g x]) = xs.map g := by
  induction xs with
  | nil => rfl
  | cons a r ih => simp [List.flatMap_cons, ih]
set_option maxRecDepth 100000 in
theorem open_props {v : Value} {base : Nat} {d : DataW H} {p : List MemPlace} {ts : List TypeId} {ds : List (DataW H)} (hv : Value.okWide Tryd.prog W .any base 36 v) (h : DataW.Trod enc Tryd.prog W 0 (fun _ => true) true 36 v d p)
    (hsz : (DataW.weightsEach Tryd.prog ts ds).all (· ≤ reachBytes) = true) (j : Nat) (ht : ts[j]? = some 36) (hd : ds[j]? = some d) :
    ∃ ps : List Prp, RPr W v ps ∧ ∀ p ∈ ps, p.came := by
  obtain ⟨ps, r, g, _⟩ := open_sl (by omega) Tryd.underlying36 (by kernel_rfl) opn_prop hv h hsz j ht hd
  exact ⟨ps, r, g⟩
end
end Go.Proofs.YtbniandbmabdbaaDoor

/- AframeHeads: the statement's walk. -/
namespace Go.Proofs.YtbniandbmabdbaaDoor
open Go Go.RowKit
set_option linter.unusedSimpArgs false
set_option linter.unusedVariables false

def hdOk (size : Int) (ps : List Prp) : Bool := decide (0 ≤ size ∧ size ≤ 1024) && validB ps
def hdL (size : Int) (ps : List Prp) (d : Bool) : List UInt8 := if hdOk size ps = true then headB size.toNat ps d else []
def hdE (size : Int) (ps : List Prp) : Int := if 0 ≤ size ∧ size ≤ 1024 then (if validB ps = true then 0 else 36) else 1
theorem headV {w w' : World} {size : Int} {ps : List Prp} {d : Bool} {e : Ending} (h : HeadPost w size ps d e w') :
    ∃ v, e = .returned (.tuple #[v, .int .i64 (hdE size ps)]) ∧ RB w' v (hdL size ps d) ∧ Below w.heap.size w w' := by
  obtain ⟨b, h⟩ := h
  unfold hdE hdL hdOk
  by_cases h0 : 0 ≤ size ∧ size ≤ 1024
  · rw [if_pos h0] at h ⊢
    rw [decide_eq_true h0]
    cases hv : validB ps with
    | true =>
      rw [hv, if_pos rfl] at h
      obtain ⟨v, rfl, o⟩ := h
      exact ⟨v, rfl, ob_rb o, b⟩
    | false =>
      rw [hv, if_neg (by decide)] at h
      exact ⟨_, h, ob_rb (ob_nil w' 0), b⟩
  · rw [if_neg h0] at h ⊢
    rw [decide_eq_false h0]
    exact ⟨_, h, ob_rb (ob_nil w' 0), b⟩
def rhN : RH → Int | .err _ => 0 | .ok n _ _ => n
def rhL : RH → List Prp | .err _ => [] | .ok _ ps _ => ps
def rhT : RH → Bool | .err _ => false | .ok _ _ t => t
def rhE : RH → Int | .err n => n | .ok _ _ _ => 0
theorem rpr_nil (w : World) : RPr w (.slice none 0 0) [] := own_rc (own_nil w 0 59 5)
theorem readV {w w' : World} {o : RH} {e : Ending} (h : RHPost w o e w') :
    ∃ v, e = .returned (.tuple #[.int .i64 (rhN o), v, .bool (rhT o), .int .i64 (rhE o)]) ∧ RPr w' v (rhL o) ∧ Below w.heap.size w w' := by
  obtain ⟨b, h⟩ := h
  cases o with
  | err n => exact ⟨_, h, rpr_nil w', b⟩
  | ok n ps t =>
    obtain ⟨v, h1, h2⟩ := h
    exact ⟨v, h1, ownP_rpr h2, b⟩

theorem idx0 (w : World) : (Instr.index 38 (.agg #[.bool false, .bool true]) (.int .i64 0)).run Tryd.prog w = .ok (.bool false) w := by kernel_rfl
theorem idx1 (w : World) : (Instr.index 38 (.agg #[.bool false, .bool true]) (.int .i64 1)).run Tryd.prog w = .ok (.bool true) w := by kernel_rfl
set_option maxRecDepth 1000000 in
set_option maxHeartbeats 4000000 in
theorem aframeHeads_c {w : World} (size : Int) {vl : Value} {ps : List Prp} (s : ByteArray) (hp : RPr w vl ps) (hc : ∀ p ∈ ps, p.came) :
    Calls Tryd.prog 6 #[.int .i64 size, vl, .string s] w fun e w' => e = .returned (.bool true) ∧ Below w.heap.size w w' := by
  have HP := Lib.hid hp
  have HC := Lib.hid hc
  clear hp hc
  go_enter Tryd.func6, Tryd.ntmps6
  go_wp2_with fail
  refine Af.wakes_c.mono ?_
  rintro e w1 ⟨rfl, b1⟩
  have HLG := Lib.hid (along_c (rc_below HP.out b1) (fun p hp => ⟨(HC.out p hp).1, (HC.out p hp).2.1⟩))
  go_wp2_with fail
  refine (HLG.out).mono ?_
  rintro e w2 ⟨lg, rfl, _, b2⟩
  have B2 := b1.trans (b2.mono b1.size)
  clear b1 b2 HLG
  cases lg with
  | true =>
    go_wp2_with fail
    go_ret
    exact ⟨rfl, B2⟩
  | false =>
    by_cases h2 : 16384 < s.size
    · have h2I : (16384 : Int) < s.size := by omega
      clear h2
      go_wp2_with fail
      go_ret
      exact ⟨rfl, B2⟩
    · have h2I : ¬ (16384 : Int) < s.size := by omega
      have H2 := Lib.hid (show s.size ≤ 16384 by omega)
      clear h2
      go_upto_region 6 with fail
      clear h2I
      go_wp2_with fail
      go_loopw [31] (fun i wr => ∃ k : Nat, k ≤ 2 ∧ i = .int .i64 k ∧ Below w.heap.size w wr) (fun i _ => 2 - (intOf i).toNat)
      case atStart => exact ⟨0, by omega, rfl, B2⟩
      case round =>
        obtain ⟨k, hk, rfl, B3⟩ := hrel
        clear B2
        by_cases hlt : k < 2
        · obtain ⟨d, i0⟩ : ∃ d : Bool, ∀ w, (Instr.index 38 (.agg #[.bool false, .bool true]) (.int .i64 k)).run Tryd.prog w = .ok (.bool d) w := by
            have : k = 0 ∨ k = 1 := by omega
            rcases this with rfl | rfl
            · exact ⟨false, fun w => idx0 w⟩
            · exact ⟨true, fun w => idx1 w⟩
          have hkI : (k : Int) < 2 := by omega
          have hk0 : (0 : Int) ≤ k := by omega
          have HLT := Lib.hid hlt
          have HQ1 := Lib.hid (ahead_c (w := wr) size d (rc_below HP.out B3) (fun p hp => (HC.out p hp).1) (fun p hp => (HC.out p hp).2.2.1))
          clear hlt hk
          go_wp2_with fail
          refine (HQ1.out).mono ?_
          intro e w4 h4
          obtain ⟨v4, rfl, r4, b4⟩ := headV h4
          have B4 := B3.trans (b4.mono B3.size)
          have R4 := Lib.hid r4
          have HQ2 := Lib.hid (refHead_c (w := w4) size d (rc_below HP.out B4) (fun p hp => (HC.out p hp).1) (fun p hp => (HC.out p hp).2.2.1))
          clear r4 b4 h4 HQ1
          go_wp2_with fail
          refine (HQ2.out).mono ?_
          intro e w5 h5
          obtain ⟨v5, rfl, r5, b5⟩ := headV h5
          have B5 := B4.trans (b5.mono B4.size)
          have hc3 := rb_string (rb_below R4.out b5)
          have hc4 := rb_string r5
          obtain ⟨x, hx⟩ : ∃ x : ByteArray, x = ⟨(hdL size ps d).toArray⟩ := ⟨_, rfl⟩
          rw [← hx] at hc3 hc4
          clear hx r5 b5 h5 HQ2 R4 B4 B3 i0
          go_wp2_with fail
          go_roundw
          case rel => exact ⟨k + 1, by have := HLT.out; omega, by go_num, B5⟩
          case measure => have := HLT.out; simp [intOf]; omega
        · obtain rfl : k = 2 := by omega
          clear hlt hk
          have HQ3 := Lib.hid (readHead_c (w := wr) s (by have := H2.out; omega))
          go_wp2_with fail
          refine (HQ3.out).mono ?_
          intro e w4 h4
          obtain ⟨v4, rfl, r4, b4⟩ := readV h4
          have B4 := B3.trans (b4.mono B3.size)
          have R4 := Lib.hid r4
          have HQ4 := Lib.hid (refReadHead_c (w := w4) s (by have := H2.out; omega))
          clear r4 b4 h4 HQ3
          go_wp2_with fail
          refine (HQ4.out).mono ?_
          intro e w5 h5
          obtain ⟨v5, rfl, r5, b5⟩ := readV h5
          have B5 := B4.trans (b5.mono B4.size)
          have HS := Lib.hid (sameAll_c (rc_below R4.out b5) r5)
          clear r5 b5 h5 HQ4 R4 B4 B3
          go_wp2_with fail
          refine (HS.out).mono ?_
          rintro e w8 ⟨b, rfl, hb8, b8⟩
          obtain rfl : b = true := by first | exact hb8.2 trivial | exact hb8.2 rfl | exact hb8
          go_wp2_with fail
          go_ret
          exact ⟨rfl, B5.trans (b8.mono B5.size)⟩
end Go.Proofs.YtbniandbmabdbaaDoor
