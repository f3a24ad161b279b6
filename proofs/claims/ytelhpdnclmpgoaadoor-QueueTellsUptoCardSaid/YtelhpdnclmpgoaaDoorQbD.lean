/- Layer 8, the reference's Good; layer 10: Message, the program's and the reference's. (Printed by gen/qbd.py.) -/
import Derived.Test.YtelhpdnclmpgoaaDoorQbC
import Derived.Test.YtelhpdnclmpgoaaDoorRfE
import Derived.Test.YtelhpdnclmpgoaaDoorOpenP
namespace Go.Proofs.YtelhpdnclmpgoaaDoor
open Go Go.RowKit
set_option linter.unusedSimpArgs false
set_option linter.unusedVariables false

set_option maxRecDepth 100000 in
set_option maxHeartbeats 1000000 in
theorem refTopic_c {w : World} (s : ByteArray) (hs : s.size ≤ 1048576) :
    Calls Tryd.prog 33 #[.string s] w fun e w' => e = .returned (.bool (topicB s)) ∧ Below w.heap.size w w' := by
  have HSP := Lib.hid (refWords_c (w := w) s hs)
  have HSZ : Hid (∀ t ∈ wordsB s, t.size ≤ 140737488351232) := Lib.hid (fun t ht => by have := wordsB_size ht; omega)
  obtain ⟨ws, hws⟩ : ∃ ws, ws = wordsB s := ⟨_, rfl⟩
  have hwl : ws.length ≤ 1048577 := by
    rw [hws, ← count_words]
    have := Lib.countB_le dotB (by decide) s.size s (Nat.le_refl _)
    omega
  have hT : topicB s = (decide (s.size ≤ 64) && decide (ws.length ≤ 8) && ws.all nameB) := by unfold topicB; rw [hws]
  obtain ⟨tb, htb⟩ : ∃ tb, tb = topicB s := ⟨_, rfl⟩
  have HTB := Lib.hid (htb.trans hT)
  rw [← htb]
  rw [← hws] at HSP HSZ
  clear hT hws htb
  by_cases h64 : s.size ≤ 64
  · have h64I : (s.size : Int) ≤ 64 := by omega
    have HD := Lib.hid (decide_eq_true h64)
    clear h64
    go_enter Tryd.func33, Tryd.ntmps33
    go_wp2_with fail
    refine (HSP.out).mono ?_
    rintro e w1 ⟨v, rfl, r1, b1⟩
    obtain ⟨A, c, rfl, hnc, hcell⟩ := texts_at r1
    have HC := Lib.hid hcell
    have BW := Lib.hid b1
    clear r1 hcell b1 HSP
    go_wp2_with fail
    go_loopw [13] (fun i wr => ∃ k : Nat, k ≤ ws.length ∧ i = .int .i64 k ∧ Hid (∀ j t, j < k → ws[j]? = some t → nameB t = true) ∧ Below w1.heap.size w1 wr) (fun i _ => ws.length - (intOf i).toNat)
    case atStart => exact ⟨0, Nat.zero_le _, rfl, Lib.hid (fun j t h => by omega), Below.refl _ _⟩
    case round =>
      obtain ⟨k, hk, rfl, HN, b2⟩ := hrel
      by_cases hlt : k < ws.length
      · obtain ⟨t, ht⟩ : ∃ t, ws[k]? = some t := ⟨_, List.getElem?_eq_getElem hlt⟩
        obtain ⟨a, rfl, q0⟩ := HC.out k t ht
        have hns := HSZ.out t (List.mem_of_getElem? ht)
        have p0 := cell_below b2 (World.block_lt_of_cell? w1 _ q0) q0
        have HT := Lib.hid ht
        have HLT := Lib.hid hlt
        have HW := Lib.hid (refName_c (w := wr) t hns)
        have hkI : (k : Int) < ws.length := by omega
        clear ht q0 hns
        cases hnm : nameB t with
        | false =>
          rw [hnm] at HW
          obtain rfl : tb = false := by rw [HTB.out, List.all_eq_false.2 ⟨t, List.mem_of_getElem? HT.out, by rw [hnm]; decide⟩, Bool.and_false]
          go_wp2_with fail
          refine (HW.out).mono ?_
          rintro e w2 ⟨rfl, rfl⟩
          go_wp2_with fail
          go_ret
          exact ⟨rfl, BW.out.trans (b2.mono BW.out.size)⟩
        | true =>
          rw [hnm] at HW
          have hnx : ∀ j t, j < k + 1 → ws[j]? = some t → nameB t = true := fun j x hj hx => by
            by_cases e : j = k
            · subst e
              rw [HT.out] at hx
              injection hx with hx
              rw [← hx]
              exact hnm
            · exact HN.out j x (by omega) hx
          have HNX := Lib.hid hnx
          clear hnx
          go_wp2_with fail
          refine (HW.out).mono ?_
          rintro e w2 ⟨rfl, rfl⟩
          go_wp2_with fail
          go_roundw
          case rel => exact ⟨k + 1, by have := HLT.out; omega, by go_num, HNX, b2⟩
          case measure => have := HLT.out; simp [intOf]; omega
      · have hk2 : k = ws.length := by omega
        subst hk2
        obtain rfl : tb = decide (ws.length ≤ 8) := by
          rw [HTB.out, HD.out, List.all_eq_true.2 fun t ht => by
            obtain ⟨j, hj⟩ := List.getElem?_of_mem ht
            exact HN.out j t (List.getElem?_eq_some_iff.1 hj).1 hj, Bool.true_and, Bool.and_true]
        clear hlt
        go_wp2_with fail
        go_ret
        exact ⟨by first | rfl | (simp; omega), BW.out.trans (b2.mono BW.out.size)⟩
  · have h64I : (64 : Int) < s.size := by omega
    obtain rfl : tb = false := by rw [HTB.out, decide_eq_false h64, Bool.false_and, Bool.false_and]
    clear h64
    go_enter Tryd.func33, Tryd.ntmps33
    go_wp2_with fail
    go_ret
    exact ⟨rfl, Below.refl _ _⟩

/-- A message; its properties' slice beside them. -/
structure Msg where
  top : ByteArray
  body : ByteArray
  ps : List Prp
  dur : Bool
  unt : Int
def Msg.good (m : Msg) : Bool := topicB m.top && decide (m.body.size ≤ 1024) && validB m.ps && decide (0 ≤ m.unt) && decide (m.unt ≤ 1099511627776)
/-- What a message is within. -/
def Msg.fit (m : Msg) : Prop := m.top.size ≤ 1048576 ∧ m.body.size ≤ 1048576 ∧ m.ps.length ≤ 1048576 ∧ (-9223372036854775808 ≤ m.unt ∧ m.unt ≤ 9223372036854775807) ∧ ∀ p ∈ m.ps, p.came
/-- The library's own variable holds some number. -/
def GM (w : World) : Prop := ∃ m : Int, w.cell? ⟨3, 0, none⟩ = some (.int .i64 m)
theorem GM.below {w w1 : World} (h : GM w) (b : Below w.heap.size w w1) : GM w1 := by
  obtain ⟨m, h⟩ := h
  exact ⟨m, cell_below b (World.block_lt_of_cell? w _ h) h⟩

set_option maxRecDepth 100000 in
set_option maxHeartbeats 2000000 in
theorem message_c {w : World} (m : Msg) {A : Option Addr} {c : Nat} (hp : RPr w (.slice A m.ps.length c) m.ps) (hf : m.fit) (hg : GM w) :
    Calls Tryd.prog 12 #[.agg #[.string m.top, .string m.body, .slice A m.ps.length c, .bool m.dur, .int .i64 m.unt]] w fun e w' => e = .returned (.bool m.good) ∧ Below w.heap.size w w' := by
  obtain ⟨f1, f2, f3, f4, f5⟩ := hf
  have b0 := (Below.refl w.heap.size w).alloc (Nat.le_refl _) (.cells #[.string m.top, .string m.body, .slice A m.ps.length c, .bool m.dur, .int .i64 m.unt] 28)
  have bz : w.heap.size < (w.alloc (.cells #[.string m.top, .string m.body, .slice A m.ps.length c, .bool m.dur, .int .i64 m.unt] 28)).heap.size := by show _ < (Array.push _ _).size; simp
  have HT := Lib.hid (topic_c (w := w.alloc (.cells #[.string m.top, .string m.body, .slice A m.ps.length c, .bool m.dur, .int .i64 m.unt] 28)) m.top f1 (hg.below ((Below.refl _ _).alloc (Nat.le_refl _) _)))
  have HP := Lib.hid (rc_alloc hp (.cells #[.string m.top, .string m.body, .slice A m.ps.length c, .bool m.dur, .int .i64 m.unt] 28))
  have z : ∀ j u, (#[.string m.top, .string m.body, .slice A m.ps.length c, .bool m.dur, .int .i64 m.unt] : Array Value)[j]? = some u → (w.alloc (.cells #[.string m.top, .string m.body, .slice A m.ps.length c, .bool m.dur, .int .i64 m.unt] 28)).cell? ⟨w.heap.size, j, none⟩ = some u := fun j u hj => new_cell j u hj
  obtain ⟨W, hW⟩ : ∃ W, W = w.alloc (.cells #[.string m.top, .string m.body, .slice A m.ps.length c, .bool m.dur, .int .i64 m.unt] 28) := ⟨_, rfl⟩
  rw [← hW] at b0 bz HT HP z
  have HWW := Lib.hid hW
  have HB0 := Lib.hid b0
  have HZ := Lib.hid z
  have HF := Lib.hid f5
  have HM : Hid (m.good = (topicB m.top && decide (m.body.size ≤ 1024) && validB m.ps && decide (0 ≤ m.unt) && decide (m.unt ≤ 1099511627776))) := Lib.hid rfl
  obtain ⟨gb, hgb⟩ : ∃ gb, gb = m.good := ⟨_, rfl⟩
  have HG := Lib.hid (hgb.trans HM.out)
  rw [← hgb]
  have z0 := z 0 _ rfl
  have z1 := z 1 _ rfl
  have z2 := z 2 _ rfl
  have z4 := z 4 _ rfl
  clear hgb hW hp z b0 f5 HM hg
  go_enter Tryd.func12, Tryd.ntmps12
  go_upto_region 1 with fail
  rw [← HWW.out]
  cases htp : topicB m.top with
  | false =>
    rw [htp] at HT
    obtain rfl : gb = false := by rw [HG.out, htp]; rfl
    clear htp
    go_wp2_with fail
    refine (HT.out).mono ?_
    rintro e w1 ⟨rfl, b1⟩
    go_wp2_with fail
    go_ret
    exact ⟨rfl, HB0.out.trans (b1.mono HB0.out.size)⟩
  | true =>
    rw [htp] at HT
    by_cases hbd : m.body.size ≤ 1024
    · have hbI : (m.body.size : Int) ≤ 1024 := by omega
      cases hvl : validB m.ps with
      | false =>
        obtain rfl : gb = false := by rw [HG.out, hvl, Bool.and_false]; rfl
        clear hbd
        go_wp2_with fail
        refine (HT.out).mono ?_
        rintro e w1 ⟨rfl, b1⟩
        have HV := Lib.hid (valid_c (w := w1) (rc_below HP.out b1) (fun p hp => (HF.out p hp).1))
        rw [hvl] at HV
        have y1 := cell_below b1 bz z1
        have y2 := cell_below b1 bz z2
        have B1 := Lib.hid (HB0.out.trans (b1.mono HB0.out.size))
        clear htp hvl b1 z0 z1 z2 z4 bz
        go_wp2_with fail
        refine (HV.out).mono ?_
        rintro e w2 ⟨rfl, b2⟩
        go_wp2_with fail
        go_ret
        exact ⟨rfl, B1.out.trans (b2.mono B1.out.size)⟩
      | true =>
        have HG2 := Lib.hid (show gb = (decide (0 ≤ m.unt) && decide (m.unt ≤ 1099511627776)) from by rw [HG.out, htp, hvl, decide_eq_true hbd]; simp)
        clear hbd
        go_wp2_with fail
        refine (HT.out).mono ?_
        rintro e w1 ⟨rfl, b1⟩
        have HV := Lib.hid (valid_c (w := w1) (rc_below HP.out b1) (fun p hp => (HF.out p hp).1))
        rw [hvl] at HV
        have y1 := cell_below b1 bz z1
        have y2 := cell_below b1 bz z2
        have y4 := cell_below b1 bz z4
        have y4b := World.block_lt_of_cell? _ _ y4
        have B1 := Lib.hid (HB0.out.trans (b1.mono HB0.out.size))
        clear htp hvl b1 z0 z1 z2 z4 bz
        go_wp2_with fail
        refine (HV.out).mono ?_
        rintro e w2 ⟨rfl, b2⟩
        have x4 := cell_below b2 y4b y4
        clear y1 y2 y4 y4b
        by_cases hu0 : 0 ≤ m.unt
        · obtain rfl : gb = decide (m.unt ≤ 1099511627776) := by rw [HG2.out, decide_eq_true hu0, Bool.true_and]
          go_wp2_with fail
          go_ret
          exact ⟨rfl, B1.out.trans (b2.mono B1.out.size)⟩
        · obtain rfl : gb = false := by rw [HG2.out, decide_eq_false hu0, Bool.false_and]
          have hu0' : m.unt < 0 := by omega
          clear hu0
          go_wp2_with fail
          go_ret
          exact ⟨rfl, B1.out.trans (b2.mono B1.out.size)⟩
    · have hbI : (1024 : Int) < m.body.size := by omega
      obtain rfl : gb = false := by rw [HG.out, decide_eq_false hbd, Bool.and_false]; rfl
      clear hbd
      go_wp2_with fail
      refine (HT.out).mono ?_
      rintro e w1 ⟨rfl, b1⟩
      have y1 := cell_below b1 bz z1
      have B1 := Lib.hid (HB0.out.trans (b1.mono HB0.out.size))
      clear htp b1 z0 z1 z2 z4 bz
      go_wp2_with fail
      go_ret
      exact ⟨rfl, B1.out⟩

set_option maxRecDepth 100000 in
set_option maxHeartbeats 2000000 in
theorem refMessage_c {w : World} (m : Msg) {A : Option Addr} {c : Nat} (hp : RPr w (.slice A m.ps.length c) m.ps) (hf : m.fit) :
    Calls Tryd.prog 13 #[.agg #[.string m.top, .string m.body, .slice A m.ps.length c, .bool m.dur, .int .i64 m.unt]] w fun e w' => e = .returned (.bool m.good) ∧ Below w.heap.size w w' := by
  obtain ⟨f1, f2, f3, f4, f5⟩ := hf
  have b0 := (Below.refl w.heap.size w).alloc (Nat.le_refl _) (.cells #[.string m.top, .string m.body, .slice A m.ps.length c, .bool m.dur, .int .i64 m.unt] 28)
  have bz : w.heap.size < (w.alloc (.cells #[.string m.top, .string m.body, .slice A m.ps.length c, .bool m.dur, .int .i64 m.unt] 28)).heap.size := by show _ < (Array.push _ _).size; simp
  have HT := Lib.hid (refTopic_c (w := w.alloc (.cells #[.string m.top, .string m.body, .slice A m.ps.length c, .bool m.dur, .int .i64 m.unt] 28)) m.top f1)
  have HP := Lib.hid (rc_alloc hp (.cells #[.string m.top, .string m.body, .slice A m.ps.length c, .bool m.dur, .int .i64 m.unt] 28))
  have z : ∀ j u, (#[.string m.top, .string m.body, .slice A m.ps.length c, .bool m.dur, .int .i64 m.unt] : Array Value)[j]? = some u → (w.alloc (.cells #[.string m.top, .string m.body, .slice A m.ps.length c, .bool m.dur, .int .i64 m.unt] 28)).cell? ⟨w.heap.size, j, none⟩ = some u := fun j u hj => new_cell j u hj
  obtain ⟨W, hW⟩ : ∃ W, W = w.alloc (.cells #[.string m.top, .string m.body, .slice A m.ps.length c, .bool m.dur, .int .i64 m.unt] 28) := ⟨_, rfl⟩
  rw [← hW] at b0 bz HT HP z
  have HWW := Lib.hid hW
  have HB0 := Lib.hid b0
  have HZ := Lib.hid z
  have HF := Lib.hid f5
  have HM : Hid (m.good = (topicB m.top && decide (m.body.size ≤ 1024) && validB m.ps && decide (0 ≤ m.unt) && decide (m.unt ≤ 1099511627776))) := Lib.hid rfl
  obtain ⟨gb, hgb⟩ : ∃ gb, gb = m.good := ⟨_, rfl⟩
  have HG := Lib.hid (hgb.trans HM.out)
  rw [← hgb]
  have z0 := z 0 _ rfl
  have z1 := z 1 _ rfl
  have z2 := z 2 _ rfl
  have z4 := z 4 _ rfl
  clear hgb hW hp z b0 f5 HM
  go_enter Tryd.func13, Tryd.ntmps13
  go_upto_region 1 with fail
  rw [← HWW.out]
  cases htp : topicB m.top with
  | false =>
    rw [htp] at HT
    obtain rfl : gb = false := by rw [HG.out, htp]; rfl
    clear htp
    go_wp2_with fail
    refine (HT.out).mono ?_
    rintro e w1 ⟨rfl, b1⟩
    go_wp2_with fail
    go_ret
    exact ⟨rfl, HB0.out.trans (b1.mono HB0.out.size)⟩
  | true =>
    rw [htp] at HT
    by_cases hbd : m.body.size ≤ 1024
    · have hbI : (m.body.size : Int) ≤ 1024 := by omega
      cases hvl : validB m.ps with
      | false =>
        obtain rfl : gb = false := by rw [HG.out, hvl, Bool.and_false]; rfl
        clear hbd
        go_wp2_with fail
        refine (HT.out).mono ?_
        rintro e w1 ⟨rfl, b1⟩
        have HV := Lib.hid (refValid_c (w := w1) (rc_below HP.out b1) (fun p hp => ⟨(HF.out p hp).1, (HF.out p hp).2.2.1⟩))
        rw [hvl] at HV
        have y1 := cell_below b1 bz z1
        have y2 := cell_below b1 bz z2
        have B1 := Lib.hid (HB0.out.trans (b1.mono HB0.out.size))
        clear htp hvl b1 z0 z1 z2 z4 bz
        go_wp2_with fail
        refine (HV.out).mono ?_
        rintro e w2 ⟨rfl, b2⟩
        go_wp2_with fail
        go_ret
        exact ⟨rfl, B1.out.trans (b2.mono B1.out.size)⟩
      | true =>
        have HG2 := Lib.hid (show gb = (decide (0 ≤ m.unt) && decide (m.unt ≤ 1099511627776)) from by rw [HG.out, htp, hvl, decide_eq_true hbd]; simp)
        clear hbd
        go_wp2_with fail
        refine (HT.out).mono ?_
        rintro e w1 ⟨rfl, b1⟩
        have HV := Lib.hid (refValid_c (w := w1) (rc_below HP.out b1) (fun p hp => ⟨(HF.out p hp).1, (HF.out p hp).2.2.1⟩))
        rw [hvl] at HV
        have y1 := cell_below b1 bz z1
        have y2 := cell_below b1 bz z2
        have y4 := cell_below b1 bz z4
        have y4b := World.block_lt_of_cell? _ _ y4
        have B1 := Lib.hid (HB0.out.trans (b1.mono HB0.out.size))
        clear htp hvl b1 z0 z1 z2 z4 bz
        go_wp2_with fail
        refine (HV.out).mono ?_
        rintro e w2 ⟨rfl, b2⟩
        have x4 := cell_below b2 y4b y4
        clear y1 y2 y4 y4b
        by_cases hu0 : 0 ≤ m.unt
        · obtain rfl : gb = decide (m.unt ≤ 1099511627776) := by rw [HG2.out, decide_eq_true hu0, Bool.true_and]
          go_wp2_with fail
          go_ret
          exact ⟨rfl, B1.out.trans (b2.mono B1.out.size)⟩
        · obtain rfl : gb = false := by rw [HG2.out, decide_eq_false hu0, Bool.false_and]
          have hu0' : m.unt < 0 := by omega
          clear hu0
          go_wp2_with fail
          go_ret
          exact ⟨rfl, B1.out.trans (b2.mono B1.out.size)⟩
    · have hbI : (1024 : Int) < m.body.size := by omega
      obtain rfl : gb = false := by rw [HG.out, decide_eq_false hbd, Bool.and_false]; rfl
      clear hbd
      go_wp2_with fail
      refine (HT.out).mono ?_
      rintro e w1 ⟨rfl, b1⟩
      have y1 := cell_below b1 bz z1
      have B1 := Lib.hid (HB0.out.trans (b1.mono HB0.out.size))
      clear htp b1 z0 z1 z2 z4 bz
      go_wp2_with fail
      go_ret
      exact ⟨rfl, B1.out⟩
end Go.Proofs.YtelhpdnclmpgoaaDoor
