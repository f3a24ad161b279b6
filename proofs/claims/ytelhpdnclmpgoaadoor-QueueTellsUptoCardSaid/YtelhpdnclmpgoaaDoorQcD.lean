/- Layer 10: Len, Holds, long. (Printed by gen/qcd.py.) -/
import Derived.Test.YtelhpdnclmpgoaaDoorQcC
namespace Go.Proofs.YtelhpdnclmpgoaaDoor
open Go Go.RowKit Go.Sort
set_option linter.unusedSimpArgs false
set_option linter.unusedVariables false

def heldN (cn sb : Int) (l : List Hld) : Nat := (l.filter fun h => decide (h.conn = cn) && decide (h.sub = sb)).length
theorem heldN_snoc (cn sb : Int) (l : List Hld) (h : Hld) : heldN cn sb (l ++ [h]) = heldN cn sb l + if h.conn = cn ∧ h.sub = sb then 1 else 0 := by
  unfold heldN
  rw [List.filter_append, List.length_append]
  congr 1
  by_cases h1 : h.conn = cn <;> by_cases h2 : h.sub = sb <;> simp [h1, h2]
theorem rit_len {w : World} {v : Value} {xs : List ItR} (h : RIt w v xs) : xs.length ≤ 9223372036854775807 := by
  obtain ⟨_, _, he, h1, h2, _⟩ := h.1
  omega
theorem rhl_len {w : World} {v : Value} {xs : List HlR} (h : RHl w v xs) : xs.length ≤ 9223372036854775807 := by
  obtain ⟨_, _, he, h1, h2, _⟩ := h.1
  omega
theorem heldN_le (cn sb : Int) (l : List Hld) : heldN cn sb l ≤ l.length := List.length_filter_le _ _


set_option maxRecDepth 100000 in
theorem len_c {w : World} (q : Que) (r : QuR) (hq : QuIn w q r) (hl : r.is.length + r.hs.length ≤ 9223372036854775807) :
    Calls Tryd.prog 17 #[.agg #[.string q.name, .bool q.dur, .int .i64 q.depth, .int .i64 q.seq, .int .i64 q.tag, .slice r.ia r.is.length r.ic, .slice r.ha r.hs.length r.hc]] w fun e w' => e = .returned (.int .i64 ((q.items.length : Int) + q.held.length)) ∧ Below w.heap.size w w' := by
  have h1 : q.items.length = r.is.length := by rw [← hq.ip, List.length_map]
  have h2 : q.held.length = r.hs.length := by rw [← hq.hp, List.length_map]
  rw [h1, h2]
  obtain ⟨ia, ic, is, ha, hc, hs⟩ := r
  have b0 := (Below.refl w.heap.size w).alloc (Nat.le_refl _) (.cells #[.string q.name, .bool q.dur, .int .i64 q.depth, .int .i64 q.seq, .int .i64 q.tag, .slice ia is.length ic, .slice ha hs.length hc] 25)
  obtain ⟨W, hW⟩ : ∃ W, W = w.alloc (.cells #[.string q.name, .bool q.dur, .int .i64 q.depth, .int .i64 q.seq, .int .i64 q.tag, .slice ia is.length ic, .slice ha hs.length hc] 25) := ⟨_, rfl⟩
  have z : ∀ j u, (#[.string q.name, .bool q.dur, .int .i64 q.depth, .int .i64 q.seq, .int .i64 q.tag, .slice ia is.length ic, .slice ha hs.length hc] : Array Value)[j]? = some u → W.cell? ⟨w.heap.size, j, none⟩ = some u := fun j u hj => by rw [hW]; exact new_cell j u hj
  rw [← hW] at b0
  have HB := Lib.hid b0
  have HWW := Lib.hid hW
  have HI := Lib.hid (hq.items.below b0)
  have HH := Lib.hid (hq.held.below b0)
  have x5 := z 5 _ rfl
  have x6 := z 6 _ rfl
  have HP := Lib.hid hq.hp
  have hli : is.length ≤ 9223372036854775807 := rit_len hq.items
  have hlh : hs.length ≤ 9223372036854775807 := rhl_len hq.held
  dsimp only at HI HH HP ⊢
  dsimp only at hl
  have hwk : IntKind.i64.wrap ((is.length : Int) + hs.length) = (is.length : Int) + hs.length := IntWalk.i64_in _ (by omega)
  clear h1 h2 hW z b0
  go_enter Tryd.func17, Tryd.ntmps17
  go_upto_region 1 with fail
  rw [← HWW.out]
  go_wp2_with fail
  go_ret
  exact ⟨rfl, HB.out⟩


set_option maxRecDepth 100000 in
set_option maxHeartbeats 2000000 in
theorem holds_c {w : World} (q : Que) (r : QuR) (hq : QuIn w q r) (cn sb : Int) :
    Calls Tryd.prog 18 #[.agg #[.string q.name, .bool q.dur, .int .i64 q.depth, .int .i64 q.seq, .int .i64 q.tag, .slice r.ia r.is.length r.ic, .slice r.ha r.hs.length r.hc], .int .i64 cn, .int .i64 sb] w fun e w' => e = .returned (.int .i64 (heldN cn sb q.held)) ∧ Below w.heap.size w w' := by
  obtain ⟨ia, ic, is, ha, hc, hs⟩ := r
  have b0 := (Below.refl w.heap.size w).alloc (Nat.le_refl _) (.cells #[.string q.name, .bool q.dur, .int .i64 q.depth, .int .i64 q.seq, .int .i64 q.tag, .slice ia is.length ic, .slice ha hs.length hc] 25)
  obtain ⟨W, hW⟩ : ∃ W, W = w.alloc (.cells #[.string q.name, .bool q.dur, .int .i64 q.depth, .int .i64 q.seq, .int .i64 q.tag, .slice ia is.length ic, .slice ha hs.length hc] 25) := ⟨_, rfl⟩
  have z : ∀ j u, (#[.string q.name, .bool q.dur, .int .i64 q.depth, .int .i64 q.seq, .int .i64 q.tag, .slice ia is.length ic, .slice ha hs.length hc] : Array Value)[j]? = some u → W.cell? ⟨w.heap.size, j, none⟩ = some u := fun j u hj => by rw [hW]; exact new_cell j u hj
  rw [← hW] at b0
  have HB := Lib.hid b0
  have HWW := Lib.hid hW
  have HI := Lib.hid (hq.items.below b0)
  have HH := Lib.hid (hq.held.below b0)
  have x5 := z 5 _ rfl
  have x6 := z 6 _ rfl
  have HP := Lib.hid hq.hp
  have hli : is.length ≤ 9223372036854775807 := rit_len hq.items
  have hlh : hs.length ≤ 9223372036854775807 := rhl_len hq.held
  dsimp only at HI HH HP ⊢
  clear hW z b0 hq
  go_enter Tryd.func18, Tryd.ntmps18
  go_upto_region 2 with fail
  rw [← HWW.out]
  go_wp2_with fail
  go_loopw [7, 13] (fun n i wr => ∃ k : Nat, k ≤ hs.length ∧ i = .int .i64 k ∧ n = .int .i64 (heldN cn sb ((hs.take k).map HlR.pl)) ∧ Below W.heap.size W wr) (fun _ i _ => hs.length - (intOf i).toNat)
  case atStart => exact ⟨0, Nat.zero_le _, rfl, rfl, Below.refl _ _⟩
  case round =>
    obtain ⟨k, hk, rfl, rfl, b2⟩ := hrel
    by_cases hlt : k < hs.length
    · obtain ⟨x, hx⟩ : ∃ x, hs[k]? = some x := ⟨_, List.getElem?_eq_getElem hlt⟩
      obtain ⟨ok, a, rfl, q0, q1, q2, q3, q4, q5, q6, q7, q8, q9⟩ := held_lit HH.out k x hx
      have y6 := cell_below b2 (World.block_lt_of_cell? W _ x6) x6
      have hkI : (k : Int) < hs.length := by omega
      have HLT := Lib.hid hlt
      have p0 := cell_below b2 (World.block_lt_of_cell? W _ q0) q0
      have p1 := cell_below b2 (World.block_lt_of_cell? W _ q1) q1
      have p2 := cell_below b2 (World.block_lt_of_cell? W _ q2) q2
      have p3 := cell_below b2 (World.block_lt_of_cell? W _ q3) q3
      have p4 := cell_below b2 (World.block_lt_of_cell? W _ q4) q4
      have p5 := cell_below b2 (World.block_lt_of_cell? W _ q5) q5
      have p6 := cell_below b2 (World.block_lt_of_cell? W _ q6) q6
      have p7 := cell_below b2 (World.block_lt_of_cell? W _ q7) q7
      have p8 := cell_below b2 (World.block_lt_of_cell? W _ q8) q8
      have p9 := cell_below b2 (World.block_lt_of_cell? W _ q9) q9
      have b3 := b2.alloc b2.size (.cells #[.int .i64 x.tag, .int .i64 x.conn, .int .i64 x.sub, .int .i64 x.r.it.seq, .bool x.r.it.again, .string x.r.it.m.top, .string x.r.it.m.body, .slice x.r.pa x.r.it.m.ps.length x.r.pc, .bool x.r.it.m.dur, .int .i64 x.r.it.m.unt] 46)
      have HNX : Hid (heldN cn sb ((hs.take (k + 1)).map HlR.pl) = heldN cn sb ((hs.take k).map HlR.pl) + if x.conn = cn ∧ x.sub = sb then 1 else 0) := Lib.hid (by rw [List.take_add_one, hx, List.map_append]; exact heldN_snoc _ _ _ _)
      have hnl : heldN cn sb ((hs.take k).map HlR.pl) ≤ k := by have := heldN_le cn sb ((hs.take k).map HlR.pl); rw [List.length_map, List.length_take] at this; omega
      obtain ⟨n, hn⟩ : ∃ n, n = heldN cn sb ((hs.take k).map HlR.pl) := ⟨_, rfl⟩
      rw [← hn] at hnl HNX ⊢
      have hwn : wrap64 ((n : Int) + 1) = (n : Int) + 1 := by unfold wrap64; omega
      have hwn2 : IntKind.i64.wrap ((n : Int) + 1) = (n : Int) + 1 := IntWalk.i64_in _ (by omega)
      clear hx q0 q1 q2 q3 q4 q5 q6 q7 q8 q9 hlt b2 ok hn hnl
      by_cases h1 : x.conn = cn
      · by_cases h2 : x.sub = sb
        · go_wp2_with fail
          go_roundw
          case rel => exact ⟨k + 1, by have := HLT.out; omega, by go_num, by rw [HNX.out]; simp [h1, h2], by first | exact b3 | (have h := b3; rw [h1, h2] at h; exact h) | (have h := b3; rw [h1] at h; exact h)⟩
          case measure => have := HLT.out; simp [intOf]; omega
        · go_wp2_with fail
          go_roundw
          case rel => exact ⟨k + 1, by have := HLT.out; omega, by go_num, by rw [HNX.out]; simp [h2], by first | exact b3 | (have h := b3; rw [h1, h2] at h; exact h) | (have h := b3; rw [h1] at h; exact h)⟩
          case measure => have := HLT.out; simp [intOf]; omega
      · go_wp2_with fail
        go_roundw
        case rel => exact ⟨k + 1, by have := HLT.out; omega, by go_num, by rw [HNX.out]; simp [h1], by first | exact b3 | (have h := b3; rw [h1, h2] at h; exact h) | (have h := b3; rw [h1] at h; exact h)⟩
        case measure => have := HLT.out; simp [intOf]; omega
    · have hk2 : k = hs.length := by omega
      subst hk2
      have HN : Hid (heldN cn sb ((hs.take hs.length).map HlR.pl) = heldN cn sb q.held) := Lib.hid (by rw [List.take_length, HP.out])
      rw [HN.out]
      clear hlt
      go_wp2_with fail
      go_ret
      exact ⟨rfl, HB.out.trans (b2.mono HB.out.size)⟩


set_option maxRecDepth 100000 in
set_option maxHeartbeats 2000000 in
theorem refHolds_c {w : World} (q : Que) (r : QuR) (hq : QuIn w q r) (cn sb : Int) :
    Calls Tryd.prog 19 #[.agg #[.string q.name, .bool q.dur, .int .i64 q.depth, .int .i64 q.seq, .int .i64 q.tag, .slice r.ia r.is.length r.ic, .slice r.ha r.hs.length r.hc], .int .i64 cn, .int .i64 sb] w fun e w' => e = .returned (.int .i64 (heldN cn sb q.held)) ∧ Below w.heap.size w w' := by
  obtain ⟨ia, ic, is, ha, hc, hs⟩ := r
  have b0 := (Below.refl w.heap.size w).alloc (Nat.le_refl _) (.cells #[.string q.name, .bool q.dur, .int .i64 q.depth, .int .i64 q.seq, .int .i64 q.tag, .slice ia is.length ic, .slice ha hs.length hc] 25)
  obtain ⟨W, hW⟩ : ∃ W, W = w.alloc (.cells #[.string q.name, .bool q.dur, .int .i64 q.depth, .int .i64 q.seq, .int .i64 q.tag, .slice ia is.length ic, .slice ha hs.length hc] 25) := ⟨_, rfl⟩
  have z : ∀ j u, (#[.string q.name, .bool q.dur, .int .i64 q.depth, .int .i64 q.seq, .int .i64 q.tag, .slice ia is.length ic, .slice ha hs.length hc] : Array Value)[j]? = some u → W.cell? ⟨w.heap.size, j, none⟩ = some u := fun j u hj => by rw [hW]; exact new_cell j u hj
  rw [← hW] at b0
  have HB := Lib.hid b0
  have HWW := Lib.hid hW
  have HI := Lib.hid (hq.items.below b0)
  have HH := Lib.hid (hq.held.below b0)
  have x5 := z 5 _ rfl
  have x6 := z 6 _ rfl
  have HP := Lib.hid hq.hp
  have hli : is.length ≤ 9223372036854775807 := rit_len hq.items
  have hlh : hs.length ≤ 9223372036854775807 := rhl_len hq.held
  dsimp only at HI HH HP ⊢
  clear hW z b0 hq
  go_enter Tryd.func19, Tryd.ntmps19
  go_upto_region 2 with fail
  rw [← HWW.out]
  go_wp2_with fail
  go_loopw [7, 13] (fun n i wr => ∃ k : Nat, k ≤ hs.length ∧ i = .int .i64 k ∧ n = .int .i64 (heldN cn sb ((hs.take k).map HlR.pl)) ∧ Below W.heap.size W wr) (fun _ i _ => hs.length - (intOf i).toNat)
  case atStart => exact ⟨0, Nat.zero_le _, rfl, rfl, Below.refl _ _⟩
  case round =>
    obtain ⟨k, hk, rfl, rfl, b2⟩ := hrel
    by_cases hlt : k < hs.length
    · obtain ⟨x, hx⟩ : ∃ x, hs[k]? = some x := ⟨_, List.getElem?_eq_getElem hlt⟩
      obtain ⟨ok, a, rfl, q0, q1, q2, q3, q4, q5, q6, q7, q8, q9⟩ := held_lit HH.out k x hx
      have y6 := cell_below b2 (World.block_lt_of_cell? W _ x6) x6
      have hkI : (k : Int) < hs.length := by omega
      have HLT := Lib.hid hlt
      have p0 := cell_below b2 (World.block_lt_of_cell? W _ q0) q0
      have p1 := cell_below b2 (World.block_lt_of_cell? W _ q1) q1
      have p2 := cell_below b2 (World.block_lt_of_cell? W _ q2) q2
      have p3 := cell_below b2 (World.block_lt_of_cell? W _ q3) q3
      have p4 := cell_below b2 (World.block_lt_of_cell? W _ q4) q4
      have p5 := cell_below b2 (World.block_lt_of_cell? W _ q5) q5
      have p6 := cell_below b2 (World.block_lt_of_cell? W _ q6) q6
      have p7 := cell_below b2 (World.block_lt_of_cell? W _ q7) q7
      have p8 := cell_below b2 (World.block_lt_of_cell? W _ q8) q8
      have p9 := cell_below b2 (World.block_lt_of_cell? W _ q9) q9
      have b3 := b2.alloc b2.size (.cells #[.int .i64 x.tag, .int .i64 x.conn, .int .i64 x.sub, .int .i64 x.r.it.seq, .bool x.r.it.again, .string x.r.it.m.top, .string x.r.it.m.body, .slice x.r.pa x.r.it.m.ps.length x.r.pc, .bool x.r.it.m.dur, .int .i64 x.r.it.m.unt] 46)
      have HNX : Hid (heldN cn sb ((hs.take (k + 1)).map HlR.pl) = heldN cn sb ((hs.take k).map HlR.pl) + if x.conn = cn ∧ x.sub = sb then 1 else 0) := Lib.hid (by rw [List.take_add_one, hx, List.map_append]; exact heldN_snoc _ _ _ _)
      have hnl : heldN cn sb ((hs.take k).map HlR.pl) ≤ k := by have := heldN_le cn sb ((hs.take k).map HlR.pl); rw [List.length_map, List.length_take] at this; omega
      obtain ⟨n, hn⟩ : ∃ n, n = heldN cn sb ((hs.take k).map HlR.pl) := ⟨_, rfl⟩
      rw [← hn] at hnl HNX ⊢
      have hwn : wrap64 ((n : Int) + 1) = (n : Int) + 1 := by unfold wrap64; omega
      have hwn2 : IntKind.i64.wrap ((n : Int) + 1) = (n : Int) + 1 := IntWalk.i64_in _ (by omega)
      clear hx q0 q1 q2 q3 q4 q5 q6 q7 q8 q9 hlt b2 ok hn hnl
      by_cases h1 : x.conn = cn
      · by_cases h2 : x.sub = sb
        · go_wp2_with fail
          go_roundw
          case rel => exact ⟨k + 1, by have := HLT.out; omega, by go_num, by rw [HNX.out]; simp [h1, h2], by first | exact b3 | (have h := b3; rw [h1, h2] at h; exact h) | (have h := b3; rw [h1] at h; exact h)⟩
          case measure => have := HLT.out; simp [intOf]; omega
        · go_wp2_with fail
          go_roundw
          case rel => exact ⟨k + 1, by have := HLT.out; omega, by go_num, by rw [HNX.out]; simp [h2], by first | exact b3 | (have h := b3; rw [h1, h2] at h; exact h) | (have h := b3; rw [h1] at h; exact h)⟩
          case measure => have := HLT.out; simp [intOf]; omega
      · go_wp2_with fail
        go_roundw
        case rel => exact ⟨k + 1, by have := HLT.out; omega, by go_num, by rw [HNX.out]; simp [h1], by first | exact b3 | (have h := b3; rw [h1, h2] at h; exact h) | (have h := b3; rw [h1] at h; exact h)⟩
        case measure => have := HLT.out; simp [intOf]; omega
    · have hk2 : k = hs.length := by omega
      subst hk2
      have HN : Hid (heldN cn sb ((hs.take hs.length).map HlR.pl) = heldN cn sb q.held) := Lib.hid (by rw [List.take_length, HP.out])
      rw [HN.out]
      clear hlt
      go_wp2_with fail
      go_ret
      exact ⟨rfl, HB.out.trans (b2.mono HB.out.size)⟩

end Go.Proofs.YtelhpdnclmpgoaaDoor
