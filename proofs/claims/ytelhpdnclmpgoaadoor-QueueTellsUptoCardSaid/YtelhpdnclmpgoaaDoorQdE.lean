/- Layer 10: whether a queue can be: the walk. (Printed by gen/qde.py.) -/
import Derived.Test.YtelhpdnclmpgoaaDoorQdD
namespace Go.Proofs.YtelhpdnclmpgoaaDoor
open Go Go.RowKit Go.Sort
set_option linter.unusedSimpArgs false
set_option linter.unusedVariables false

/-- What a queue is within. -/
structure Que.fit (q : Que) : Prop where
  name : q.name.size ≤ 1048576
  il : q.items.length ≤ 4294967296
  hl : q.held.length ≤ 4294967296
  im : ∀ x ∈ q.items, x.m.fit
  hm : ∀ h ∈ q.held, h.it.m.fit
theorem Seen.lt {w : World} {B n : Nat} {l : List Int} (h : Seen w B n l) : B < w.heap.size := by
  obtain ⟨D, h1, h2⟩ := h
  exact h1.lt
theorem notin_of {l : List Int} {la s : Int} (h : ∀ y ∈ l, y ≤ la) (hs : la < s) : l.contains s = false := by
  cases hc : l.contains s with
  | false => rfl
  | true =>
    have := h s (by simpa using hc)
    omega
theorem take_map {α β : Type} (f : α → β) {xs : List α} {k : Nat} {x : α} (hx : xs[k]? = some x) : (xs.take (k + 1)).map f = (xs.take k).map f ++ [f x] := by
  rw [List.take_add_one, hx, List.map_append]; rfl
theorem drop_map {α β : Type} (f : α → β) {xs : List α} {k : Nat} {x : α} (hx : xs[k]? = some x) : (xs.drop k).map f = f x :: (xs.drop (k + 1)).map f := by
  obtain ⟨h, rfl⟩ := List.getElem?_eq_some_iff.1 hx
  rw [List.drop_eq_getElem_cons h]; rfl

set_option maxRecDepth 100000 in
set_option maxHeartbeats 4000000 in
theorem goodQ_c {w : World} (q : Que) (r : QuR) (hq : QuIn w q r) (hf : q.fit) (hg : GM w) :
    Calls Tryd.prog 15 #[.agg #[.string q.name, .bool q.dur, .int .i64 q.depth, .int .i64 q.seq, .int .i64 q.tag, .slice r.ia r.is.length r.ic, .slice r.ha r.hs.length r.hc]] w fun e w' => e = .returned (.bool (goodQ q)) ∧ Below w.heap.size w w' := by
  obtain ⟨nm, du, dp, sq, tg, its, hds⟩ := q
  obtain ⟨ia, ic, is, ha, hc, hs⟩ := r
  obtain ⟨hi, hh, hip, hhp⟩ := hq
  obtain ⟨f1, f2, f3, f4, f5⟩ := hf
  dsimp only at hi hh hip hhp f1 f2 f3 f4 f5 ⊢
  subst hip hhp
  rw [List.length_map] at f2 f3
  have b0 := (Below.refl w.heap.size w).alloc (Nat.le_refl _) (.cells #[.string nm, .bool du, .int .i64 dp, .int .i64 sq, .int .i64 tg, .slice ia is.length ic, .slice ha hs.length hc] 25)
  have bz : w.heap.size < (w.alloc (.cells #[.string nm, .bool du, .int .i64 dp, .int .i64 sq, .int .i64 tg, .slice ia is.length ic, .slice ha hs.length hc] 25)).heap.size := by show _ < (Array.push _ _).size; simp
  have HN := Lib.hid (name_c (w := w.alloc (.cells #[.string nm, .bool du, .int .i64 dp, .int .i64 sq, .int .i64 tg, .slice ia is.length ic, .slice ha hs.length hc] 25)) nm (by omega))
  have z : ∀ j u, (#[.string nm, .bool du, .int .i64 dp, .int .i64 sq, .int .i64 tg, .slice ia is.length ic, .slice ha hs.length hc] : Array Value)[j]? = some u → (w.alloc (.cells #[.string nm, .bool du, .int .i64 dp, .int .i64 sq, .int .i64 tg, .slice ia is.length ic, .slice ha hs.length hc] 25)).cell? ⟨w.heap.size, j, none⟩ = some u := fun j u hj => new_cell j u hj
  have hgW := hg.below b0
  obtain ⟨W, hW⟩ : ∃ W, W = w.alloc (.cells #[.string nm, .bool du, .int .i64 dp, .int .i64 sq, .int .i64 tg, .slice ia is.length ic, .slice ha hs.length hc] 25) := ⟨_, rfl⟩
  rw [← hW] at b0 bz HN z hgW
  have HWW := Lib.hid hW
  have HGM := Lib.hid hgW
  have HB := Lib.hid b0
  have HI := Lib.hid hi
  have HH := Lib.hid hh
  have HF4 := Lib.hid f4
  have HF5 := Lib.hid f5
  have hmm := @run_makeMap Tryd.prog
  obtain ⟨gb, hgb⟩ : ∃ gb, gb = goodQ ⟨nm, du, dp, sq, tg, is.map ItR.it, hs.map HlR.pl⟩ := ⟨_, rfl⟩
  have HG : Hid (gb = ((nameB nm && decide (1 ≤ dp) && decide (dp ≤ 64) && decide (0 ≤ sq) && decide (sq ≤ 1099511627776) && decide (0 ≤ tg) && decide (tg ≤ 1099511627776) && decide ((is.length : Int) + hs.length ≤ dp)) && (goodI sq 0 (is.map ItR.it) && goodH sq tg 0 ((is.map ItR.it).map Itm.seq) (hs.map HlR.pl)))) := Lib.hid (hgb.trans (by unfold goodQ headQ; simp only [List.length_map]))
  rw [← hgb]
  have hsum : IntKind.i64.wrap ((is.length : Int) + (hs.length : Int)) = is.length + hs.length := IntWalk.i64_in _ (by omega)
  clear hgb hW b0 hi hh f4 f5 hg hgW f1
  have HF2 := Lib.hid f2
  have HF3 := Lib.hid f3
  have z0 := z 0 _ rfl
  have z2 := z 2 _ rfl
  have z3 := z 3 _ rfl
  have z4 := z 4 _ rfl
  have z5 := z 5 _ rfl
  have z6 := z 6 _ rfl
  clear z f2 f3
  go_enter Tryd.func15, Tryd.ntmps15
  go_upto_region 1 with fail
  rw [← HWW.out]
  go_wp2_with fail
  refine (HN.out).mono ?_
  rintro e w1 ⟨rfl, b1⟩
  have y2 := cell_below b1 bz z2
  have y3 := cell_below b1 bz z3
  have y4 := cell_below b1 bz z4
  have y5 := cell_below b1 bz z5
  have y6 := cell_below b1 bz z6
  have B1 := Lib.hid b1
  have HBZ := Lib.hid bz
  have BW := Lib.hid (HB.out.trans (b1.mono HB.out.size))
  have HZ3 := Lib.hid z3
  have HZ4 := Lib.hid z4
  have HZ6 := Lib.hid z6
  clear b1 z0 z2 z3 z4 z5 z6 bz
  cases hnm : nameB nm with
  | false =>
    obtain rfl : gb = false := by rw [HG.out, hnm]; rfl
    go_wp2_with fail
    go_ret
    exact ⟨rfl, BW.out⟩
  | true =>
    by_cases h0 : dp < 1
    · obtain rfl : gb = false := by rw [HG.out, decide_eq_false (show ¬ (1 ≤ dp) by omega)]; simp only [Bool.and_false, Bool.false_and]
      go_wp2_with fail
      go_ret
      exact ⟨rfl, BW.out⟩
    · have k0 : 1 ≤ dp := by omega
      clear h0
      by_cases h1 : 64 < dp
      · obtain rfl : gb = false := by rw [HG.out, decide_eq_false (show ¬ (dp ≤ 64) by omega)]; simp only [Bool.and_false, Bool.false_and]
        go_wp2_with fail
        go_ret
        exact ⟨rfl, BW.out⟩
      · have k1 : dp ≤ 64 := by omega
        clear h1
        by_cases h2 : sq < 0
        · obtain rfl : gb = false := by rw [HG.out, decide_eq_false (show ¬ (0 ≤ sq) by omega)]; simp only [Bool.and_false, Bool.false_and]
          go_wp2_with fail
          go_ret
          exact ⟨rfl, BW.out⟩
        · have k2 : 0 ≤ sq := by omega
          clear h2
          by_cases h3 : 1099511627776 < sq
          · obtain rfl : gb = false := by rw [HG.out, decide_eq_false (show ¬ (sq ≤ 1099511627776) by omega)]; simp only [Bool.and_false, Bool.false_and]
            go_wp2_with fail
            go_ret
            exact ⟨rfl, BW.out⟩
          · have k3 : sq ≤ 1099511627776 := by omega
            clear h3
            by_cases h4 : tg < 0
            · obtain rfl : gb = false := by rw [HG.out, decide_eq_false (show ¬ (0 ≤ tg) by omega)]; simp only [Bool.and_false, Bool.false_and]
              go_wp2_with fail
              go_ret
              exact ⟨rfl, BW.out⟩
            · have k4 : 0 ≤ tg := by omega
              clear h4
              by_cases h5 : 1099511627776 < tg
              · obtain rfl : gb = false := by rw [HG.out, decide_eq_false (show ¬ (tg ≤ 1099511627776) by omega)]; simp only [Bool.and_false, Bool.false_and]
                go_wp2_with fail
                go_ret
                exact ⟨rfl, BW.out⟩
              · have k5 : tg ≤ 1099511627776 := by omega
                clear h5
                by_cases h6 : dp < (is.length : Int) + hs.length
                · obtain rfl : gb = false := by rw [HG.out, decide_eq_false (show ¬ ((is.length : Int) + hs.length ≤ dp) by omega)]; simp only [Bool.and_false, Bool.false_and]
                  go_wp2_with fail
                  go_ret
                  exact ⟨rfl, BW.out⟩
                · have k6 : (is.length : Int) + hs.length ≤ dp := by omega
                  clear h6
                  have HG1 : Hid (gb = (goodI sq 0 (is.map ItR.it) && goodH sq tg 0 ((is.map ItR.it).map Itm.seq) (hs.map HlR.pl))) := Lib.hid (by
                    rw [HG.out, hnm, decide_eq_true k0, decide_eq_true k1, decide_eq_true k2, decide_eq_true k3, decide_eq_true k4, decide_eq_true k5, decide_eq_true k6]; rfl)
                  have y5x : ∀ o, (w1.alloc o).cell? ⟨w.heap.size, 5, none⟩ = some (.slice ia is.length ic) := fun o => Lib.cell?_alloc_some _ y5
                  go_wp2_with fail
                  have HK := Lib.hid (And.intro k2 (And.intro k3 (And.intro k4 k5)))
                  have S0 := Lib.hid (seen_new w1)
                  have BN := Lib.hid (B1.out.alloc B1.out.size (.map #[] 0))
                  have HBB := Lib.hid (B1.out.size)
                  obtain ⟨B, hB⟩ : ∃ B, B = w1.heap.size := ⟨_, rfl⟩
                  rw [← hB]
                  rw [← hB] at S0 HBB
                  clear k0 k1 k2 k3 k4 k5 k6 hnm y2 y3 y4 y5 y5x y6 hsum hB HG
                  go_loopw [4, 59] (fun l i wr => ∃ (k : Nat) (la : Int), k ≤ is.length ∧ i = .int .i64 k ∧ l = .int .i64 la ∧ Hid (∀ y ∈ (is.take k).map (fun x => x.it.seq), y ≤ la) ∧ Hid (0 ≤ la) ∧ Hid (gb = (goodI sq la ((is.drop k).map ItR.it) && goodH sq tg 0 ((is.map ItR.it).map Itm.seq) (hs.map HlR.pl))) ∧ Hid (Seen wr B k ((is.take k).map (fun x => x.it.seq))) ∧ Below W.heap.size W wr) (fun _ i _ => is.length - (intOf i).toNat)
                  case atStart => exact ⟨0, 0, Nat.zero_le _, rfl, rfl, Lib.hid (by simp), Lib.hid (Int.le_refl _), HG1, S0, BN.out⟩
                  case round =>
                    obtain ⟨k, la, hk, rfl, rfl, HLE, HLA, HG2, HS, b2⟩ := hrel
                    have B2 := Lib.hid (HB.out.trans (b2.mono HB.out.size))
                    by_cases hlt : k < is.length
                    · skip
                      obtain ⟨x, hx⟩ : ∃ x, is[k]? = some x := ⟨_, List.getElem?_eq_getElem hlt⟩
                      obtain ⟨ok, a, rfl, q0, q1, q2, q3, q4, q5, q6⟩ := items_lit (HI.out.below B2.out) k x hx
                      have hkI : (k : Int) < is.length := by omega
                      have HLT := Lib.hid hlt
                      have HX := Lib.hid hx
                      have g3 := cell_below b2 HBZ.out HZ3.out
                      have bx := b2.alloc b2.size (.cells #[.int .i64 x.it.seq, .bool x.it.again, .string x.it.m.top, .string x.it.m.body, .slice x.pa x.it.m.ps.length x.pc, .bool x.it.m.dur, .int .i64 x.it.m.unt] 44)
                      have g3x : ∀ o, (wr.alloc o).cell? ⟨w.heap.size, 3, none⟩ = some (.int .i64 sq) := fun o => Lib.cell?_alloc_some _ g3
                      have BX := Lib.hid bx
                      have HG3 : Hid (gb = ((decide (la < x.it.seq) && decide (x.it.seq ≤ sq) && x.it.m.good && goodI sq x.it.seq ((is.drop (k + 1)).map ItR.it)) && goodH sq tg 0 ((is.map ItR.it).map Itm.seq) (hs.map HlR.pl))) := Lib.hid (by rw [HG2.out, drop_map ItR.it hx]; rfl)
                      have bxx := (Below.refl wr.heap.size wr).alloc (Nat.le_refl _) (.cells #[.int .i64 x.it.seq, .bool x.it.again, .string x.it.m.top, .string x.it.m.body, .slice x.pa x.it.m.ps.length x.pc, .bool x.it.m.dur, .int .i64 x.it.m.unt] 44)
                      have HM := Lib.hid (message_c (w := wr.alloc (.cells #[.int .i64 x.it.seq, .bool x.it.again, .string x.it.m.top, .string x.it.m.body, .slice x.pa x.it.m.ps.length x.pc, .bool x.it.m.dur, .int .i64 x.it.m.unt] 44)) x.it.m (rc_below ok bxx) (HF4.out x.it (List.mem_map.2 ⟨x, List.mem_of_getElem? hx, rfl⟩)) (HGM.out.below bx))
                      have HBXX := Lib.hid bxx
                      have zn := new_cell (w := wr) (cs := #[.int .i64 x.it.seq, .bool x.it.again, .string x.it.m.top, .string x.it.m.body, .slice x.pa x.it.m.ps.length x.pc, .bool x.it.m.dur, .int .i64 x.it.m.unt]) (t := 44) 0 _ rfl
                      have HZN := Lib.hid zn
                      have hnz : wr.heap.size < (wr.alloc (.cells #[.int .i64 x.it.seq, .bool x.it.again, .string x.it.m.top, .string x.it.m.body, .slice x.pa x.it.m.ps.length x.pc, .bool x.it.m.dur, .int .i64 x.it.m.unt] 44)).heap.size := by show _ < (Array.push _ _).size; simp
                      have HNZ := Lib.hid hnz
                      clear hx hlt ok bx bxx zn hnz
                      go_upto_region 8 with fail
                      clear q0 q1 q2 q3 q4 q5 q6
                      by_cases h0 : x.it.seq ≤ la
                      · obtain rfl : gb = false := by rw [HG3.out, decide_eq_false (show ¬ la < x.it.seq by omega)]; simp only [Bool.and_false, Bool.false_and]
                        go_wp2_with fail
                        go_ret
                        exact ⟨rfl, HB.out.trans (BX.out.mono HB.out.size)⟩
                      · have k0 : la < x.it.seq := by omega
                        by_cases h1 : sq < x.it.seq
                        · obtain rfl : gb = false := by rw [HG3.out, decide_eq_false (show ¬ x.it.seq ≤ sq by omega)]; simp only [Bool.and_false, Bool.false_and]
                          go_wp2_with fail
                          go_ret
                          exact ⟨rfl, HB.out.trans (BX.out.mono HB.out.size)⟩
                        · have k1 : x.it.seq ≤ sq := by omega
                          clear h0 h1
                          go_wp2_with fail
                          refine (HM.out).mono ?_
                          rintro e w2 ⟨rfl, b3⟩
                          have BE := Lib.hid (BX.out.trans (b3.mono BX.out.size))
                          have yn := cell_below b3 HNZ.out HZN.out
                          have HS2 := Lib.hid (Seen.below HS.out (HBXX.out.trans (b3.mono HBXX.out.size)) HS.out.lt)
                          clear b3 g3 g3x
                          cases hgd : x.it.m.good with
                          | false =>
                            obtain rfl : gb = false := by rw [HG3.out, hgd]; simp only [Bool.and_false, Bool.false_and]
                            go_wp2_with fail
                            go_ret
                            exact ⟨rfl, HB.out.trans (BE.out.mono HB.out.size)⟩
                          | true =>
                            have hr : -9223372036854775808 ≤ x.it.seq ∧ x.it.seq ≤ 9223372036854775807 := by have := HK.out; have := HLA.out; omega
                            have hrun := Seen.lookup HS2.out x.it.seq hr (notin_of HLE.out k0)
                            obtain ⟨w4, hrun2, S4, hgr⟩ := Seen.update HS2.out (by have := HF2.out; have := HLT.out; omega) x.it.seq hr
                            have S5 : Seen w4 B (k + 1) ((is.take (k + 1)).map (fun x => x.it.seq)) := by rw [take_map _ HX.out]; exact S4
                            have HS5 := Lib.hid S5
                            have b4 := BE.out.grown hgr BE.out.size (fun j hj => by cases hj; exact HBB.out)
                            have B4 := Lib.hid b4
                            have HG5 : Hid (gb = (goodI sq x.it.seq ((is.drop (k + 1)).map ItR.it) && goodH sq tg 0 ((is.map ItR.it).map Itm.seq) (hs.map HlR.pl))) := Lib.hid (by rw [HG3.out, hgd, decide_eq_true k0, decide_eq_true k1]; rfl)
                            have HLE5 : Hid (∀ y ∈ (is.take (k + 1)).map (fun x => x.it.seq), y ≤ x.it.seq) := Lib.hid (by
                              rw [take_map _ HX.out]
                              intro y hy
                              rcases List.mem_append.1 hy with h | h
                              · have := HLE.out y h; omega
                              · simp only [List.mem_singleton] at h; omega)
                            have HK0 := Lib.hid k0
                            have hw1 : IntKind.i64.wrap ((0 : Int) + 1) = 1 := by decide
                            clear S4 S5 hgr b4 hgd hr
                            go_wp2_with fail
                            have hwk : wrap64 ((k : Int) + 1) = (k : Int) + 1 := by have := HF2.out; have := HLT.out; unfold wrap64; omega
                            go_roundw
                            case rel => exact ⟨k + 1, x.it.seq, by have := HLT.out; omega, by go_num, rfl, HLE5, Lib.hid (by have := HLA.out; have := HK0.out; omega), HG5, HS5, B4.out⟩
                            case measure => first | exact round_lessL HLT.out | (rw [hwk]; exact round_lessL HLT.out)
                    · skip
                      have hk2 : k = is.length := by omega
                      subst hk2
                      have HG3 : Hid (gb = goodH sq tg 0 (is.map (fun x => x.it.seq)) (hs.map HlR.pl)) := Lib.hid (by rw [HG2.out, List.drop_length, List.map_map]; rfl)
                      have HS3 : Hid (Seen wr B is.length (is.map (fun x => x.it.seq))) := Lib.hid (by have := HS.out; rwa [List.take_length] at this)
                      have g6 := cell_below b2 HBZ.out HZ6.out
                      have BB := Lib.hid b2
                      clear hlt b2 HG2 HS HLE HLA
                      go_wp2_with fail
                      clear g6
                      go_loopw [4, 91] (fun l i wr => ∃ (k : Nat) (la : Int), k ≤ hs.length ∧ i = .int .i64 k ∧ l = .int .i64 la ∧ Hid (gb = goodH sq tg la (is.map (fun x => x.it.seq) ++ (hs.take k).map (fun x => x.r.it.seq)) ((hs.drop k).map HlR.pl)) ∧ Hid (Seen wr B (is.length + k) (is.map (fun x => x.it.seq) ++ (hs.take k).map (fun x => x.r.it.seq))) ∧ Below W.heap.size W wr) (fun _ i _ => hs.length - (intOf i).toNat)
                      case atStart => exact ⟨0, 0, Nat.zero_le _, rfl, rfl, Lib.hid (by rw [HG3.out]; simp), Lib.hid (by have := HS3.out; simpa using this), BB.out⟩
                      case round =>
                        obtain ⟨k, la, hk, rfl, rfl, HG2, HS, b2⟩ := hrel
                        have B2 := Lib.hid (HB.out.trans (b2.mono HB.out.size))
                        obtain ⟨sn, hsn⟩ : ∃ sn, sn = is.map (fun x => x.it.seq) ++ (hs.take k).map (fun x => x.r.it.seq) := ⟨_, rfl⟩
                        rw [← hsn] at HG2 HS
                        have HSN := Lib.hid hsn
                        clear hsn
                        by_cases hlt : k < hs.length
                        · skip
                          obtain ⟨x, hx⟩ : ∃ x, hs[k]? = some x := ⟨_, List.getElem?_eq_getElem hlt⟩
                          obtain ⟨ok, a, rfl, q0, q1, q2, q3, q4, q5, q6, q7, q8, q9⟩ := held_lit (HH.out.below B2.out) k x hx
                          have hkI : (k : Int) < hs.length := by omega
                          have HLT := Lib.hid hlt
                          have HX := Lib.hid hx
                          have g3 := cell_below b2 HBZ.out HZ3.out
                          have g4 := cell_below b2 HBZ.out HZ4.out
                          have bx := b2.alloc b2.size (.cells #[.int .i64 x.tag, .int .i64 x.conn, .int .i64 x.sub, .int .i64 x.r.it.seq, .bool x.r.it.again, .string x.r.it.m.top, .string x.r.it.m.body, .slice x.r.pa x.r.it.m.ps.length x.r.pc, .bool x.r.it.m.dur, .int .i64 x.r.it.m.unt] 46)
                          have g3x : ∀ o, (wr.alloc o).cell? ⟨w.heap.size, 3, none⟩ = some (.int .i64 sq) := fun o => Lib.cell?_alloc_some _ g3
                          have g4x : ∀ o, (wr.alloc o).cell? ⟨w.heap.size, 4, none⟩ = some (.int .i64 tg) := fun o => Lib.cell?_alloc_some _ g4
                          have BX := Lib.hid bx
                          have HG3 : Hid (gb = (decide (la < x.tag) && decide (x.tag ≤ tg) && decide (0 ≤ x.conn) && decide (x.conn < 8) && decide (0 ≤ x.sub) && decide (x.sub ≤ 1099511627776) && decide (1 ≤ x.r.it.seq) && decide (x.r.it.seq ≤ sq) && x.r.it.m.good && !(sn.contains x.r.it.seq) && goodH sq tg x.tag (sn ++ [x.r.it.seq]) ((hs.drop (k + 1)).map HlR.pl))) := Lib.hid (by rw [HG2.out, drop_map HlR.pl hx]; rfl)
                          have bxx := (Below.refl wr.heap.size wr).alloc (Nat.le_refl _) (.cells #[.int .i64 x.tag, .int .i64 x.conn, .int .i64 x.sub, .int .i64 x.r.it.seq, .bool x.r.it.again, .string x.r.it.m.top, .string x.r.it.m.body, .slice x.r.pa x.r.it.m.ps.length x.r.pc, .bool x.r.it.m.dur, .int .i64 x.r.it.m.unt] 46)
                          have HM := Lib.hid (message_c (w := wr.alloc (.cells #[.int .i64 x.tag, .int .i64 x.conn, .int .i64 x.sub, .int .i64 x.r.it.seq, .bool x.r.it.again, .string x.r.it.m.top, .string x.r.it.m.body, .slice x.r.pa x.r.it.m.ps.length x.r.pc, .bool x.r.it.m.dur, .int .i64 x.r.it.m.unt] 46)) x.r.it.m (rc_below ok bxx) (HF5.out x.pl (List.mem_map.2 ⟨x, List.mem_of_getElem? hx, rfl⟩)) (HGM.out.below bx))
                          have HBXX := Lib.hid bxx
                          have HZN := Lib.hid (new_cell (w := wr) (cs := #[.int .i64 x.tag, .int .i64 x.conn, .int .i64 x.sub, .int .i64 x.r.it.seq, .bool x.r.it.again, .string x.r.it.m.top, .string x.r.it.m.body, .slice x.r.pa x.r.it.m.ps.length x.r.pc, .bool x.r.it.m.dur, .int .i64 x.r.it.m.unt]) (t := 46) 0 _ rfl)
                          have HZO := Lib.hid (new_cell (w := wr) (cs := #[.int .i64 x.tag, .int .i64 x.conn, .int .i64 x.sub, .int .i64 x.r.it.seq, .bool x.r.it.again, .string x.r.it.m.top, .string x.r.it.m.body, .slice x.r.pa x.r.it.m.ps.length x.r.pc, .bool x.r.it.m.dur, .int .i64 x.r.it.m.unt]) (t := 46) 3 _ rfl)
                          have hnz : wr.heap.size < (wr.alloc (.cells #[.int .i64 x.tag, .int .i64 x.conn, .int .i64 x.sub, .int .i64 x.r.it.seq, .bool x.r.it.again, .string x.r.it.m.top, .string x.r.it.m.body, .slice x.r.pa x.r.it.m.ps.length x.r.pc, .bool x.r.it.m.dur, .int .i64 x.r.it.m.unt] 46)).heap.size := by show _ < (Array.push _ _).size; simp
                          have HNZ := Lib.hid hnz
                          clear hx hlt ok bx bxx hnz
                          go_upto_region 17 with fail
                          clear q0 q1 q2 q3 q4 q5 q6 q7 q8 q9
                          by_cases h0 : x.tag ≤ la
                          · obtain rfl : gb = false := by rw [HG3.out, decide_eq_false (show ¬ (la < x.tag) by omega)]; simp only [Bool.and_false, Bool.false_and]
                            go_wp2_with fail
                            go_ret
                            exact ⟨rfl, HB.out.trans (BX.out.mono HB.out.size)⟩
                          · have k0 : la < x.tag := by omega
                            clear h0
                            by_cases h1 : tg < x.tag
                            · obtain rfl : gb = false := by rw [HG3.out, decide_eq_false (show ¬ (x.tag ≤ tg) by omega)]; simp only [Bool.and_false, Bool.false_and]
                              go_wp2_with fail
                              go_ret
                              exact ⟨rfl, HB.out.trans (BX.out.mono HB.out.size)⟩
                            · have k1 : x.tag ≤ tg := by omega
                              clear h1
                              by_cases h2 : x.conn < 0
                              · obtain rfl : gb = false := by rw [HG3.out, decide_eq_false (show ¬ (0 ≤ x.conn) by omega)]; simp only [Bool.and_false, Bool.false_and]
                                go_wp2_with fail
                                go_ret
                                exact ⟨rfl, HB.out.trans (BX.out.mono HB.out.size)⟩
                              · have k2 : 0 ≤ x.conn := by omega
                                clear h2
                                by_cases h3 : 8 ≤ x.conn
                                · obtain rfl : gb = false := by rw [HG3.out, decide_eq_false (show ¬ (x.conn < 8) by omega)]; simp only [Bool.and_false, Bool.false_and]
                                  go_wp2_with fail
                                  go_ret
                                  exact ⟨rfl, HB.out.trans (BX.out.mono HB.out.size)⟩
                                · have k3 : x.conn < 8 := by omega
                                  clear h3
                                  by_cases h4 : x.sub < 0
                                  · obtain rfl : gb = false := by rw [HG3.out, decide_eq_false (show ¬ (0 ≤ x.sub) by omega)]; simp only [Bool.and_false, Bool.false_and]
                                    go_wp2_with fail
                                    go_ret
                                    exact ⟨rfl, HB.out.trans (BX.out.mono HB.out.size)⟩
                                  · have k4 : 0 ≤ x.sub := by omega
                                    clear h4
                                    by_cases h5 : 1099511627776 < x.sub
                                    · obtain rfl : gb = false := by rw [HG3.out, decide_eq_false (show ¬ (x.sub ≤ 1099511627776) by omega)]; simp only [Bool.and_false, Bool.false_and]
                                      go_wp2_with fail
                                      go_ret
                                      exact ⟨rfl, HB.out.trans (BX.out.mono HB.out.size)⟩
                                    · have k5 : x.sub ≤ 1099511627776 := by omega
                                      clear h5
                                      by_cases h6 : x.r.it.seq < 1
                                      · obtain rfl : gb = false := by rw [HG3.out, decide_eq_false (show ¬ (1 ≤ x.r.it.seq) by omega)]; simp only [Bool.and_false, Bool.false_and]
                                        go_wp2_with fail
                                        go_ret
                                        exact ⟨rfl, HB.out.trans (BX.out.mono HB.out.size)⟩
                                      · have k6 : 1 ≤ x.r.it.seq := by omega
                                        clear h6
                                        by_cases h7 : sq < x.r.it.seq
                                        · obtain rfl : gb = false := by rw [HG3.out, decide_eq_false (show ¬ (x.r.it.seq ≤ sq) by omega)]; simp only [Bool.and_false, Bool.false_and]
                                          go_wp2_with fail
                                          go_ret
                                          exact ⟨rfl, HB.out.trans (BX.out.mono HB.out.size)⟩
                                        · have k7 : x.r.it.seq ≤ sq := by omega
                                          clear h7
                                          go_wp2_with fail
                                          refine (HM.out).mono ?_
                                          rintro e w2 ⟨rfl, b3⟩
                                          have BE := Lib.hid (BX.out.trans (b3.mono BX.out.size))
                                          have yn := cell_below b3 HNZ.out HZN.out
                                          have yo := cell_below b3 HNZ.out HZO.out
                                          have HS2 := Lib.hid (Seen.below HS.out (HBXX.out.trans (b3.mono HBXX.out.size)) HS.out.lt)
                                          have hr : -9223372036854775808 ≤ x.r.it.seq ∧ x.r.it.seq ≤ 9223372036854775807 := by have := HK.out; omega
                                          have HR := Lib.hid hr
                                          clear b3 g3 g4 g3x g4x hr
                                          cases hgd : x.r.it.m.good with
                                          | false =>
                                            obtain rfl : gb = false := by rw [HG3.out, hgd]; simp only [Bool.and_false, Bool.false_and]
                                            go_wp2_with fail
                                            go_ret
                                            exact ⟨rfl, HB.out.trans (BE.out.mono HB.out.size)⟩
                                          | true =>
                                            cases hct : sn.contains x.r.it.seq with
                                            | true =>
                                              have hrun := Seen.lookup1 HS2.out x.r.it.seq HR.out hct
                                              obtain rfl : gb = false := by rw [HG3.out, hct]; simp only [Bool.and_false, Bool.false_and, Bool.not_true]
                                              go_wp2_with fail
                                              go_ret
                                              exact ⟨rfl, HB.out.trans (BE.out.mono HB.out.size)⟩
                                            | false =>
                                              have hrun := Seen.lookup HS2.out x.r.it.seq HR.out hct
                                              obtain ⟨w4, hrun2, S4, hgr⟩ := Seen.update HS2.out (by have := HF2.out; have := HF3.out; have := HLT.out; omega) x.r.it.seq HR.out
                                              have S5 : Seen w4 B (is.length + (k + 1)) (is.map (fun x => x.it.seq) ++ (hs.take (k + 1)).map (fun x => x.r.it.seq)) := by rw [take_map _ HX.out, ← List.append_assoc, ← HSN.out]; exact S4
                                              have HS5 := Lib.hid S5
                                              have B4 := Lib.hid (BE.out.grown hgr BE.out.size (fun j hj => by cases hj; exact HBB.out))
                                              have HG5 : Hid (gb = goodH sq tg x.tag (is.map (fun x => x.it.seq) ++ (hs.take (k + 1)).map (fun x => x.r.it.seq)) ((hs.drop (k + 1)).map HlR.pl)) := Lib.hid (by
                                                rw [HG3.out, hgd, hct, decide_eq_true k0, decide_eq_true k1, decide_eq_true k2, decide_eq_true k3, decide_eq_true k4, decide_eq_true k5, decide_eq_true k6, decide_eq_true k7, take_map _ HX.out, ← List.append_assoc, ← HSN.out]; rfl)
                                              have hw1 : IntKind.i64.wrap ((0 : Int) + 1) = 1 := by decide
                                              clear S4 S5 hgr hgd hct
                                              go_wp2_with fail
                                              have hwk : wrap64 ((k : Int) + 1) = (k : Int) + 1 := by have := HF3.out; have := HLT.out; unfold wrap64; omega
                                              go_roundw
                                              case rel => exact ⟨k + 1, x.tag, Nat.succ_le_of_lt HLT.out, by go_num, rfl, HG5, HS5, B4.out⟩
                                              case measure => first | exact round_lessL HLT.out | (rw [hwk]; exact round_lessL HLT.out)
                        · have hk2 : k = hs.length := by omega
                          subst hk2
                          obtain rfl : gb = true := by rw [HG2.out, List.drop_length]; rfl
                          clear hlt
                          go_wp2_with fail
                          go_ret
                          exact ⟨rfl, B2.out⟩
end Go.Proofs.YtelhpdnclmpgoaaDoor
