/- Layer 15: table.Take. -/
import Derived.Test.YteigbejidfkhpaaDoorTkE
import Derived.BigQuiet
import Derived.Deep.QuietTactic
namespace Go.Proofs.YteigbejidfkhpaaDoor
open Go Go.RowKit
set_option linter.unusedSimpArgs false
set_option linter.unusedVariables false

set_option maxRecDepth 100000 in
theorem take1_yes {w : World} {a5 a6 : Addr} {G : Nat} {s r : ByteArray} {ps : List Prp} {c6 : Value} (h5 : w.cell? a5 = some (.pointer (some ⟨G, 0, none⟩))) (hG : RD w G s) (hs : s.size ≤ 1073741824) (h6 : w.cell? a6 = some c6) (f6 : w.frozen? a6 = false) (hne : a6.block ≠ G) (ho : tableP s = some (ps, r)) :
    Calls Tryd.prog 37 #[.pointer (some a5), .pointer (some a6)] w fun e w' => e = .returned (.tuple #[]) ∧ ∃ v w1, w.grownBy w1 (some G) ∧ OwnP w1 w.heap.size v ps ∧ RD w1 G r ∧ w' = w1.setCell a6 v := by
  have hT := rdTable_c hG hs
  rw [ho] at hT
  have HT := Lib.hid hT
  have HB := Lib.hid (World.block_lt_of_cell? w _ h6)
  have HN := Lib.hid hne
  clear hT ho hG hne
  go_enter Tryd.func37, Tryd.ntmps37
  go_wp2_with fail
  refine (HT.out).mono ?_
  rintro e w1 ⟨g1, v, rfl, hv, hr⟩
  have hb := g1.block a6.block HB.out (fun e => HN.out (by injection e))
  have h6' : w1.cell? a6 = some c6 := (World.cell?_of_block (w := w) hb).trans h6
  have f6' : w1.frozen? a6 = false := (World.frozen?_of_block (w := w) hb).trans f6
  have HV := Lib.hid hv
  have HR := Lib.hid hr
  have G1 := Lib.hid g1
  clear hb hv hr g1
  rcases HV.out with ⟨rfl, _⟩ | ⟨g, cap, rfl, _⟩
  · go_wp2_with fail
    go_end0
    exact ⟨rfl, _, w1, G1.out, HV.out, HR.out, rfl⟩
  · go_wp2_with fail
    go_end0
    exact ⟨rfl, _, w1, G1.out, HV.out, HR.out, rfl⟩
set_option maxRecDepth 100000 in
theorem take1_no {w : World} {a5 a6 : Addr} {G : Nat} {s : ByteArray} (h5 : w.cell? a5 = some (.pointer (some ⟨G, 0, none⟩))) (hG : RD w G s) (hs : s.size ≤ 1073741824) (ho : tableP s = none) :
    Calls Tryd.prog 37 #[.pointer (some a5), .pointer (some a6)] w fun e w' => e = StopE ∧ w.grownBy w' (some G) := by
  have hT := rdTable_c hG hs
  rw [ho] at hT
  have HT := Lib.hid hT
  clear hT ho hG
  go_enter Tryd.func37, Tryd.ntmps37
  go_wp2_with fail
  refine (HT.out).mono ?_
  rintro e w1 ⟨g1, rfl⟩
  go_wp2_with fail
  exact ⟨rfl, rfl, g1⟩

/-- What Take leaves. -/
def TakePost (w : World) (s : ByteArray) (e : Ending) (w' : World) : Prop :=
  Below w.heap.size w w' ∧ match tableP s with
    | some (ps, r) => ∃ v, e = .returned (.tuple #[v, .int .i64 ((s.size : Int) - r.size), .int .i64 0]) ∧ OwnP w' w.heap.size v ps
    | none => e = .returned (.tuple #[.slice none 0 0, .int .i64 0, .int .i64 11])
theorem take_none {w w' : World} {s : ByteArray} (ho : tableP s = none) (hb : Below w.heap.size w w') : TakePost w s (.returned (.tuple #[.slice none 0 0, .int .i64 0, .int .i64 11])) w' := by
  unfold TakePost
  rw [ho]
  exact ⟨hb, rfl⟩
theorem take_some {w w' : World} {s r : ByteArray} {ps : List Prp} {v : Value} (ho : tableP s = some (ps, r)) (hb : Below w.heap.size w w') (hv : OwnP w' w.heap.size v ps) : TakePost w s (.returned (.tuple #[v, .int .i64 ((s.size : Int) - r.size), .int .i64 0])) w' := by
  unfold TakePost
  rw [ho]
  exact ⟨hb, v, rfl, hv⟩
theorem tableP_size {s r : ByteArray} {ps : List Prp} (h : tableP s = some (ps, r)) : r.size ≤ s.size := by
  unfold tableP at h
  obtain ⟨p, h1, h2⟩ := Option.bind_eq_some_iff.1 h
  obtain ⟨x, y⟩ := p
  obtain ⟨l, _, h3⟩ := Option.map_eq_some_iff.1 h2
  injection h3 with _ h3
  have := longP_size h1
  dsimp only at h3
  rw [← h3]
  omega

theorem ownP_set {w : World} {B n : Nat} {v : Value} {ps : List Prp} (h : OwnP w B v ps) (hn : n < B) (j : Nat) (u : Value) : OwnP (w.setCell ⟨n, j, none⟩ u) B v ps := by
  rcases h with h | ⟨g, cap, a, b, c, d, e, f⟩
  · exact .inl h
  · have hb := Below.heap_setCell w ⟨n, j, none⟩ u g (show g ≠ n by omega)
    refine .inr ⟨g, cap, a, b, by simpa [World.setCell] using c, d, e, fun k hk => ?_⟩
    obtain ⟨x, y⟩ := f k hk
    exact ⟨(World.cell?_of_block (w := w) hb).trans x, (World.frozen?_of_block (w := w) hb).trans y⟩
/-- Three blocks, laid one behind the other. -/
theorem three_blocks (w : World) (a b c : Obj) : ((((w.alloc a).alloc b).alloc c).heap[w.heap.size]? = some a) ∧ ((((w.alloc a).alloc b).alloc c).heap[w.heap.size + 1]? = some b) ∧ ((((w.alloc a).alloc b).alloc c).heap[w.heap.size + 1 + 1]? = some c) ∧ (((w.alloc a).alloc b).alloc c).heap.size = w.heap.size + 3 := by
  have s1 : (w.alloc a).heap.size = w.heap.size + 1 := Array.size_push _
  have s2 : ((w.alloc a).alloc b).heap.size = w.heap.size + 1 + 1 := by rw [show ((w.alloc a).alloc b).heap.size = (w.alloc a).heap.size + 1 from Array.size_push _, s1]
  refine ⟨?_, ?_, ?_, ?_⟩
  · rw [heap_alloc_old _ _ (by omega), heap_alloc_old _ _ (by omega)]
    exact heap_alloc_new w a
  · rw [heap_alloc_old _ _ (by omega), ← s1]
    exact heap_alloc_new _ b
  · rw [← s2]
    exact heap_alloc_new _ c
  · rw [show (((w.alloc a).alloc b).alloc c).heap.size = ((w.alloc a).alloc b).heap.size + 1 from Array.size_push _, s2]

set_option maxRecDepth 1000000 in
set_option maxHeartbeats 4000000 in
theorem tTake_c {w : World} (s : ByteArray) (hs : s.size ≤ 1073741824) :
    Calls Tryd.prog 16 #[.string s] w (TakePost w s) := by
  have hmf : ∀ (fn : Fn) (first cap : Array Value) (w : World), (Instr.makeFunc fn first cap).run Tryd.prog w = .ok (.func fn first cap) w := fun _ _ _ _ => rfl
  have hsI : (s.size : Int) ≤ 1073741824 := by omega
  have hen : ∀ args w, (callFunc 37 args).run Tryd.prog w = .ok (.enter 37 args) w := fun args w => enters_of Tryd.func37 (by kernel_rfl) rfl args w
  obtain ⟨h0, h1, h2, h3⟩ := three_blocks w (.cells #[.string s] 68) (.cells #[.pointer (some ⟨w.heap.size, 0, none⟩)] 66) (.cells #[.slice none 0 0] 24)
  have hb : Below w.heap.size w (((w.alloc (.cells #[.string s] 68)).alloc (.cells #[.pointer (some ⟨w.heap.size, 0, none⟩)] 66)).alloc (.cells #[.slice none 0 0] 24)) := (((Below.refl _ _).alloc (Nat.le_refl _) _).alloc (by simp) _).alloc (by simp; omega) _
  obtain ⟨W3, hW3⟩ : ∃ W3, W3 = (((w.alloc (.cells #[.string s] 68)).alloc (.cells #[.pointer (some ⟨w.heap.size, 0, none⟩)] 66)).alloc (.cells #[.slice none 0 0] 24)) := ⟨_, rfl⟩
  rw [← hW3] at h0 h1 h2 h3 hb
  have hal : Below W3.heap.size W3 (W3.alloc (.cells #[.bool false] 4)) := below_al1 _ _
  have hok : (W3.alloc (.cells #[.bool false] 4)).heap[W3.heap.size]? = some (.cells #[.bool false] 4 (0, 0)) := heap_alloc_new W3 _
  have hs4 : (W3.alloc (.cells #[.bool false] 4)).heap.size = w.heap.size + 4 := by rw [show (W3.alloc (.cells #[.bool false] 4)).heap.size = W3.heap.size + 1 from Array.size_push _, h3]
  obtain ⟨W4, hW4⟩ : ∃ W4, W4 = W3.alloc (.cells #[.bool false] 4) := ⟨_, rfl⟩
  rw [← hW4] at hal hok hs4
  have g0 : RD W4 w.heap.size s := (hal.block w.heap.size (by omega)).trans h0
  have g1 : W4.heap[w.heap.size + 1]? = some (.cells #[.pointer (some ⟨w.heap.size, 0, none⟩)] 66 (0, 0)) := (hal.block _ (by omega)).trans h1
  have g2 : W4.heap[w.heap.size + 1 + 1]? = some (.cells #[.slice none 0 0] 24 (0, 0)) := (hal.block _ (by omega)).trans h2
  have c5 : W4.cell? ⟨w.heap.size + 1, 0, none⟩ = some (.pointer (some ⟨w.heap.size, 0, none⟩)) := by simp [World.cell?, g1]
  have c6 : W4.cell? ⟨w.heap.size + 1 + 1, 0, none⟩ = some (.slice none 0 0) := by simp [World.cell?, g2]
  have f6 : W4.frozen? ⟨w.heap.size + 1 + 1, 0, none⟩ = false := by simp [World.frozen?, g2]
  have ck : W4.cell? ⟨W3.heap.size, 0, none⟩ = some (.bool false) := by simp [World.cell?, hok]
  have fk : W4.frozen? ⟨W3.heap.size, 0, none⟩ = false := by simp [World.frozen?, hok]
  have hb4 := hb.trans (hal.mono (by omega))
  cases ho : tableP s with
  | none =>
    have hg := guard_no (cap := #[.pointer (some ⟨w.heap.size + 1, 0, none⟩), .pointer (some ⟨w.heap.size + 1 + 1, 0, none⟩)]) (w := W3) (R := fun w' => W4.grownBy w' (some w.heap.size)) hen (by
      rw [← hW4]
      refine (take1_no (a6 := ⟨w.heap.size + 1 + 1, 0, none⟩) c5 g0 hs ho).mono ?_
      rintro e w' ⟨rfl, hgr⟩
      have hbk := hgr.block W3.heap.size (by omega) (fun e => by injection e with e; omega)
      exact ⟨rfl, hgr, (World.cell?_of_block (w := W4) hbk).trans ck, (World.frozen?_of_block (w := W4) hbk).trans fk⟩)
    have HG := Lib.hid hg
    have HB4 := Lib.hid hb4
    have HS4 := Lib.hid hs4
    have HS3 := Lib.hid h3
    have HO := Lib.hid ho
    rw [hW3] at HG
    clear h0 h1 h2 h3 hb hal hok hs4 hW3 hW4 g0 g1 g2 c5 c6 f6 ck fk hb4 hg ho
    go_enter Tryd.func16, Tryd.ntmps16
    go_wp2_with fail
    refine (HG.out).mono ?_
    rintro e w' ⟨rfl, w1, hgr, hw'⟩
    have hB : Below w.heap.size w w' := by
      rw [hw']
      have b1 := below_grown HB4.out hgr (Nat.le_refl _) (by have := HS4.out; omega)
      exact below_set (b1.alloc b1.size _) (by simp; omega) 0 _
    clear hgr hw'
    go_wp2_with fail
    go_ret3
    exact take_none HO.out hB
  | some p =>
    obtain ⟨ps, r⟩ := p
    have hrs := tableP_size ho
    have hg := guard_yes (cap := #[.pointer (some ⟨w.heap.size + 1, 0, none⟩), .pointer (some ⟨w.heap.size + 1 + 1, 0, none⟩)]) (w := W3) (R := fun w' => ∃ v w1, W4.grownBy w1 (some w.heap.size) ∧ OwnP w1 W4.heap.size v ps ∧ RD w1 w.heap.size r ∧ w' = w1.setCell ⟨w.heap.size + 1 + 1, 0, none⟩ v) hen (by
      rw [← hW4]
      refine (take1_yes (a6 := ⟨w.heap.size + 1 + 1, 0, none⟩) c5 g0 hs c6 f6 (show w.heap.size + 1 + 1 ≠ w.heap.size by omega) ho).mono ?_
      rintro e w' ⟨rfl, v, w1, hgr, hv, hr, rfl⟩
      have hbk := (Below.heap_setCell w1 ⟨w.heap.size + 1 + 1, 0, none⟩ v W3.heap.size (show W3.heap.size ≠ w.heap.size + 1 + 1 by omega)).trans (hgr.block W3.heap.size (by omega) (fun e => by injection e with e; omega))
      exact ⟨rfl, ⟨v, w1, hgr, hv, hr, rfl⟩, (World.cell?_of_block (w := W4) hbk).trans ck, (World.frozen?_of_block (w := W4) hbk).trans fk⟩)
    have HG := Lib.hid hg
    have HB4 := Lib.hid hb4
    have HS4 := Lib.hid hs4
    have HS3 := Lib.hid h3
    have HO := Lib.hid ho
    have C5 := Lib.hid g1
    have C6 := Lib.hid g2
    have e1 : IntKind.i64.wrap ((s.size : Int) - (r.size : Int)) = (s.size : Int) - r.size := IntWalk.i64_in _ (by omega)
    rw [hW3] at HG
    clear h0 h1 h2 hb hal hok hW4 g0 g1 g2 c5 c6 f6 ck fk hb4 hg ho hs4 h3 hrs hW3
    go_enter Tryd.func16, Tryd.ntmps16
    go_wp2_with fail
    refine (HG.out).mono ?_
    rintro e w' ⟨rfl, w1', ⟨v, w1, hgr, hv, hr, rfl⟩, hw'⟩
    have hB : Below w.heap.size w w' := by
      rw [hw']
      have b1 := below_grown HB4.out hgr (Nat.le_refl _) (by have := HS4.out; omega)
      have h3 : w.heap.size ≤ (((w.alloc (.cells #[.string s] 68)).alloc (.cells #[.pointer (some ⟨w.heap.size, 0, none⟩)] 66)).alloc (.cells #[.slice none 0 0] 24)).heap.size := by rw [(three_blocks w _ _ _).2.2.2]; omega
      exact below_set (below_set b1 (by show w.heap.size ≤ w.heap.size + 1 + 1; omega) 0 _) h3 0 _
    have hok : (((w.alloc (.cells #[.string s] 68)).alloc (.cells #[.pointer (some ⟨w.heap.size, 0, none⟩)] 66)).alloc (.cells #[.slice none 0 0] 24)).heap.size = w.heap.size + 3 := (three_blocks w _ _ _).2.2.2
    rw [hok] at hw'
    have hgo := hgr.block
    have k5 : w1.heap[w.heap.size + 1]? = _ := (hgr.block (w.heap.size + 1) (by have := HS4.out; omega) (fun e => by injection e with e; omega)).trans C5.out
    have k6 : w1.heap[w.heap.size + 1 + 1]? = _ := (hgr.block (w.heap.size + 1 + 1) (by have := HS4.out; omega) (fun e => by injection e with e; omega)).trans C6.out
    have c5 : w'.cell? ⟨w.heap.size + 1, 0, none⟩ = some (.pointer (some ⟨w.heap.size, 0, none⟩)) := by
      rw [hw', World.cell?_setCell_other _ _ _ _ (by intro e; injection e with e; omega), World.cell?_setCell_other _ _ _ _ (by intro e; injection e with e; omega)]
      simp [World.cell?, k5]
    have c6 : w'.cell? ⟨w.heap.size + 1 + 1, 0, none⟩ = some v := by
      rw [hw', World.cell?_setCell_other _ _ _ _ (by intro e; injection e with e; omega)]
      exact World.cell?_setCell_same' _ _ _ (by simp [World.cell?, k6])
    have c0 : w'.cell? ⟨w.heap.size, 0, none⟩ = some (.string r) := by
      rw [hw', World.cell?_setCell_other _ _ _ _ (by intro e; injection e with e; omega), World.cell?_setCell_other _ _ _ _ (by intro e; injection e with e; omega)]
      exact (rd_facts hr).1
    have hV : OwnP w' w.heap.size v ps := by
      rw [hw']
      exact ownP_lower (ownP_set (ownP_set hv (by have := HS4.out; omega) 0 _) (by have := HS4.out; omega) 0 _) (by have := HS4.out; omega)
    have HB := Lib.hid hB
    have HV := Lib.hid hV
    clear hgr hv hr hw' hB hV hok hgo k5 k6
    rcases HV.out with ⟨rfl, _⟩ | ⟨g, cap, rfl, _⟩
    · go_wp2_with fail
      go_quiet (fail)
      go_wp2_with fail
      go_ret3
      exact take_some HO.out (HB.out.trans ((below_drewN _ _).mono HB.out.size)) (ownP_below HV.out (below_drewN _ _))
    · go_wp2_with fail
      go_quiet (fail)
      go_wp2_with fail
      go_ret3
      exact take_some HO.out (HB.out.trans ((below_drewN _ _).mono HB.out.size)) (ownP_below HV.out (below_drewN _ _))
end Go.Proofs.YteigbejidfkhpaaDoor
