/- slices.Clone and slices.Insert at trivet/api.Item. (Printed by gen/slk.py.) -/
import Derived.Test.YtelhpdnclmpgoaaDoorSka
namespace Go.Proofs.YtelhpdnclmpgoaaDoor
open Go Go.RowKit
open Go.ChangeShapes Go.WideShapes Go.Deep Go.Sort
set_option linter.unusedSimpArgs false
set_option linter.unusedVariables false

theorem infoI : (Tryd.prog.info? 44).map (fun i => (i.zero, i.size, i.bytes)) = some (some (.agg #[.int .i64 0, .bool false, .string ByteArray.empty, .string ByteArray.empty, .slice none 0 0, .bool false, .int .i64 0]), 7, 88) := by kernel_rfl
theorem sizeI : (Tryd.prog.info? 44).map (·.size) = some 7 := by kernel_rfl

set_option maxRecDepth 100000 in
set_option maxHeartbeats 1000000 in
theorem cloneI_c {w : World} {v : Value} {n : Nat} {cs : List Value} (h : RC w v n 7 cs) (h1 : ∀ y ∈ cs, y.oneCell' = true) (hn : n * 88 ≤ 140737488355328) :
    Calls Tryd.prog 36 #[v] w fun e w' => ∃ v', e = .returned v' ∧ w'.ownsRow w.heap.size 44 7 v' n cs ∧ Below w.heap.size w w' := by
  obtain ⟨A, c, rfl, hnc, hc, hlen, hA, hcell⟩ := id h
  have q := fun (w : World) (a : Option Addr) (n c n' c' : Nat) => Lib.run_eql_slice_nil (P := Tryd.prog) w 22 _ a n c n' c' Tryd.underlying22
  have H := Lib.hid h
  have H1 := Lib.hid h1
  have HN := Lib.hid hn
  clear h hcell h1 hn
  rcases A with _ | ad
  · have hc0 := hA rfl
    have hn0 : n = 0 := by omega
    subst hn0
    have hcs : cs = [] := List.eq_nil_of_length_eq_zero (by omega)
    subst hcs
    clear hA hlen hc0
    go_enter Tryd.func36, Tryd.ntmps36
    go_wp2
    go_ret
    exact ⟨_, rfl, own_nil _ _ _ _, Below.refl _ _⟩
  · clear hA hlen
    go_enter Tryd.func36, Tryd.ntmps36
    go_wp2_with (at_builtin; refine app_own (w0 := w) w.heap.size 22 44 7 88 _ Tryd.underlying22 infoI rfl (by decide) rfl (.tmp 5) (.tmp 6) rfl _ _ 0 n [] cs rfl rfl (World.ownsRow_made w #[] 0 (Nat.le_refl _) (Nat.zero_le _) (by simp)) (rc_alloc H.out _) H1.out ((Below.refl _ _).alloc (Nat.le_refl _) _) (by have := HN.out; omega) (by have := HN.out; omega) (by simp) ?_; intro v1 w1 o1 b1 g1 _; simp only [Nat.zero_add, List.nil_append] at o1; have O1 := Lib.hid o1; clear o1 g1)
    go_ret
    exact ⟨v1, rfl, O1.out, b1⟩

set_option maxRecDepth 100000 in
set_option maxHeartbeats 2000000 in
/-- At the end. -/
theorem insEndI_c {w0 w : World} {base vb n : Nat} {v : Value} {xs ys : List Value} (ho : w.ownsRow base 44 7 v n xs) (hb : Below base w0 w) (hbase : base ≤ w.heap.size) (hv : w.heap[vb]? = some (.cells ys.toArray 44 (0, 0))) (hl : ys.length = 7) (h1 : ∀ y ∈ ys, y.oneCell' = true) (hn : (n + 1) * 88 ≤ 140737488355328) :
    Calls Tryd.prog 59 #[v, .int .i64 n, .slice (some ⟨vb, 0, none⟩) 1 1] w fun e w' => ∃ v', e = .returned v' ∧ w'.ownsRow base 44 7 v' (n + 1) (xs ++ ys) ∧ Below base w0 w' ∧ w.grownBy w' v.ownBlock ∧ (v'.ownBlock = v.ownBlock ∨ v'.ownBlock = some w.heap.size) := by
  have HO := Lib.hid ho
  have HB := Lib.hid hb
  have HBASE := Lib.hid hbase
  have HN := Lib.hid hn
  have H1 := Lib.hid h1
  have hr : RC w (.slice (some ⟨vb, 0, none⟩) 1 1) 1 7 ys := by
    refine ⟨_, 1, rfl, Nat.le_refl _, by omega, by omega, (fun h => by cases h), fun j u hj => ⟨_, rfl, ?_⟩⟩
    rw [add_plain]
    simp only [World.cell?, hv]
    simpa using hj
  have HR := Lib.hid hr
  obtain ⟨A, c, rfl, hnc, hc63, -⟩ := own_rc ho
  obtain ⟨i0, hi, hzz⟩ := Option.map_eq_some_iff.1 infoI
  obtain ⟨A', hsl, -, -⟩ := rc_drop Tryd.underlying22 hi A n c hnc n (Int.natCast_nonneg _) (Int.le_refl _)
  clear ho hb hbase hn h1 hr hv hl hi hzz
  go_enter Tryd.func59, Tryd.ntmps59
  go_wp2_with (at_builtin; refine app_own (w0 := w0) base 22 44 7 88 _ Tryd.underlying22 infoI rfl (by decide) rfl (.tmp 23) (.tmp 24) rfl _ _ n 1 xs ys rfl rfl HO.out HR.out H1.out HB.out HN.out (by have := HN.out; omega) HBASE.out ?_; intro v1 w1 o1 b1 g1 k1; have O1 := Lib.hid o1; have G1 := Lib.hid g1; have K1 := Lib.hid k1; clear o1 g1 k1)
  go_ret
  exact ⟨v1, rfl, O1.out, b1, G1.out, K1.out⟩

set_option maxRecDepth 100000 in
set_option maxHeartbeats 2000000 in
/-- In the midst, where there is room. -/
theorem insShiftI_c {w : World} {g vb n c i : Nat} {cur : Array Value} {ys : List Value} (hg : w.heap[g]? = some (.cells cur 44 (0, 0))) (hc : cur.size = c * 7) (hc63 : c ≤ 9223372036854775807) (hone : ∀ y ∈ cur.toList.take (n * 7), y.oneCell' = true) (hv : w.heap[vb]? = some (.cells ys.toArray 44 (0, 0))) (hne : vb ≠ g) (hl : ys.length = 7) (h1 : ∀ y ∈ ys, y.oneCell' = true) (hi : i < n) (hroom : n + 1 ≤ c) :
    Calls Tryd.prog 59 #[.slice (some ⟨g, 0, none⟩) n c, .int .i64 i, .slice (some ⟨vb, 0, none⟩) 1 1] w fun e w' => e = .returned (.slice (some ⟨g, 0, none⟩) (n + 1) c) ∧ ∃ q, w' = (w.drewN q).setRow g (insRow cur.toList ys (i * 7) 7 (n * 7)).toArray := by
  have hni : ¬ ((i : Int) = (n : Int)) := by omega
  have hin : i ≤ n := by omega
  have hwn : IntKind.i64.wrap ((n : Int) + 1) = (n : Int) + 1 := by rw [IntKind.wrap_i64]; omega
  have hwi : IntKind.i64.wrap ((i : Int) + 1) = (i : Int) + 1 := by rw [IntKind.wrap_i64]; omega
  have hb1 : ¬ (c = i) := by omega
  have hb2 : ¬ (c = i + 1) := by omega
  have hcI : (n : Int) + 1 ≤ (c : Int) := by omega
  have hb0 : (0 : Int) ≤ (i : Int) + 1 := by omega
  have hb3 : (i : Int) ≤ (n : Int) + 1 := by omega
  have mixed : Tryd.prog.follows .mixedOrders = true := by kernel_rfl
  have hov : ∀ lb cb, (callFunc 77 #[.slice (some ⟨vb, 0, none⟩) 1 1, .slice (some ⟨g, (i + 1) * 7, none⟩) lb cb]).run Tryd.prog w = .ok (.value (.bool false)) w := fun lb cb => by
    rw [run_callFunc_extern Tryd.func77 (by kernel_rfl) (by kernel_rfl) (by kernel_rfl) (e := Extern.SlicesOverlaps.overlaps #[22, 22] #[4]) (by kernel_rfl),
      Lib.run_overlaps_apart w 22 4 44 Tryd.underlying22 7 Tryd.sizeOf44 ⟨vb, 0, none⟩ ⟨g, (i + 1) * 7, none⟩ 1 1 lb cb hne 44 44 ys.toArray.size cur.size (by simp only [World.shape?, hv]) (by simp only [World.shape?, hg]) (by omega) (by simp [World.frozen?, hv]) (by simp [World.frozen?, hv])]
    rfl
  have hcl : cur.toList.length = c * 7 := by rw [Array.length_toList, hc]
  have hxl : ((cur.toList.take (n * 7)).drop (i * 7)).length = 7 * (n - i) := by rw [List.length_drop, List.length_take]; omega
  have hgd : w.drew.heap[g]? = some (.cells cur 44 (0, 0)) := hg
  have hr1 : (cur.toList.take ((i + 1) * 7) ++ (cur.toList.take (n * 7)).drop (i * 7) ++ cur.toList.drop ((i + 1) * 7 + ((cur.toList.take (n * 7)).drop (i * 7)).length)).length = c * 7 := by
    simp only [List.length_append, List.length_take, List.length_drop, hcl]; omega
  have hcp1 : ∀ ty dc sc, (Builtin.copy_ #[22, 22] ty #[.slice (some ⟨g, (i + 1) * 7, none⟩) (n - i) dc, .slice (some ⟨g, i * 7, none⟩) (n + 1 - i) sc]).run Tryd.prog w.drew = .ok (goInt (Nat.min (n + 1 - i) (n - i))) (w.drew.setRow g (cur.toList.take ((i + 1) * 7) ++ (cur.toList.take (n * 7)).drop (i * 7) ++ cur.toList.drop ((i + 1) * 7 + ((cur.toList.take (n * 7)).drop (i * 7)).length)).toArray) := fun ty dc sc =>
    run_copy_rowK w.drew 22 22 ty 44 7 g ((i + 1) * 7) (n - i) dc ⟨g, i * 7, none⟩ (n + 1 - i) sc cur 44 _ Tryd.underlying22 sizeI hgd (by rw [hxl, show Nat.min (n + 1 - i) (n - i) = n - i from Nat.min_eq_right (by omega)])
      (fun j u hj => by
        rw [Addr.add_lit]
        simp only [World.cell?, hgd]
        rw [List.getElem?_drop, List.getElem?_take] at hj
        split at hj
        · simpa using hj
        · cases hj) (by rw [hxl]; have : cur.size = cur.toList.length := (Array.length_toList).symm; omega) (fun y hy => hone y (List.mem_of_mem_drop hy))
  obtain ⟨r1, hR1⟩ : ∃ r1, r1 = cur.toList.take ((i + 1) * 7) ++ (cur.toList.take (n * 7)).drop (i * 7) ++ cur.toList.drop ((i + 1) * 7 + ((cur.toList.take (n * 7)).drop (i * 7)).length) := ⟨_, rfl⟩
  rw [← hR1] at hcp1 hr1
  have hg1 : (w.drew.setRow g r1.toArray).heap[g]? = some (.cells r1.toArray 44 (0, 0)) := setRow_heap w.drew g cur r1.toArray _ (0, 0) hgd
  have hv1 : (w.drew.setRow g r1.toArray).heap[vb]? = some (.cells ys.toArray 44 (0, 0)) := (setRow_other w.drew g vb r1.toArray hne).trans hv
  have hcp2 : ∀ ty dc, (Builtin.copy_ #[22, 22] ty #[.slice (some ⟨g, i * 7, none⟩) (n + 1 - i) dc, .slice (some ⟨vb, 0, none⟩) 1 1]).run Tryd.prog (w.drew.setRow g r1.toArray) = .ok (goInt (Nat.min 1 (n + 1 - i))) (w.drew.setRow g (r1.take (i * 7) ++ ys ++ r1.drop (i * 7 + ys.length)).toArray) := fun ty dc => by
    have h := run_copy_rowK (w.drew.setRow g r1.toArray) 22 22 ty 44 7 g (i * 7) (n + 1 - i) dc ⟨vb, 0, none⟩ 1 1 r1.toArray 44 ys Tryd.underlying22 sizeI hg1 (by rw [hl, show Nat.min 1 (n + 1 - i) = 1 from Nat.min_eq_left (by omega)])
      (fun j u hj => by
        rw [add_plain]
        simp only [World.cell?, hv1]
        simpa using hj) (by rw [hl]; simp only [List.size_toArray, hr1]; omega) h1
    rw [h, setRow_setRow]
  have hfin : r1.take (i * 7) ++ ys ++ r1.drop (i * 7 + ys.length) = insRow cur.toList ys (i * 7) 7 (n * 7) := by
    rw [hl, hR1]
    unfold insRow
    have e1 : (i + 1) * 7 = i * 7 + 7 := by omega
    have e2 : ((cur.toList.take (n * 7)).drop (i * 7)).length = n * 7 - i * 7 := by rw [hxl]; omega
    rw [e1, e2]
  rw [hfin] at hcp2
  obtain ⟨r2, hR2⟩ : ∃ r2, r2 = insRow cur.toList ys (i * 7) 7 (n * 7) := ⟨_, rfl⟩
  rw [← hR2] at hcp2 ⊢
  clear hg hv hfin hR2 hg1 hv1 hR1 hr1 hgd hxl hcl hc hone h1 hl
  go_enter Tryd.func59, Tryd.ntmps59
  go_wp2_with (simp only [hov])
  go_region_law_o (refine step_copy_runI rfl _ _ 22 22 rfl _ _ (by simp [Act.eval, Act.put]) (by simp [Act.eval, Act.put]) (hcp1 _ _ _) ?_)
  go_wp2_with (at_builtin; refine wpList_copy_runI _ rfl _ _ 22 22 rfl _ _ rfl rfl (hcp2 _ _) ?_)
  go_ret
  exact ⟨rfl, 1, rfl⟩

set_option maxRecDepth 100000 in
set_option maxHeartbeats 2000000 in
/-- In the midst, where there is no room. -/
theorem insGrowI_c {w : World} {g vb n c i : Nat} {cur : Array Value} {ys : List Value} (hg : w.heap[g]? = some (.cells cur 44 (0, 0))) (hc : cur.size = c * 7) (hone : ∀ y ∈ cur.toList.take (n * 7), y.oneCell' = true) (hv : w.heap[vb]? = some (.cells ys.toArray 44 (0, 0))) (hl : ys.length = 7) (h1 : ∀ y ∈ ys, y.oneCell' = true) (hi : i < n) (hnc : n ≤ c) (hroom : c < n + 1) (hbig : (n + 1) * 88 ≤ 140737488355328) :
    Calls Tryd.prog 59 #[.slice (some ⟨g, 0, none⟩) n c, .int .i64 i, .slice (some ⟨vb, 0, none⟩) 1 1] w fun e w' => ∃ G, e = .returned (.slice (some ⟨w.heap.size, 0, none⟩) (n + 1) G) ∧ w'.ownsRow w.heap.size 44 7 (.slice (some ⟨w.heap.size, 0, none⟩) (n + 1) G) (n + 1) ((cur.toList.take (n * 7)).take (i * 7) ++ ys ++ (cur.toList.take (n * 7)).drop (i * 7)) ∧ Below w.heap.size w w' := by
  obtain ⟨i0, hi0, hzz⟩ := Option.map_eq_some_iff.1 infoI
  simp only [Prod.mk.injEq] at hzz
  obtain ⟨hz0, hz1, hz2⟩ := hzz
  have hgb : g < w.heap.size := (Array.getElem?_eq_some_iff.1 hg).1
  have hvb : vb < w.heap.size := (Array.getElem?_eq_some_iff.1 hv).1
  have hcl : cur.toList.length = c * 7 := by rw [Array.length_toList, hc]
  have hik : i + (n + 1 - i) = n + 1 := by omega
  have hold : (Builtin.firstCells i0.size i (.slice (some ⟨g, 0, none⟩) i c)).run Tryd.prog w.drew = .ok (cur.toList.take (i * 7)).toArray w.drew := by
    rw [hz1]
    exact run_firstCells_some w.drew 7 i ⟨g, 0, none⟩ i c (cur.toList.take (i * 7)) (by rw [List.length_take]; omega) (fun j v hj => by
      rw [add_plain]
      rw [List.getElem?_take] at hj
      split at hj
      · show w.cell? _ = _
        simp only [World.cell?, hg]
        simpa using hj
      · cases hj)
  obtain ⟨G, hG⟩ : ∃ G, G = grownCap w (n + 1) c 44 := ⟨_, rfl⟩
  have hGn : n + 1 ≤ G := by rw [hG]; exact grownCap_ge w _ _ _
  have hG63 : G ≤ 9223372036854775807 := by
    have := grownCap_le_maxLen w (n + 1) c 44 (by unfold maxLen; omega)
    rw [← hG] at this
    unfold maxLen at this
    omega
  obtain ⟨r0, hr0⟩ : ∃ r0 : Array Value, r0 = (cur.toList.take (i * 7)).toArray ++ Builtin.zeroCells (.agg #[.int .i64 0, .bool false, .string ByteArray.empty, .string ByteArray.empty, .slice none 0 0, .bool false, .int .i64 0] : Value).cells (n + 1 - i) ++ Builtin.zeroCells (.agg #[.int .i64 0, .bool false, .string ByteArray.empty, .string ByteArray.empty, .slice none 0 0, .bool false, .int .i64 0] : Value).cells (G - (n + 1)) := ⟨_, rfl⟩
  have hzl : ∀ m, (Builtin.zeroCells (.agg #[.int .i64 0, .bool false, .string ByteArray.empty, .string ByteArray.empty, .slice none 0 0, .bool false, .int .i64 0] : Value).cells m).size = m * 7 := fun m => by simp [Builtin.zeroCells, Value.cells]
  have hr0l : r0.toList.length = G * 7 := by
    rw [Array.length_toList, hr0, Array.size_append, Array.size_append, hzl, hzl]
    simp only [List.size_toArray, List.length_take]
    omega
  have hr0t : r0.toList.take (i * 7) = (cur.toList.take (n * 7)).take (i * 7) := by
    rw [hr0, Array.toList_append, Array.toList_append, List.append_assoc, List.take_append_of_le_length (by simp; omega), List.take_take, List.take_take]
    congr 1
    omega
  have hrz : ∀ ty, (Builtin.append_ #[22, 3] ty #[.slice (some ⟨g, 0, none⟩) i c, .int .i64 ((n : Int) + 1 - (i : Int))]).run Tryd.prog w = .ok (.slice (some ⟨w.heap.size, 0, none⟩) (n + 1) G) (w.drew.alloc (.cells r0 44)) := fun ty => by
    have h := Lib.run_append_grow_zeros w 22 3 ty 44 i0 _ .i64 .i64 Tryd.underlying22 Tryd.underlying3 hi0 hz0 (some ⟨g, 0, none⟩) i c (cur.toList.take (i * 7)) hold (n + 1 - i) (by omega) (by rw [hz1]; omega) (by omega) (by omega) (by rw [hz2]; omega) (by rw [hz2, hik]; exact growslice_fits hroom hbig)
    rw [hik, ← hG, ← hr0] at h
    rw [show (n : Int) + 1 - (i : Int) = ((n + 1 - i : Nat) : Int) by omega]
    exact h
  have hg0 : (w.drew.alloc (.cells r0 44)).heap[w.heap.size]? = some (.cells r0 44 (0, 0)) := heap_alloc_new w.drew _
  have hold0 : ∀ k o, k < w.heap.size → w.heap[k]? = o → (w.drew.alloc (.cells r0 44)).heap[k]? = o := fun k o hk h => by
    rw [← h]
    show (w.heap.push _)[k]? = _
    rw [Array.getElem?_push_lt hk, Array.getElem?_eq_getElem hk]
  obtain ⟨r1, hr1⟩ : ∃ r1, r1 = r0.toList.take (i * 7) ++ ys ++ r0.toList.drop (i * 7 + ys.length) := ⟨_, rfl⟩
  have hr1l : r1.length = G * 7 := by rw [hr1]; simp only [List.length_append, List.length_take, List.length_drop, hr0l, hl]; omega
  have hcpA : ∀ ty dc, (Builtin.copy_ #[22, 22] ty #[.slice (some ⟨w.heap.size, i * 7, none⟩) (n + 1 - i) dc, .slice (some ⟨vb, 0, none⟩) 1 1]).run Tryd.prog (w.drew.alloc (.cells r0 44)) = .ok (goInt (Nat.min 1 (n + 1 - i))) ((w.drew.alloc (.cells r0 44)).setRow w.heap.size r1.toArray) := fun ty dc => by
    rw [hr1]
    exact run_copy_rowK (w.drew.alloc (.cells r0 44)) 22 22 ty 44 7 w.heap.size (i * 7) (n + 1 - i) dc ⟨vb, 0, none⟩ 1 1 r0 44 ys Tryd.underlying22 sizeI hg0 (by rw [hl, show Nat.min 1 (n + 1 - i) = 1 from Nat.min_eq_left (by omega)])
      (fun j u hj => by
        rw [add_plain]
        simp only [World.cell?, hold0 vb _ hvb hv]
        simpa using hj) (by rw [hl]; have : r0.size = r0.toList.length := (Array.length_toList).symm; omega) h1
  have hg1 : ((w.drew.alloc (.cells r0 44)).setRow w.heap.size r1.toArray).drew.heap[w.heap.size]? = some (.cells r1.toArray 44 (0, 0)) := setRow_heap _ w.heap.size r0 r1.toArray _ (0, 0) hg0
  have hgc : ((w.drew.alloc (.cells r0 44)).setRow w.heap.size r1.toArray).drew.heap[g]? = some (.cells cur 44 (0, 0)) := (setRow_other _ w.heap.size g r1.toArray (by omega)).trans (hold0 g _ hgb hg)
  have hxl : ((cur.toList.take (n * 7)).drop (i * 7)).length = 7 * (n - i) := by rw [List.length_drop, List.length_take]; omega
  have hcpB : ∀ ty dc sc, (Builtin.copy_ #[22, 22] ty #[.slice (some ⟨w.heap.size, (i + 1) * 7, none⟩) (n - i) dc, .slice (some ⟨g, i * 7, none⟩) (n - i) sc]).run Tryd.prog ((w.drew.alloc (.cells r0 44)).setRow w.heap.size r1.toArray).drew = .ok (goInt (Nat.min (n - i) (n - i))) (((w.drew.alloc (.cells r0 44)).setRow w.heap.size r1.toArray).drew.setRow w.heap.size (r1.take ((i + 1) * 7) ++ (cur.toList.take (n * 7)).drop (i * 7) ++ r1.drop ((i + 1) * 7 + ((cur.toList.take (n * 7)).drop (i * 7)).length)).toArray) := fun ty dc sc =>
    run_copy_rowK _ 22 22 ty 44 7 w.heap.size ((i + 1) * 7) (n - i) dc ⟨g, i * 7, none⟩ (n - i) sc r1.toArray 44 _ Tryd.underlying22 sizeI hg1 (by rw [hxl, show Nat.min (n - i) (n - i) = n - i from Nat.min_self _])
      (fun j u hj => by
        rw [Addr.add_lit]
        simp only [World.cell?, hgc]
        rw [List.getElem?_drop, List.getElem?_take] at hj
        split at hj
        · simpa using hj
        · cases hj) (by rw [hxl]; simp only [List.size_toArray, hr1l]; omega) (fun y hy => hone y (List.mem_of_mem_drop hy))
  have hfin : r1.take ((i + 1) * 7) ++ (cur.toList.take (n * 7)).drop (i * 7) ++ r1.drop ((i + 1) * 7 + ((cur.toList.take (n * 7)).drop (i * 7)).length) = insNew r0.toList (cur.toList.take (n * 7)) ys (i * 7) 7 (n * 7) := by
    have e2 : ((cur.toList.take (n * 7)).drop (i * 7)).length = n * 7 - i * 7 := by rw [hxl]; omega
    rw [e2, hr1, hl]
    unfold insNew
    have e1 : (i + 1) * 7 = i * 7 + 7 := by omega
    rw [e1]
  rw [hfin] at hcpB
  obtain ⟨W1, hW1⟩ : ∃ W1, W1 = (w.drew.alloc (.cells r0 44)).setRow w.heap.size r1.toArray := ⟨_, rfl⟩
  obtain ⟨r2, hr2⟩ : ∃ r2, r2 = insNew r0.toList (cur.toList.take (n * 7)) ys (i * 7) 7 (n * 7) := ⟨_, rfl⟩
  have hxl' : (cur.toList.take (n * 7)).length = n * 7 := by rw [List.length_take]; omega
  have hr2l : r2.length = G * 7 := by rw [hr2, insNew_len _ _ _ _ _ _ (by omega) hxl' (by rw [hr0l]; omega) hl, hr0l]
  have hr2t : r2.take ((n + 1) * 7) = (cur.toList.take (n * 7)).take (i * 7) ++ ys ++ (cur.toList.take (n * 7)).drop (i * 7) := by
    rw [show (n + 1) * 7 = n * 7 + 7 by omega, hr2]
    exact insNew_take _ _ _ _ _ _ (by omega) hxl' (by rw [hr0l]; omega) hl hr0t
  rw [← hr2, ← hW1] at hcpB
  rw [← hW1] at hcpA hg1
  have hbel : Below w.heap.size w W1 := by rw [hW1]; exact below_setRow (((Below.refl _ w).drew).alloc (by show _ ≤ w.heap.size; exact Nat.le_refl _) _) (Nat.le_refl _) _
  have hown : (W1.drew.setRow w.heap.size r2.toArray).ownsRow w.heap.size 44 7 (.slice (some ⟨w.heap.size, 0, none⟩) (n + 1) G) (n + 1) ((cur.toList.take (n * 7)).take (i * 7) ++ ys ++ (cur.toList.take (n * 7)).drop (i * 7)) := by
    refine ⟨?_, .inr ⟨w.heap.size, G, r2.toArray, rfl, Nat.le_refl _, setRow_heap _ w.heap.size r1.toArray r2.toArray _ (0, 0) hg1, hGn, by unfold maxLen; omega, by simp only [List.size_toArray, hr2l], ?_⟩⟩
    · rw [← hr2t, List.length_take, hr2l]
      omega
    · exact hr2t
  have hcpA' : ∀ ty dc, (Builtin.copy_ #[22, 22] ty #[.slice (some ⟨w.heap.size, i * 7, none⟩) (n + 1 - i) dc, .slice (some ⟨vb, 0, none⟩) 1 1]).run Tryd.prog (w.alloc (.cells r0 44)).drew = .ok (goInt (Nat.min 1 (n + 1 - i))) W1 := hcpA
  have HOWN := Lib.hid hown
  have HBEL := Lib.hid hbel
  have hni : ¬ ((i : Int) = (n : Int)) := by omega
  have hin : i ≤ n := by omega
  have hwn : IntKind.i64.wrap ((n : Int) + 1) = (n : Int) + 1 := by rw [IntKind.wrap_i64]; omega
  have hwm : IntKind.i64.wrap ((n : Int) + 1 - (i : Int)) = (n : Int) + 1 - (i : Int) := by rw [IntKind.wrap_i64]; omega
  have hwi : IntKind.i64.wrap ((i : Int) + 1) = (i : Int) + 1 := by rw [IntKind.wrap_i64]; omega
  have hb1 : ¬ (c = i) := by omega
  have hb5 : ¬ (G = i) := by omega
  have hb6 : ¬ (G = i + 1) := by omega
  have hcI : (c : Int) < (n : Int) + 1 := by omega
  have hb0 : (0 : Int) ≤ (i : Int) + 1 := by omega
  have hb3 : (i : Int) ≤ (n : Int) + 1 := by omega
  have hb7 : (i : Int) ≤ (c : Int) := by omega
  have mixed : Tryd.prog.follows .mixedOrders = true := by kernel_rfl
  clear hcpA hg hv hold hG hr0 hzl hr0l hr0t hg0 hold0 hr1 hr1l hg1 hgc hxl hfin hW1 hr2 hxl' hr2l hr2t hbel hown hcl hone h1 hl hc hik hi0 hz0 hz1 hz2
  go_enter Tryd.func59, Tryd.ntmps59
  go_wp2_with (first
    | (at_builtin; refine Lib.wpList_append_run _ rfl _ _ _ _ rfl _ _ rfl rfl _ _ (hrz _) ?_)
    | (at_builtin; refine wpList_copy_runI _ rfl _ _ 22 22 rfl _ _ rfl rfl (hcpA' _ _) ?_))
  go_region_law_o (refine step_copy_runI rfl _ _ 22 22 rfl _ _ (by simp [Act.eval, Act.put]) (by simp [Act.eval, Act.put]) (hcpB _ _ _) ?_)
  go_wp2
  go_ret
  exact ⟨_, rfl, HOWN.out, below_setRow HBEL.out.drew (Nat.le_refl _) _⟩

/-- slices.Insert of one element, at a row of the call's own. -/
theorem insI_c {w0 w : World} {base vb n i : Nat} {v : Value} {xs ys : List Value} (ho : w.ownsRow base 44 7 v n xs) (hb : Below base w0 w) (hbase : base ≤ w.heap.size) (hone : ∀ y ∈ xs, y.oneCell' = true) (hv : w.heap[vb]? = some (.cells ys.toArray 44 (0, 0))) (hne : v.ownBlock ≠ some vb) (hl : ys.length = 7) (h1 : ∀ y ∈ ys, y.oneCell' = true) (hi : i ≤ n) (hn : (n + 1) * 88 ≤ 140737488355328) :
    Calls Tryd.prog 59 #[v, .int .i64 i, .slice (some ⟨vb, 0, none⟩) 1 1] w fun e w' => ∃ v', e = .returned v' ∧ w'.ownsRow base 44 7 v' (n + 1) (xs.take (i * 7) ++ ys ++ xs.drop (i * 7)) ∧ Below base w0 w' ∧ w.grownBy w' v.ownBlock ∧ (v'.ownBlock = v.ownBlock ∨ v'.ownBlock = some w.heap.size) := by
  by_cases hin : i = n
  · subst hin
    have e1 : xs.take (i * 7) ++ ys ++ xs.drop (i * 7) = xs ++ ys := by
      rw [List.take_of_length_le (Nat.le_of_eq ho.1), List.drop_eq_nil_of_le (Nat.le_of_eq ho.1), List.append_nil]
    rw [e1]
    exact insEndI_c ho hb hbase hv hl h1 hn
  · have hi' : i < n := by omega
    rcases ho.2 with ⟨_, h0⟩ | ⟨g, c, cur, rfl, hg0, hg, hnc, hc63, hcs, hx⟩
    · omega
    · have hone' : ∀ y ∈ cur.toList.take (n * 7), y.oneCell' = true := by rw [hx]; exact hone
      by_cases hroom : n + 1 ≤ c
      · refine (insShiftI_c hg hcs (by simpa [maxLen] using hc63) hone' hv (fun e => hne (by rw [e]; rfl)) hl h1 hi' hroom).mono ?_
        rintro e w' ⟨rfl, q, rfl⟩
        have hcl : cur.toList.length = c * 7 := by rw [Array.length_toList, hcs]
        refine ⟨_, rfl, ⟨?_, .inr ⟨g, c, _, rfl, hg0, setRow_heap _ g cur _ _ (0, 0) hg, hroom, hc63, ?_, ?_⟩⟩, below_setRow (hb.trans ((below_drewN w q).mono hbase)) hg0 _, ?_, .inl rfl⟩
        · have := ho.1
          simp only [List.length_append, List.length_take, List.length_drop]
          omega
        · simp only [List.size_toArray]
          rw [insRow_len _ _ _ _ _ (by omega) (by omega) hl, hcl]
        · show (insRow _ _ _ _ _).take _ = _
          rw [show (n + 1) * 7 = n * 7 + 7 by omega, insRow_take _ _ _ _ _ (by omega) (by omega) hl, hx]
        · refine ⟨rfl, rfl, rfl, by simp [World.setRow], fun k hk hne' => ?_⟩
          exact setRow_other _ g k _ (fun e => hne' (by rw [e]; rfl))
      · refine (insGrowI_c hg hcs hone' hv hl h1 hi' hnc (by omega) hn).mono ?_
        rintro e w' ⟨G, rfl, ho', hb'⟩
        rw [hx] at ho'
        exact ⟨_, rfl, own_lower ho' hbase, hb.trans (hb'.mono hbase), grownBy_below hb' _, .inr rfl⟩
end Go.Proofs.YtelhpdnclmpgoaaDoor
