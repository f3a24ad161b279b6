/- slices.Delete at elements of several cells. (Printed by gen/sld.py.) -/
import Derived.Test.YtelhpdnclmpgoaaDoorSki
import Derived.Test.YtelhpdnclmpgoaaDoorSkh
import Derived.Lib.SliceRun
import Derived.Deep.RegionLaw
import Derived.Shelf.RegionOpenPlain
namespace Go.Proofs.YtelhpdnclmpgoaaDoor
open Go Go.RowKit
open Go.ChangeShapes Go.WideShapes Go.Deep Go.Sort
set_option linter.unusedSimpArgs false
set_option linter.unusedVariables false

section
variable {P : Program}
/-- clear(s) at elements of several cells. -/
theorem run_clear_rowK (w : World) (t e ty tt : TypeId) (z : Value) (ht : P.underlying t = some (.slice e)) (hv : ∀ w, (zeroValue e).run P w = .ok z w) (g o n c : Nat) (cur : Array Value) (hg : w.heap[g]? = some (.cells cur tt (0, 0))) (hn : 0 < n) (Z : List Value) (hZ : Z = (Builtin.zeroCells z.cells n).toList) (hfit : o + Z.length ≤ cur.size) (h1 : ∀ v ∈ Z, v.oneCell' = true) :
    (Builtin.clear_ #[t] ty #[.slice (some ⟨g, o, none⟩) n c]).run P w = .ok (.tuple #[]) (w.setRow g (cur.toList.take o ++ Z ++ cur.toList.drop (o + Z.length)).toArray) := by
  have hst := run_storeCells_at P g o tt Z 0 cur w hg (by simpa using hfit) h1
  simp only [Nat.add_zero] at hst
  obtain ⟨m, rfl⟩ : ∃ m, n = m + 1 := ⟨n - 1, by omega⟩
  simp [Builtin.clear_, run_underlying ht, hv, ← hZ, hst]
theorem setCells_row (P : Program) (w : World) (g o : Nat) (tt : TypeId) (cur : Array Value) (hg : w.heap[g]? = some (.cells cur tt (0, 0))) (cs : List Value) (hfit : o + cs.length ≤ cur.size) (h1 : ∀ v ∈ cs, v.oneCell' = true) :
    w.setCells g o cs = w.setRow g (cur.toList.take o ++ cs ++ cur.toList.drop (o + cs.length)).toArray := by
  have a := run_storeCells_at P g o tt cs 0 cur w hg (by simpa using hfit) h1
  have b := run_storeCells_cells (P := P) g o cs 0 w (fun j hj => by simp only [World.cell?, hg]; simp; omega) (fun j hj => by simp [World.frozen?, hg]) h1
  rw [a] at b
  injection b with _ b
  simpa using b.symm
end
/-- What a deletion leaves. -/
def delRow {α : Type} (cur Z : List α) (a b m : Nat) : List α :=
  let c1 := cur.take a ++ (cur.take m).drop b ++ cur.drop (a + (m - b))
  c1.take (a + (m - b)) ++ Z ++ c1.drop (a + (m - b) + Z.length)
theorem delRow_take {α : Type} (cur Z : List α) (a b m : Nat) (ha : a ≤ b) (hb : b ≤ m) (hm : m ≤ cur.length) : (delRow cur Z a b m).take (a + (m - b)) = (cur.take m).take a ++ (cur.take m).drop b := by
  unfold delRow
  have e1 : (cur.take a ++ (cur.take m).drop b ++ cur.drop (a + (m - b))).take (a + (m - b)) = cur.take a ++ (cur.take m).drop b :=
    List.take_left' (by simp only [List.length_append, List.length_take, List.length_drop]; omega)
  simp only [e1]
  rw [List.append_assoc, List.take_left' (by simp only [List.length_append, List.length_take, List.length_drop]; omega), List.take_take, Nat.min_eq_left (by omega)]
theorem delRow_len {α : Type} (cur Z : List α) (a b m : Nat) (ha : a ≤ b) (hb : b ≤ m) (hm : m ≤ cur.length) (hZ : Z.length = b - a) : (delRow cur Z a b m).length = cur.length := by
  unfold delRow
  simp only [List.length_append, List.length_take, List.length_drop]
  omega

theorem zvalI (w : World) : (zeroValue 44).run Tryd.prog w = .ok (.agg #[.int .i64 0, .bool false, .string ByteArray.empty, .string ByteArray.empty, .slice none 0 0, .bool false, .int .i64 0]) w := by kernel_rfl
theorem zlenI (n : Nat) : (Builtin.zeroCells (Value.cells (.agg #[.int .i64 0, .bool false, .string ByteArray.empty, .string ByteArray.empty, .slice none 0 0, .bool false, .int .i64 0])) n).toList.length = n * 7 := by
  rw [Array.length_toList, size_zeroCells]; rfl
theorem zoneI (n : Nat) : ∀ v ∈ (Builtin.zeroCells (Value.cells (.agg #[.int .i64 0, .bool false, .string ByteArray.empty, .string ByteArray.empty, .slice none 0 0, .bool false, .int .i64 0])) n).toList, v.oneCell' = true := by
  intro v hv
  simp only [Builtin.zeroCells, Array.toList_map, List.mem_map] at hv
  obtain ⟨i, -, rfl⟩ := hv
  have h7 : i % 7 < 7 := Nat.mod_lt _ (by omega)
  show ((Value.cells (.agg #[.int .i64 0, .bool false, .string ByteArray.empty, .string ByteArray.empty, .slice none 0 0, .bool false, .int .i64 0]))[i % 7]!).oneCell' = true
  generalize i % 7 = r at h7
  match r, h7 with
  | 0, _ => rfl
  | 1, _ => rfl
  | 2, _ => rfl
  | 3, _ => rfl
  | 4, _ => rfl
  | 5, _ => rfl
  | 6, _ => rfl

set_option maxRecDepth 100000 in
set_option maxHeartbeats 2000000 in
theorem delI_c {w : World} {B n c g i j : Nat} {xs : List Value} (ho : w.ownsRow B 44 7 (.slice (some ⟨g, 0, none⟩) n c) n xs) (hone : ∀ y ∈ xs, y.oneCell' = true) (hij : i < j) (hj : j ≤ n) :
    Calls Tryd.prog 43 #[.slice (some ⟨g, 0, none⟩) n c, .int .i64 i, .int .i64 j] w fun e w' => e = .returned (.slice (some ⟨g, 0, none⟩) (i + (n - j)) c) ∧ w'.ownsRow B 44 7 (.slice (some ⟨g, 0, none⟩) (i + (n - j)) c) (i + (n - j)) (xs.take (i * 7) ++ xs.drop (j * 7)) ∧ w.grownBy w' (some g) := by
  obtain ⟨hxl, h2⟩ := ho
  rcases h2 with ⟨h2, _⟩ | ⟨g', cap, cur, he, hB, hg, hnc, hc63, hs, ht⟩
  · cases h2
  injection he with e1 e2 e3
  injection e1 with e1
  injection e1 with e1 _ _
  subst e1 e3
  have hcl : cur.toList.length = c * 7 := by rw [Array.length_toList, hs]
  have hmx : c ≤ 9223372036854775807 := by simpa [maxLen] using hc63
  obtain ⟨i0, hi0, hzz⟩ := Option.map_eq_some_iff.1 infoI
  simp only [Prod.mk.injEq] at hzz
  obtain ⟨hz0, hz1, hz2⟩ := hzz
  have hgd : w.drew.heap[g]? = some (.cells cur 44 (0, 0)) := hg
  obtain ⟨news, hnews⟩ : ∃ news, news = xs.drop (j * 7) := ⟨_, rfl⟩
  have hlen : news.length = (n - j) * 7 := by rw [hnews, List.length_drop, hxl]; omega
  have s2 : Hid (∀ u ∈ news, u.oneCell' = true) := Lib.hid (fun u hu => hone u (List.mem_of_mem_drop (hnews ▸ hu)))
  obtain ⟨A, hA, hsrc⟩ : ∃ A : Addr, (if c = j then some (⟨g, 0, none⟩ : Addr) else some ⟨g, j * 7, none⟩) = some A ∧ Hid (∀ t u, news[t]? = some u → w.drew.cell? (A.add t) = some u) := by
    by_cases h : c = j
    · refine ⟨⟨g, 0, none⟩, by simp [h], fun t u hu => ?_⟩
      have h0 : news.length = 0 := by rw [hlen, show n - j = 0 by omega, Nat.zero_mul]
      rw [List.length_eq_zero_iff.1 h0] at hu
      simp at hu
    · refine ⟨⟨g, j * 7, none⟩, by simp [h], fun t u hu => ?_⟩
      rw [Addr.add_lit]
      simp only [World.cell?, hgd]
      rw [hnews, ← ht, List.getElem?_drop, List.getElem?_take] at hu
      split at hu
      · simpa using hu
      · cases hu
  have s1 : Hid (news.length = (n - j) * 7) := Lib.hid hlen
  have s3 : Hid (∀ t, t < news.length → (w.drew.cell? ⟨g, 0 + i * 7 + t, none⟩).isSome = true ∧ w.drew.frozen? ⟨g, 0 + i * 7 + t, none⟩ = false) := Lib.hid (fun t ht' => by
    rw [hlen] at ht'
    refine ⟨?_, by simp [World.frozen?, hgd]⟩
    simp only [World.cell?, hgd]
    simp
    omega)
  obtain ⟨r1, hr1⟩ : ∃ r1, r1 = cur.toList.take (i * 7) ++ (cur.toList.take (n * 7)).drop (j * 7) ++ cur.toList.drop (i * 7 + (n * 7 - j * 7)) := ⟨_, rfl⟩
  have hW1 : w.drew.setCells g (0 + i * 7) news = w.drew.setRow g r1.toArray := by
    rw [setCells_row Tryd.prog w.drew g _ _ cur hgd news (by rw [hlen]; omega) s2.out, hr1, hlen, hnews, ← ht, Nat.zero_add, show (n - j) * 7 = n * 7 - j * 7 by omega]
  have hr1l : r1.length = c * 7 := by rw [hr1]; simp only [List.length_append, List.length_take, List.length_drop, hcl]; omega
  have hg1 : (w.drew.setRow g r1.toArray).heap[g]? = some (.cells r1.toArray 44 (0, 0)) := setRow_heap w.drew g cur r1.toArray _ (0, 0) hgd
  obtain ⟨Z, hZ⟩ : ∃ Z, Z = (Builtin.zeroCells (Value.cells (.agg #[.int .i64 0, .bool false, .string ByteArray.empty, .string ByteArray.empty, .slice none 0 0, .bool false, .int .i64 0])) (n - (i + (n - j)))).toList := ⟨_, rfl⟩
  have hZl : Z.length = j * 7 - i * 7 := by rw [hZ, zlenI]; omega
  have hclr : ∀ ty, (Builtin.clear_ #[22] ty #[.slice (some ⟨g, (i + (n - j)) * 7, none⟩) (n - (i + (n - j))) (c - (i + (n - j)))]).run Tryd.prog (w.drew.setRow g r1.toArray) = .ok (.tuple #[]) (w.drew.setRow g (delRow cur.toList Z (i * 7) (j * 7) (n * 7)).toArray) := fun ty => by
    rw [run_clear_rowK (w.drew.setRow g r1.toArray) 22 44 ty _ _ Tryd.underlying22 zvalI g _ _ _ r1.toArray hg1 (by omega) Z hZ (by rw [hZl]; simp only [List.size_toArray, hr1l]; omega) (by rw [hZ]; exact zoneI _), setRow_setRow]
    unfold delRow
    rw [← hr1, show (i + (n - j)) * 7 = i * 7 + (n * 7 - j * 7) by omega]
  have HF : Hid (∀ q : World, q = w.drew.setRow g (delRow cur.toList Z (i * 7) (j * 7) (n * 7)).toArray → q.ownsRow B 44 7 (.slice (some ⟨g, 0, none⟩) (i + (n - j)) c) (i + (n - j)) (xs.take (i * 7) ++ xs.drop (j * 7)) ∧ w.grownBy q (some g)) := Lib.hid (by
    rintro q rfl
    refine ⟨⟨by simp only [List.length_append, List.length_take, List.length_drop, hxl]; omega, .inr ⟨g, c, _, rfl, hB, setRow_heap _ g cur _ _ (0, 0) hgd, by omega, hc63, ?_, ?_⟩⟩, ⟨rfl, rfl, rfl, by simp [World.setRow], fun k hk hne' => setRow_other _ g k _ (fun e => hne' (by rw [e]))⟩⟩
    · simp only [List.size_toArray]
      rw [delRow_len _ _ _ _ _ (by omega) (by omega) (by omega) hZl, hcl]
    · show (delRow _ _ _ _ _).take _ = _
      rw [show (i + (n - j)) * 7 = i * 7 + (n * 7 - j * 7) by omega, delRow_take _ _ _ _ _ (by omega) (by omega) (by omega), ht])
  obtain ⟨W1, hW⟩ : ∃ W1, W1 = w.drew.setRow g r1.toArray := ⟨_, rfl⟩
  have HW : Hid (w.drew.setCells g (0 + i * 7) news = W1) := Lib.hid (hW1.trans hW.symm)
  rw [← hW] at hclr
  have mixed : Tryd.prog.follows .mixedOrders = true := by kernel_rfl
  have hne : ¬ ((i : Int) = (j : Int)) := by omega
  have hne2 : ¬ (n = i) := by omega
  have hne3 : ¬ (c = i + (n - j)) := by omega
  have hic : i ≤ c := by omega
  have hin : i ≤ n := by omega
  have hijl : i ≤ j := by omega
  have hln : i + (n - j) ≤ n := by omega
  have hjc : j ≤ c := by omega
  clear hW1 hW hg1 hr1l hr1 hZ hZl hcl hs ht hone hxl hlen hnews hgd hg hmx
  go_enter Tryd.func43, Tryd.ntmps43
  go_wp2_with fail
  go_region_law_o (refine step_append_room rfl (.tmp 22) (.tmp 25) 22 rfl 44 i0 7 Tryd.underlying22 hi0 hz1 g 0 i c (by simp [Act.eval, Act.put]) A (n - j) (c - j) news (by simp [Act.eval, Act.put]) s1.out hsrc.out s2.out (by omega) s3.out ?_; rw [HW.out])
  go_wp2
  go_ret
  exact ⟨rfl, HF.out _ rfl⟩

theorem zvalH (w : World) : (zeroValue 46).run Tryd.prog w = .ok (.agg #[.int .i64 0, .int .i64 0, .int .i64 0, .int .i64 0, .bool false, .string ByteArray.empty, .string ByteArray.empty, .slice none 0 0, .bool false, .int .i64 0]) w := by kernel_rfl
theorem zlenH (n : Nat) : (Builtin.zeroCells (Value.cells (.agg #[.int .i64 0, .int .i64 0, .int .i64 0, .int .i64 0, .bool false, .string ByteArray.empty, .string ByteArray.empty, .slice none 0 0, .bool false, .int .i64 0])) n).toList.length = n * 10 := by
  rw [Array.length_toList, size_zeroCells]; rfl
theorem zoneH (n : Nat) : ∀ v ∈ (Builtin.zeroCells (Value.cells (.agg #[.int .i64 0, .int .i64 0, .int .i64 0, .int .i64 0, .bool false, .string ByteArray.empty, .string ByteArray.empty, .slice none 0 0, .bool false, .int .i64 0])) n).toList, v.oneCell' = true := by
  intro v hv
  simp only [Builtin.zeroCells, Array.toList_map, List.mem_map] at hv
  obtain ⟨i, -, rfl⟩ := hv
  have h7 : i % 10 < 10 := Nat.mod_lt _ (by omega)
  show ((Value.cells (.agg #[.int .i64 0, .int .i64 0, .int .i64 0, .int .i64 0, .bool false, .string ByteArray.empty, .string ByteArray.empty, .slice none 0 0, .bool false, .int .i64 0]))[i % 10]!).oneCell' = true
  generalize i % 10 = r at h7
  match r, h7 with
  | 0, _ => rfl
  | 1, _ => rfl
  | 2, _ => rfl
  | 3, _ => rfl
  | 4, _ => rfl
  | 5, _ => rfl
  | 6, _ => rfl
  | 7, _ => rfl
  | 8, _ => rfl
  | 9, _ => rfl

set_option maxRecDepth 100000 in
set_option maxHeartbeats 2000000 in
theorem delH_c {w : World} {B n c g i j : Nat} {xs : List Value} (ho : w.ownsRow B 46 10 (.slice (some ⟨g, 0, none⟩) n c) n xs) (hone : ∀ y ∈ xs, y.oneCell' = true) (hij : i < j) (hj : j ≤ n) :
    Calls Tryd.prog 46 #[.slice (some ⟨g, 0, none⟩) n c, .int .i64 i, .int .i64 j] w fun e w' => e = .returned (.slice (some ⟨g, 0, none⟩) (i + (n - j)) c) ∧ w'.ownsRow B 46 10 (.slice (some ⟨g, 0, none⟩) (i + (n - j)) c) (i + (n - j)) (xs.take (i * 10) ++ xs.drop (j * 10)) ∧ w.grownBy w' (some g) := by
  obtain ⟨hxl, h2⟩ := ho
  rcases h2 with ⟨h2, _⟩ | ⟨g', cap, cur, he, hB, hg, hnc, hc63, hs, ht⟩
  · cases h2
  injection he with e1 e2 e3
  injection e1 with e1
  injection e1 with e1 _ _
  subst e1 e3
  have hcl : cur.toList.length = c * 10 := by rw [Array.length_toList, hs]
  have hmx : c ≤ 9223372036854775807 := by simpa [maxLen] using hc63
  obtain ⟨i0, hi0, hzz⟩ := Option.map_eq_some_iff.1 infoH
  simp only [Prod.mk.injEq] at hzz
  obtain ⟨hz0, hz1, hz2⟩ := hzz
  have hgd : w.drew.heap[g]? = some (.cells cur 46 (0, 0)) := hg
  obtain ⟨news, hnews⟩ : ∃ news, news = xs.drop (j * 10) := ⟨_, rfl⟩
  have hlen : news.length = (n - j) * 10 := by rw [hnews, List.length_drop, hxl]; omega
  have s2 : Hid (∀ u ∈ news, u.oneCell' = true) := Lib.hid (fun u hu => hone u (List.mem_of_mem_drop (hnews ▸ hu)))
  obtain ⟨A, hA, hsrc⟩ : ∃ A : Addr, (if c = j then some (⟨g, 0, none⟩ : Addr) else some ⟨g, j * 10, none⟩) = some A ∧ Hid (∀ t u, news[t]? = some u → w.drew.cell? (A.add t) = some u) := by
    by_cases h : c = j
    · refine ⟨⟨g, 0, none⟩, by simp [h], fun t u hu => ?_⟩
      have h0 : news.length = 0 := by rw [hlen, show n - j = 0 by omega, Nat.zero_mul]
      rw [List.length_eq_zero_iff.1 h0] at hu
      simp at hu
    · refine ⟨⟨g, j * 10, none⟩, by simp [h], fun t u hu => ?_⟩
      rw [Addr.add_lit]
      simp only [World.cell?, hgd]
      rw [hnews, ← ht, List.getElem?_drop, List.getElem?_take] at hu
      split at hu
      · simpa using hu
      · cases hu
  have s1 : Hid (news.length = (n - j) * 10) := Lib.hid hlen
  have s3 : Hid (∀ t, t < news.length → (w.drew.cell? ⟨g, 0 + i * 10 + t, none⟩).isSome = true ∧ w.drew.frozen? ⟨g, 0 + i * 10 + t, none⟩ = false) := Lib.hid (fun t ht' => by
    rw [hlen] at ht'
    refine ⟨?_, by simp [World.frozen?, hgd]⟩
    simp only [World.cell?, hgd]
    simp
    omega)
  obtain ⟨r1, hr1⟩ : ∃ r1, r1 = cur.toList.take (i * 10) ++ (cur.toList.take (n * 10)).drop (j * 10) ++ cur.toList.drop (i * 10 + (n * 10 - j * 10)) := ⟨_, rfl⟩
  have hW1 : w.drew.setCells g (0 + i * 10) news = w.drew.setRow g r1.toArray := by
    rw [setCells_row Tryd.prog w.drew g _ _ cur hgd news (by rw [hlen]; omega) s2.out, hr1, hlen, hnews, ← ht, Nat.zero_add, show (n - j) * 10 = n * 10 - j * 10 by omega]
  have hr1l : r1.length = c * 10 := by rw [hr1]; simp only [List.length_append, List.length_take, List.length_drop, hcl]; omega
  have hg1 : (w.drew.setRow g r1.toArray).heap[g]? = some (.cells r1.toArray 46 (0, 0)) := setRow_heap w.drew g cur r1.toArray _ (0, 0) hgd
  obtain ⟨Z, hZ⟩ : ∃ Z, Z = (Builtin.zeroCells (Value.cells (.agg #[.int .i64 0, .int .i64 0, .int .i64 0, .int .i64 0, .bool false, .string ByteArray.empty, .string ByteArray.empty, .slice none 0 0, .bool false, .int .i64 0])) (n - (i + (n - j)))).toList := ⟨_, rfl⟩
  have hZl : Z.length = j * 10 - i * 10 := by rw [hZ, zlenH]; omega
  have hclr : ∀ ty, (Builtin.clear_ #[23] ty #[.slice (some ⟨g, (i + (n - j)) * 10, none⟩) (n - (i + (n - j))) (c - (i + (n - j)))]).run Tryd.prog (w.drew.setRow g r1.toArray) = .ok (.tuple #[]) (w.drew.setRow g (delRow cur.toList Z (i * 10) (j * 10) (n * 10)).toArray) := fun ty => by
    rw [run_clear_rowK (w.drew.setRow g r1.toArray) 23 46 ty _ _ Tryd.underlying23 zvalH g _ _ _ r1.toArray hg1 (by omega) Z hZ (by rw [hZl]; simp only [List.size_toArray, hr1l]; omega) (by rw [hZ]; exact zoneH _), setRow_setRow]
    unfold delRow
    rw [← hr1, show (i + (n - j)) * 10 = i * 10 + (n * 10 - j * 10) by omega]
  have HF : Hid (∀ q : World, q = w.drew.setRow g (delRow cur.toList Z (i * 10) (j * 10) (n * 10)).toArray → q.ownsRow B 46 10 (.slice (some ⟨g, 0, none⟩) (i + (n - j)) c) (i + (n - j)) (xs.take (i * 10) ++ xs.drop (j * 10)) ∧ w.grownBy q (some g)) := Lib.hid (by
    rintro q rfl
    refine ⟨⟨by simp only [List.length_append, List.length_take, List.length_drop, hxl]; omega, .inr ⟨g, c, _, rfl, hB, setRow_heap _ g cur _ _ (0, 0) hgd, by omega, hc63, ?_, ?_⟩⟩, ⟨rfl, rfl, rfl, by simp [World.setRow], fun k hk hne' => setRow_other _ g k _ (fun e => hne' (by rw [e]))⟩⟩
    · simp only [List.size_toArray]
      rw [delRow_len _ _ _ _ _ (by omega) (by omega) (by omega) hZl, hcl]
    · show (delRow _ _ _ _ _).take _ = _
      rw [show (i + (n - j)) * 10 = i * 10 + (n * 10 - j * 10) by omega, delRow_take _ _ _ _ _ (by omega) (by omega) (by omega), ht])
  obtain ⟨W1, hW⟩ : ∃ W1, W1 = w.drew.setRow g r1.toArray := ⟨_, rfl⟩
  have HW : Hid (w.drew.setCells g (0 + i * 10) news = W1) := Lib.hid (hW1.trans hW.symm)
  rw [← hW] at hclr
  have mixed : Tryd.prog.follows .mixedOrders = true := by kernel_rfl
  have hne : ¬ ((i : Int) = (j : Int)) := by omega
  have hne2 : ¬ (n = i) := by omega
  have hne3 : ¬ (c = i + (n - j)) := by omega
  have hic : i ≤ c := by omega
  have hin : i ≤ n := by omega
  have hijl : i ≤ j := by omega
  have hln : i + (n - j) ≤ n := by omega
  have hjc : j ≤ c := by omega
  clear hW1 hW hg1 hr1l hr1 hZ hZl hcl hs ht hone hxl hlen hnews hgd hg hmx
  go_enter Tryd.func46, Tryd.ntmps46
  go_wp2_with fail
  go_region_law_o (refine step_append_room rfl (.tmp 22) (.tmp 25) 23 rfl 46 i0 10 Tryd.underlying23 hi0 hz1 g 0 i c (by simp [Act.eval, Act.put]) A (n - j) (c - j) news (by simp [Act.eval, Act.put]) s1.out hsrc.out s2.out (by omega) s3.out ?_; rw [HW.out])
  go_wp2
  go_ret
  exact ⟨rfl, HF.out _ rfl⟩
end Go.Proofs.YtelhpdnclmpgoaaDoor
