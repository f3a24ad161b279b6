/- Layer 1, as the layers above want it (one listed variable): clones, numbers and texts behind bytes: the program's and the reference's. -/
import Derived.Test.YtcehkaombanhaaaGreatDoorOpen
import Derived.Test.YtcehkaombanhaaaGreatDoorShelf
import Derived.Lib.ItoaLen
namespace Go.Proofs.YtcehkaombanhaaaGreatDoor
open Go Go.RowKit
set_option linter.unusedSimpArgs false
set_option linter.unusedVariables false

/-- The listed variable lies below block NG. -/
def NG : Nat := 6 + 1

/-- What the listed variable holds. -/
structure G (w : World) : Prop where
  tab : Lib.TabIs Tryz.prog w "internal/strconv.uint64pow10" .u64 Lib.pow10Tab
  sz : NG ≤ w.heap.size

theorem G.below {w w1 : World} {B : Nat} (h : G w) (hB : NG ≤ B) (hb : Below B w w1) : G w1 := by
  obtain ⟨h1, h4⟩ := h
  refine ⟨var?_below hb (g := 6) (by kernel_rfl) (by unfold NG at hB; omega) h1, ?_⟩
  have := hb.size
  omega

theorem G.tabBelow {w : World} {B : Nat} (h : G w) (hB : NG ≤ B) : Lib.TabBelow Tryz.prog B w "internal/strconv.uint64pow10" .u64 Lib.pow10Tab :=
  fun _ hb => (h.below hB hb).tab

set_option maxRecDepth 100000 in
set_option maxHeartbeats 1000000 in
theorem clone_b {w : World} {v : Value} {l : List UInt8} (h : RB w v l) (hl : l.length ≤ 140737488355328) :
    Calls Tryz.prog 60 #[v] w fun e w' => ∃ v', e = .returned v' ∧ OB w' w.heap.size v' l ∧ Below w.heap.size w w' := by
  obtain ⟨A, c, rfl, hnc, hc, hlen, hA, hcell⟩ := id h
  have q := fun (w : World) (a : Option Addr) (n c n' c' : Nat) => Lib.run_eql_slice_nil (P := Tryz.prog) w 47 _ a n c n' c' Tryz.underlying47
  have H := Lib.hid h
  have HC := Lib.hid hcell
  clear h hcell hlen
  rcases A with _ | ad
  · have : l = [] := List.eq_nil_of_length_eq_zero (by have := hA rfl; omega)
    subst this
    clear hA
    go_enter Tryz.func60, Tryz.ntmps60
    go_wp2
    go_ret
    exact ⟨_, rfl, ob_nil _ _, Below.refl _ _⟩
  · clear hA
    go_enter Tryz.func60, Tryz.ntmps60
    go_wp2_with (at_builtin; refine app_b (w0 := w) (base := w.heap.size) (l := []) (m := l) rfl (.tmp 5) (.tmp 6) rfl rfl rfl (World.ownsRow_made w #[] 0 (Nat.le_refl _) (Nat.zero_le _) (by simp)) (rc_alloc H.out _) ((Below.refl _ _).alloc (Nat.le_refl _) _) (by simp) (by simpa using hl) ?_; intro v1 w1 hown hb hg hat)
    go_ret
    exact ⟨v1, rfl, hown, hb⟩

/-- A number's bytes; a text's. -/
def numB (n : Int) : List UInt8 := Lib.itoa n ++ [59]
def strB (s : List UInt8) : List UInt8 := Lib.itoa s.length ++ (58 :: (s ++ [44]))

theorem itoa_c (n : Int) (h0 : -9223372036854775808 ≤ n) (h1 : n ≤ 9223372036854775807) {w : World} (hG : G w) :
    Calls Tryz.prog 46 #[.int .i64 n] w fun e w' => e = .returned (.string ⟨(Lib.itoa n).toArray⟩) ∧ Below w.heap.size w w' :=
  (Tryz.strconv_Itoa n h0 h1 w hG.tab).mono fun e w' ⟨he, k, os, hw⟩ => ⟨he, by rw [hw]; exact Lib.below_grow _ _ (Nat.le_refl _) _ _⟩

theorem appendInt_c {w : World} {B : Nat} {v : Value} {l : List UInt8} (h : OB w B v l) (hB : B ≤ w.heap.size) (hl : l.length + 21 ≤ 140737488355328) (n : Int) (h0 : -9223372036854775808 ≤ n) (h1 : n ≤ 9223372036854775807) (hG : G w) (h20 : NG ≤ B) :
    Calls Tryz.prog 94 #[v, .int .i64 n, .int .i64 10] w fun e w' => ∃ v', e = .returned v' ∧ OB w' B v' (l ++ Lib.itoa n) ∧ Below B w w' :=
  (Tryz.strconv_AppendInt_10 B _ n h0 h1 v _ w h hB hl (hG.tabBelow h20)).mono fun e w' ⟨v', he, ho, hb, _⟩ => ⟨v', he, by unfold OB; rw [List.length_append, Lib.byteCells_append]; exact ho, hb⟩

theorem str_list (l : List UInt8) : (⟨l.toArray⟩ : ByteArray).data.toList = l := rfl
theorem str_size (l : List UInt8) : (⟨l.toArray⟩ : ByteArray).size = l.length := rfl

set_option maxRecDepth 100000 in
set_option maxHeartbeats 1000000 in
theorem refNum_c {w : World} {v : Value} {l : List UInt8} (hG : G w) (h : RB w v l) (hl : l.length ≤ 70368744177664) (n : Int) (h0 : -9223372036854775808 ≤ n) (h1 : n ≤ 9223372036854775807) :
    Calls Tryz.prog 100 #[v, .int .i64 n] w fun e w' => ∃ v', e = .returned v' ∧ OB w' w.heap.size v' (l ++ numB n) ∧ Below w.heap.size w w' := by
  have H := Lib.hid h
  have HG := Lib.hid hG
  clear h hG
  have hil := Lib.itoa_length_le n h0 h1
  go_enter Tryz.func100, Tryz.ntmps100
  go_wp2_with (at_builtin; refine app_b (w0 := w) (base := w.heap.size) (l := []) (m := l) rfl (.tmp 5) (.tmp 6) rfl rfl rfl (World.ownsRow_made w #[] 0 (Nat.le_refl _) (Nat.zero_le _) (by simp)) (rc_alloc H.out _) ((Below.refl _ _).alloc (Nat.le_refl _) _) (by simp) (by simp; omega) ?_; intro v1 w1 o1 b1 _ _)
  simp only [List.nil_append] at o1
  have O1 := Lib.hid o1; clear o1
  refine (itoa_c n h0 h1 (HG.out.below HG.out.sz b1)).mono ?_
  rintro e w2 ⟨rfl, b2⟩
  go_wp2_with (first | (at_builtin; refine app_s (w0 := w) (base := w.heap.size) (l := l) rfl (.tmp 7) (.tmp 9) rfl ⟨(Lib.itoa n).toArray⟩ rfl rfl (own_below O1.out b2) (b1.trans (b2.mono b1.size)) (by have := b1.size; have := b2.size; omega) (by simp [str_size]; omega) ?_; intro v3 w3 o3 b3 _; simp only [str_list] at o3; have O3 := Lib.hid o3; clear o3) | (at_builtin; refine app_b (w0 := w) (base := w.heap.size) (l := l ++ Lib.itoa n) (m := [59]) rfl (.tmp 10) (.tmp 11) rfl rfl rfl (O3.out.alloc _) (rb_one _ 59) (b3.alloc b3.size _) (by have := b3.size; simp; omega) (by simp; omega) ?_; intro v4 w4 o4 b4 _ _))
  go_ret
  exact ⟨v4, rfl, by unfold numB; simpa using o4, b4⟩

set_option maxRecDepth 100000 in
set_option maxHeartbeats 1000000 in
theorem refStr_c {w : World} {v : Value} {l : List UInt8} (hG : G w) (h : RB w v l) (s : ByteArray) (hl : l.length + s.size ≤ 70368744177664) :
    Calls Tryz.prog 122 #[v, .string s] w fun e w' => ∃ v', e = .returned v' ∧ OB w' w.heap.size v' (l ++ strB s.data.toList) ∧ Below w.heap.size w w' := by
  have H := Lib.hid h
  have HG := Lib.hid hG
  clear h hG
  have hil := Lib.itoa_length_le (s.size : Int) (by omega) (by omega)
  have hsl : s.data.toList.length = s.size := by rw [Array.length_toList]; rfl
  have HS := Lib.hid hsl; clear hsl
  go_enter Tryz.func122, Tryz.ntmps122
  go_wp2_with (first
    | (at_builtin; refine app_b (w0 := w) (base := w.heap.size) (l := []) (m := l) rfl (.tmp 6) (.tmp 7) rfl rfl rfl (World.ownsRow_made w #[] 0 (Nat.le_refl _) (Nat.zero_le _) (by simp)) (rc_alloc H.out _) ((Below.refl _ _).alloc (Nat.le_refl _) _) (by simp) (by simp; omega) ?_; intro v1 w1 o1 b1 _ _; simp only [List.nil_append] at o1; have O1 := Lib.hid o1; clear o1)
    | (go_at_call 46; refine (itoa_c (s.size : Int) (by omega) (by omega) (HG.out.below HG.out.sz b1)).mono ?_; rintro e w2 ⟨rfl, b2⟩)
    | (at_builtin; refine app_s (w0 := w) (base := w.heap.size) (l := l) rfl (.tmp 8) (.tmp 11) rfl ⟨(Lib.itoa s.size).toArray⟩ rfl rfl (own_below O1.out b2) (b1.trans (b2.mono b1.size)) (by have := b1.size; have := b2.size; omega) (by simp [str_size]; omega) ?_; intro v3 w3 o3 b3 _; have O3 := Lib.hid o3; clear o3)
    | (at_builtin; refine app_b (w0 := w) (base := w.heap.size) (l := l ++ Lib.itoa s.size) (m := [58]) rfl (.tmp 12) (.tmp 13) rfl rfl rfl (O3.out.alloc _) (rb_one _ 58) (b3.alloc b3.size _) (by have := b3.size; simp; omega) (by simp; omega) ?_; intro v4 w4 o4 b4 _ _; have O4 := Lib.hid o4; clear o4)
    | (at_builtin; refine app_s (w0 := w) (base := w.heap.size) (l := l ++ Lib.itoa s.size ++ [58]) rfl (.tmp 15) (.tmp 16) rfl s rfl rfl O4.out b4 b4.size (by simp; omega) ?_; intro v5 w5 o5 b5 _; have O5 := Lib.hid o5; clear o5)
    | (at_builtin; refine app_b (w0 := w) (base := w.heap.size) (l := l ++ Lib.itoa s.size ++ [58] ++ s.data.toList) (m := [44]) rfl (.tmp 17) (.tmp 18) rfl rfl rfl (O5.out.alloc _) (rb_one _ 44) (b5.alloc b5.size _) (by have := b5.size; simp; omega) (by have := HS.out; simp; omega) ?_; intro v6 w6 o6 b6 _ _; have O6 := Lib.hid o6; clear o6))
  go_ret
  exact ⟨v6, rfl, by unfold strB; rw [HS.out]; simpa using O6.out, b6⟩

set_option maxRecDepth 100000 in
set_option maxHeartbeats 1000000 in
theorem cordStr_c {w : World} {v : Value} {l : List UInt8} (hG : G w) (h : RB w v l) (s : ByteArray) (hl : l.length + s.size ≤ 70368744177664) :
    Calls Tryz.prog 95 #[v, .string s] w fun e w' => ∃ v', e = .returned v' ∧ OB w' w.heap.size v' (l ++ strB s.data.toList) ∧ Below w.heap.size w w' := by
  have H := Lib.hid h
  have HG := Lib.hid hG
  clear h hG
  have hil := Lib.itoa_length_le (s.size : Int) (by omega) (by omega)
  have hsl : s.data.toList.length = s.size := by rw [Array.length_toList]; rfl
  have HS := Lib.hid hsl; clear hsl
  go_enter Tryz.func95, Tryz.ntmps95
  go_wp2_with (first
    | (go_at_call 60; refine (clone_b H.out (by omega)).mono ?_; rintro e w1 ⟨v1, rfl, o1, b1⟩; have O1 := Lib.hid o1; clear o1)
    | (go_at_call 94; refine (appendInt_c O1.out b1.size (by omega) (s.size : Int) (by omega) (by omega) (HG.out.below HG.out.sz b1) HG.out.sz).mono ?_; rintro e w2 ⟨v2, rfl, o2, b2⟩; have O2 := Lib.hid o2; clear o2)
    | (at_builtin; refine app_b (w0 := w) (base := w.heap.size) (l := l ++ Lib.itoa s.size) (m := [58]) rfl (.tmp 10) (.tmp 11) rfl rfl rfl (O2.out.alloc _) (rb_one _ 58) ((b1.trans b2).alloc (b1.trans b2).size _) (by have := (b1.trans b2).size; simp; omega) (by simp; omega) ?_; intro v4 w4 o4 b4 _ _; have O4 := Lib.hid o4; clear o4)
    | (at_builtin; refine app_s (w0 := w) (base := w.heap.size) (l := l ++ Lib.itoa s.size ++ [58]) rfl (.tmp 13) (.tmp 14) rfl s rfl rfl O4.out b4 b4.size (by simp; omega) ?_; intro v5 w5 o5 b5 _; have O5 := Lib.hid o5; clear o5)
    | (at_builtin; refine app_b (w0 := w) (base := w.heap.size) (l := l ++ Lib.itoa s.size ++ [58] ++ s.data.toList) (m := [44]) rfl (.tmp 15) (.tmp 16) rfl rfl rfl (O5.out.alloc _) (rb_one _ 44) (b5.alloc b5.size _) (by have := b5.size; simp; omega) (by have := HS.out; simp; omega) ?_; intro v6 w6 o6 b6 _ _; have O6 := Lib.hid o6; clear o6))
  go_ret
  exact ⟨v6, rfl, by unfold strB; rw [HS.out]; simpa using O6.out, b6⟩

/-- Many numbers' bytes. -/
def numsB (ns : List Int) : List UInt8 := ns.flatMap numB
theorem numsB_snoc (ns : List Int) (n : Int) : numsB (ns ++ [n]) = numsB ns ++ numB n := by simp [numsB]
theorem numB_len (n : Int) (h0 : -9223372036854775808 ≤ n) (h1 : n ≤ 9223372036854775807) : (numB n).length ≤ 22 := by
  have := Lib.itoa_length_le n h0 h1
  simp [numB]; omega
theorem numsB_len : ∀ (ns : List Int), I64 ns → (numsB ns).length ≤ 22 * ns.length
  | [], _ => by simp [numsB]
  | n :: r, h => by
    have h1 := numB_len n (h n (by simp)).1 (h n (by simp)).2
    have h2 := numsB_len r (fun x hx => h x (by simp [hx]))
    simp only [numsB, List.flatMap_cons, List.length_append, List.length_cons] at h2 ⊢
    omega


set_option maxRecDepth 100000 in
set_option maxHeartbeats 1000000 in
theorem cordNum_c {w : World} {v u : Value} {l : List UInt8} {ns : List Int} (hG : G w) (h : RB w v l) (hn : RI w u ns) (hns : I64 ns) (hl : l.length + 22 * ns.length ≤ 70368744177664) :
    Calls Tryz.prog 58 #[v, u] w fun e w' => ∃ v', e = .returned v' ∧ OB w' w.heap.size v' (l ++ numsB ns) ∧ Below w.heap.size w w' := by
  have H := Lib.hid h
  have HN := Lib.hid hn
  have HNS := Lib.hid hns
  have HG := Lib.hid hG
  obtain ⟨A, c, rfl, hnc, hc, hlen, hA, hcell⟩ := hn
  have HC := Lib.hid hcell
  have HA := Lib.hid hA
  clear h hG hns hcell hA hlen
  go_enter Tryz.func58, Tryz.ntmps58
  go_wp2_with (first
    | (go_at_call 60; refine (clone_b H.out (by omega)).mono ?_; rintro e w1 ⟨v1, rfl, o1, b1⟩; have O1 := Lib.hid o1; clear o1))
  go_loopw [5, 12] (fun x i wr => ∃ k : Nat, k ≤ ns.length ∧ i = .int .i64 k ∧ Hid (OB wr w.heap.size x (l ++ numsB (ns.take k))) ∧ Below w.heap.size w wr) (fun _ i _ => ns.length - (intOf i).toNat)
  case atStart => exact ⟨0, Nat.zero_le _, rfl, by simpa [numsB, Lib.hid] using O1, b1⟩
  case round =>
    obtain ⟨k, hk, rfl, O2, b2⟩ := hrel
    clear O1 b1
    by_cases hlt : k < ns.length
    · obtain ⟨y, hy⟩ : ∃ y, ns[k]? = some y := ⟨_, List.getElem?_eq_getElem hlt⟩
      obtain ⟨ad, rfl, hc1⟩ := HC.out k (.int .i64 y) (by simp [hy])
      have hcell := cell_below b2 (World.block_lt_of_cell? w _ hc1) hc1
      have hyb := HNS.out y (List.mem_of_getElem? hy)
      have hil := Lib.itoa_length_le y hyb.1 hyb.2
      have htl : (numsB (ns.take k)).length ≤ 22 * k := by
        have := numsB_len (ns.take k) (fun n hn => HNS.out n (List.mem_of_mem_take hn))
        have h2 : (ns.take k).length ≤ k := List.length_take_le _ _
        omega
      have hts : ns.take (k + 1) = ns.take k ++ [y] := by rw [List.take_add_one, hy]; rfl
      have HY := Lib.hid hy
      have HTS := Lib.hid hts
      clear hy hts hc1
      go_wp2_with (first
        | (go_at_call 94; refine (appendInt_c O2.out b2.size (by simp; omega) y hyb.1 hyb.2 (HG.out.below HG.out.sz b2) HG.out.sz).mono ?_; rintro e w3 ⟨v3, rfl, o3, b3⟩; have O3 := Lib.hid o3; clear o3)
        | (at_builtin; refine app_b (w0 := w) (base := w.heap.size) (l := l ++ numsB (ns.take k) ++ Lib.itoa y) (m := [59]) rfl (.tmp 18) (.tmp 19) rfl rfl rfl (O3.out.alloc _) (rb_one _ 59) ((b2.trans b3).alloc (b2.trans b3).size _) (by have := (b2.trans b3).size; simp; omega) (by simp; omega) ?_; intro v4 w4 o4 b4 _ _; have O4 := Lib.hid o4; clear o4))
      go_roundw
      case rel => exact ⟨k + 1, by omega, by go_num, by have := O4.out; refine Lib.hid ?_; rw [HTS.out, numsB_snoc]; unfold numB; simpa using this, b4⟩
      case measure => simp [intOf]; omega
    · go_wp2
      go_ret
      refine ⟨_, rfl, ?_, b2⟩
      have := O2.out
      rwa [List.take_of_length_le (by omega)] at this
end Go.Proofs.YtcehkaombanhaaaGreatDoor
