/- Layer 18: a line, a command, a header's text: the walks. -/
import Derived.Test.YtfpdmgmolhddnaaDoorSfA
import Derived.Lib.IndexMore
namespace Go.Proofs.YtfpdmgmolhddnaaDoor
open Go Go.RowKit Go.Sort
open Go.ChangeShapes Go.WideShapes Go.Deep
set_option linter.unusedSimpArgs false
set_option linter.unusedVariables false

/-- internal/bytealg.MaxLen holds an int. -/
def GM (w : World) : Prop := ∃ m : Int, w.cell? ⟨0, 0, none⟩ = some (.int .i64 m)
theorem GM.below {w w1 : World} (h : GM w) (b : Below w.heap.size w w1) : GM w1 := by
  obtain ⟨m, h⟩ := h
  exact ⟨m, cell_below b (World.block_lt_of_cell? w _ h) h⟩
theorem idx1_cons (c b : UInt8) (l : List UInt8) : Lib.index (b :: l) [c] = if b = c then 0 else if Lib.index l [c] = -1 then -1 else Lib.index l [c] + 1 := by
  have e : Lib.index (b :: l) [c] = if [c].isPrefixOf (b :: l) then 0 else if Lib.index l [c] == -1 then -1 else Lib.index l [c] + 1 := rfl
  rw [e]
  by_cases hb : b = c
  · subst hb; simp
  · have : ([c] : List UInt8).isPrefixOf (b :: l) = false := by simp [List.isPrefixOf]; exact fun h => hb h.symm
    rw [this, if_neg hb]
    simp only [Bool.false_eq_true, if_false, beq_iff_eq]
theorem cut_idx (c : UInt8) : ∀ l : List UInt8, (cutP c l = none ∧ Lib.index l [c] = -1) ∨ (∃ (i : Nat), i < l.length ∧ Lib.index l [c] = i ∧ cutP c l = some (l.take i, l.drop (i + 1)))
  | [] => .inl ⟨rfl, rfl⟩
  | b :: l => by
    have h := idx1_cons c b l
    by_cases hb : b = c
    · rw [if_pos hb] at h
      refine .inr ⟨0, by simp, h, ?_⟩
      unfold cutP
      rw [if_pos hb]; simp
    · rw [if_neg hb] at h
      rcases cut_idx c l with ⟨h1, h2⟩ | ⟨i, h1, h2, h3⟩
      · rw [if_pos h2] at h
        refine .inl ⟨?_, h⟩
        unfold cutP
        rw [if_neg hb, h1]
      · rw [if_neg (by omega), h2] at h
        refine .inr ⟨i + 1, by simp; omega, by rw [h]; rfl, ?_⟩
        unfold cutP
        rw [if_neg hb, h3]; simp
theorem libcut_none {c : UInt8} {l : List UInt8} (h : cutP c l = none) : Lib.cut l [c] = (l, [], false) := by
  rcases cut_idx c l with ⟨_, h2⟩ | ⟨i, _, _, h3⟩
  · unfold Lib.cut; rw [if_neg (by omega)]
  · rw [h3] at h; cases h
theorem libcut_some {c : UInt8} {l a r : List UInt8} (h : cutP c l = some (a, r)) : Lib.cut l [c] = (a, r, true) := by
  rcases cut_idx c l with ⟨h1, _⟩ | ⟨i, h1, h2, h3⟩
  · rw [h1] at h; cases h
  · rw [h3] at h
    injection h with h; injection h with h4 h5
    unfold Lib.cut
    rw [if_pos (by omega), h2, ← h4, ← h5]
    simp
theorem trim_cr (l : List UInt8) : Lib.trimSuffix l [13] = trimCR l := by
  unfold Lib.trimSuffix Lib.hasSuffix trimCR
  have e : ([13] : List UInt8).isSuffixOf l = decide (l.getLast? = some 13) := by
    unfold List.isSuffixOf
    have h2 : l.getLast? = l.reverse.head? := by rw [List.head?_reverse]
    rw [h2]
    cases l.reverse with
    | nil => rfl
    | cons a t =>
      by_cases ha : a = 13
      · subst ha; simp [List.isPrefixOf]
      · have : (13 : UInt8) ≠ a := fun e => ha e.symm
        simp [List.isPrefixOf, ha, this]
  rw [e]
  by_cases h : l.getLast? = some 13
  · rw [decide_eq_true h, if_pos rfl, if_pos h, List.dropLast_eq_take]; rfl
  · rw [decide_eq_false h, if_neg (by decide), if_neg h]
theorem trimCR_len (l : List UInt8) : (trimCR l).length ≤ l.length := by
  unfold trimCR
  split
  · rw [List.length_dropLast]; omega
  · exact Nat.le_refl _

theorem below_drewN' (w : World) (n : Nat) : Below w.heap.size w (w.drewN n) := below_drewN w n
set_option maxRecDepth 100000 in
theorem line_no {w : World} (s : ByteArray) (hs : s.size < 4294967281) (hg : GM w) (h : cutP 10 s.data.toList = none) :
    Calls Tryd.prog 19 #[.string s] w fun e w' => e = .returned (.tuple #[.string ⟨(trimCR s.data.toList).toArray⟩, .string ⟨#[]⟩, .bool false]) ∧ Below w.heap.size w w' := by
  obtain ⟨m, hm⟩ := hg
  have hc := Tryd.strings_Cut s ⟨#[10]⟩ m w hs hm
  rw [show (⟨#[10]⟩ : ByteArray).data.toList = [10] from rfl, libcut_none h, ba_self] at hc
  have HC := Lib.hid hc
  have HT := Lib.hid (fun w1 : World => Tryd.strings_TrimSuffix s ⟨#[13]⟩ w1 (by omega))
  clear hc h hm
  go_enter Tryd.func19, Tryd.ntmps19
  go_wp2_with fail
  refine (HC.out).mono ?_
  rintro e w1 ⟨rfl, n, rfl⟩
  go_wp2_with fail
  refine (HT.out _).mono ?_
  rintro e w2 ⟨rfl, rfl⟩
  rw [trim_cr]
  go_wp2_with fail
  go_ret3
  exact ⟨rfl, below_drewN _ _⟩
set_option maxRecDepth 100000 in
theorem line_yes {w : World} (s : ByteArray) (hs : s.size < 4294967281) (hg : GM w) {a r : List UInt8} (h : cutP 10 s.data.toList = some (a, r)) :
    Calls Tryd.prog 19 #[.string s] w fun e w' => e = .returned (.tuple #[.string ⟨(trimCR a).toArray⟩, .string ⟨r.toArray⟩, .bool true]) ∧ Below w.heap.size w w' := by
  obtain ⟨m, hm⟩ := hg
  have hc := Tryd.strings_Cut s ⟨#[10]⟩ m w hs hm
  rw [show (⟨#[10]⟩ : ByteArray).data.toList = [10] from rfl, libcut_some h] at hc
  have HC := Lib.hid hc
  have hl : a.length ≤ s.size := by have h2 := congrArg List.length (cut_len h); rw [List.length_append, ba_size] at h2; omega
  have hT : ∀ w1 : World, Calls Tryd.prog 27 #[.string ⟨a.toArray⟩, .string ⟨#[13]⟩] w1 fun e w' => e = .returned (.string ⟨(trimCR a).toArray⟩) ∧ w' = w1 := fun w1 => by
    have h2 := Tryd.strings_TrimSuffix ⟨a.toArray⟩ ⟨#[13]⟩ w1 (by show a.toArray.size ≤ _; simp; omega)
    rw [show (⟨a.toArray⟩ : ByteArray).data.toList = a by simp, show (⟨#[13]⟩ : ByteArray).data.toList = [13] from rfl, trim_cr] at h2
    exact h2
  have HT := Lib.hid hT
  clear hc h hm hT hl
  go_enter Tryd.func19, Tryd.ntmps19
  go_wp2_with fail
  refine (HC.out).mono ?_
  rintro e w1 ⟨rfl, n, rfl⟩
  go_wp2_with fail
  refine (HT.out _).mono ?_
  rintro e w2 ⟨rfl, rfl⟩
  go_wp2_with fail
  go_ret3
  exact ⟨rfl, below_drewN _ _⟩

/-! ### a command -/
def capsB : ByteArray := ⟨#[65, 66, 67, 68, 69, 70, 71, 72, 73, 74, 75, 76, 77, 78, 79, 80, 81, 82, 83, 84, 85, 86, 87, 88, 89, 90]⟩
def comB (s : ByteArray) : Bool := decide (0 < s.size) && decide (s.size ≤ 16) && (Lib.trimS s.data.toList capsB.data.toList).isEmpty
theorem trimCaps_c {w : World} (s : ByteArray) (hs : s.size ≤ 140737488351232) :
    Calls Tryd.prog 28 #[.string s, .string capsB] w fun e w' => e = .returned (.string ⟨(Lib.trimS s.data.toList capsB.data.toList).toArray⟩) ∧ Below w.heap.size w w' :=
  Any.strings_Trim_laid Tryd.lays160 (by kernel_rfl) s capsB w (by omega) (by decide) (ascii_of_all (by decide))
set_option maxRecDepth 100000 in
theorem com_c {w : World} (s : ByteArray) (hs : s.size ≤ 140737488351232) :
    Calls Tryd.prog 20 #[.string s] w fun e w' => e = .returned (.bool (comB s)) ∧ Below w.heap.size w w' := by
  by_cases h0 : 0 < s.size
  · have hE := ne_nil s h0
    by_cases h1 : (16 : Int) < s.size
    · have hn : comB s = false := by unfold comB; rw [decide_eq_false (show ¬ s.size ≤ 16 by omega)]; simp
      rw [hn]
      clear hn h0
      go_enter Tryd.func20, Tryd.ntmps20
      go_wp2_with fail
      go_ret
      exact ⟨rfl, Below.refl _ _⟩
    · have h1' : (s.size : Int) ≤ 16 := by omega
      have hn : comB s = (Lib.trimS s.data.toList capsB.data.toList).isEmpty := by unfold comB; rw [decide_eq_true h0, decide_eq_true (show s.size ≤ 16 by omega)]; rfl
      have HT := Lib.hid (trimCaps_c (w := w) s hs)
      obtain ⟨y, hy⟩ : ∃ y, y = Lib.trimS s.data.toList capsB.data.toList := ⟨_, rfl⟩
      rw [← hy] at hn HT
      rw [hn]
      clear hn h0 h1 hy
      cases y with
      | nil =>
        go_enter Tryd.func20, Tryd.ntmps20
        go_wp2_with fail
        refine (HT.out).mono ?_
        rintro e w1 ⟨rfl, b1⟩
        go_wp2_with fail
        go_ret
        exact ⟨rfl, b1⟩
      | cons a r =>
        obtain ⟨z, hz⟩ : ∃ z : ByteArray, z = ⟨(a :: r).toArray⟩ := ⟨_, rfl⟩
        have hzE : z.toList.isEmpty = false := by rw [ByteArray.toList_eq, hz]; rfl
        rw [← hz] at HT
        clear hz
        go_enter Tryd.func20, Tryd.ntmps20
        go_wp2_with fail
        refine (HT.out).mono ?_
        rintro e w1 ⟨rfl, b1⟩
        go_wp2_with fail
        go_ret
        exact ⟨rfl, b1⟩
  · obtain rfl := ba_nil (s := s) (by omega)
    go_enter Tryd.func20, Tryd.ntmps20
    go_wp2_with fail
    go_ret
    exact ⟨rfl, Below.refl _ _⟩
end Go.Proofs.YtfpdmgmolhddnaaDoor
