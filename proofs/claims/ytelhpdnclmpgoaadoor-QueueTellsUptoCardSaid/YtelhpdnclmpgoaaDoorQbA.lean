/- Layer 8: topics: the words of a text (plain law), and topic.Good. -/
import Derived.Test.YtelhpdnclmpgoaaDoorTbC
import Derived.Test.YtelhpdnclmpgoaaDoorRfC
namespace Go.Proofs.YtelhpdnclmpgoaaDoor
open Go Go.RowKit
set_option linter.unusedSimpArgs false
set_option linter.unusedVariables false

/-- A text's words. -/
def wordsP : List UInt8 → List (List UInt8)
  | [] => [[]]
  | c :: r => if c = 46 then [] :: wordsP r else match wordsP r with
    | [] => [[c]]
    | x :: xs => (c :: x) :: xs
theorem words_ne : ∀ l : List UInt8, wordsP l ≠ []
  | [] => by simp [wordsP]
  | c :: r => by
    unfold wordsP
    split
    · simp
    · split <;> simp
theorem idx_cons (b : UInt8) (l : List UInt8) : Lib.index (b :: l) [46] = if b = 46 then 0 else if Lib.index l [46] = -1 then -1 else Lib.index l [46] + 1 := by
  have e : Lib.index (b :: l) [46] = if [46].isPrefixOf (b :: l) then 0 else if Lib.index l [46] == -1 then -1 else Lib.index l [46] + 1 := rfl
  rw [e]
  by_cases hb : b = 46
  · subst hb; simp
  · have : ([46] : List UInt8).isPrefixOf (b :: l) = false := by simp [List.isPrefixOf]; exact fun h => hb h.symm
    rw [this, if_neg hb]
    simp only [Bool.false_eq_true, if_false, beq_iff_eq]
theorem words_miss : ∀ l : List UInt8, Lib.index l [46] = -1 → wordsP l = [l]
  | [], _ => rfl
  | b :: l, h => by
    rw [idx_cons] at h
    split at h
    · omega
    · rename_i hb
      split at h
      · rename_i hl
        unfold wordsP
        rw [if_neg hb, words_miss l hl]
      · have := Lib.index_ge l [46]
        omega
theorem words_hit : ∀ (l : List UInt8) (i : Nat), Lib.index l [46] = i → wordsP l = l.take i :: wordsP (l.drop (i + 1))
  | [], i, h => by simp [Lib.index] at h
  | b :: l, i, h => by
    rw [idx_cons] at h
    split at h
    · rename_i hb
      obtain rfl : i = 0 := by omega
      conv => lhs; unfold wordsP
      rw [if_pos hb]
      simp
    · rename_i hb
      split at h
      · omega
      · have hg := Lib.index_ge l [46]
        obtain ⟨j, rfl⟩ : ∃ j, i = j + 1 := ⟨i - 1, by omega⟩
        have := words_hit l j (by omega)
        conv => lhs; unfold wordsP
        rw [if_neg hb, this]
        simp
theorem split_words : ∀ (k : Nat) (l : List UInt8), l.length ≤ k → Lib.splitK [46] 0 (Lib.count l [46]) l = wordsP l := by
  intro k
  induction k with
  | zero =>
    intro l h
    have : l = [] := List.eq_nil_of_length_eq_zero (by omega)
    subst this
    rfl
  | succ k ih =>
    intro l h
    by_cases hm : Lib.index l [46] = -1
    · rw [Lib.count_miss hm, words_miss l hm]
      rfl
    · have hg := Lib.index_ge l [46]
      obtain ⟨i, hi⟩ : ∃ i : Nat, Lib.index l [46] = i := ⟨(Lib.index l [46]).toNat, by omega⟩
      rw [Lib.count_hit (by simp) hi, words_hit l i hi, Nat.add_comm 1]
      have hm' : ¬ (Lib.index l [46] == -1) = true := fun e => hm (beq_iff_eq.1 e)
      have e : (Lib.index l [46]).toNat = i := by omega
      conv => lhs; unfold Lib.splitK
      rw [if_neg hm', e]
      simp only [List.length_singleton, Nat.add_zero]
      rw [ih _ (by
        rw [List.length_drop]
        cases l with
        | nil => simp [Lib.index] at hi
        | cons b l => simp only [List.length_cons] at h ⊢; omega)]
theorem words_size : ∀ (l x : List UInt8), x ∈ wordsP l → x.length ≤ l.length
  | [], x, h => by simp [wordsP] at h; subst h; simp
  | c :: r, x, h => by
    unfold wordsP at h
    split at h
    · rcases List.mem_cons.1 h with rfl | h
      · simp
      · have := words_size r x h; simp only [List.length_cons]; omega
    · split at h
      · rename_i hw; exact absurd hw (words_ne r)
      · rename_i y ys hw
        rcases List.mem_cons.1 h with rfl | h
        · have := words_size r y (by rw [hw]; exact List.mem_cons_self ..); simp only [List.length_cons]; omega
        · have := words_size r x (by rw [hw]; exact List.mem_cons_of_mem _ h); simp only [List.length_cons]; omega

def dotB : ByteArray := ⟨#[46]⟩
/-- A text's words, as texts. -/
def wordsB (s : ByteArray) : List ByteArray := (wordsP s.data.toList).map fun l => ⟨l.toArray⟩
theorem split_wordsB (s : ByteArray) : Lib.splitB dotB 0 (Lib.countB s dotB) s = wordsB s := by
  have h := Lib.splitB_data dotB 0 (Lib.countB s dotB) s
  rw [show dotB.data.toList = [46] from rfl, show Lib.countB s dotB = Lib.count s.data.toList [46] from rfl, split_words _ _ (Nat.le_refl _)] at h
  unfold wordsB
  rw [← h, List.map_map, show Lib.countB s dotB = Lib.count s.data.toList [46] from rfl]
  conv => lhs; rw [← List.map_id (Lib.splitB dotB 0 (Lib.count s.data.toList [46]) s)]
  refine List.map_congr_left fun a _ => ?_
  exact ba_ext (by simp)
theorem wordsB_size {s x : ByteArray} (h : x ∈ wordsB s) : x.size ≤ s.size := by
  obtain ⟨l, hl, rfl⟩ := List.mem_map.1 h
  have := words_size _ _ hl
  rw [← ba_size s]
  show l.toArray.size ≤ _
  simpa using this
theorem count_words (s : ByteArray) : Lib.countB s dotB + 1 = (wordsB s).length := by
  rw [← split_wordsB, Lib.splitB_all dotB (by decide) 0 _ s rfl]
/-- Is a text a topic? -/
def topicB (s : ByteArray) : Bool := decide (s.size ≤ 64) && decide ((wordsB s).length ≤ 8) && (wordsB s).all nameB

theorem split_c {w : World} (s : ByteArray) (hs : s.size ≤ 1048576) {m : Int} (hm : w.cell? ⟨3, 0, none⟩ = some (.int .i64 m)) :
    Calls Tryd.prog 48 #[.string s, .string dotB] w fun e w' => ∃ v, e = .returned v ∧ RC w' v (wordsB s).length 1 ((wordsB s).map Value.string) ∧ Below w.heap.size w w' := by
  have h := Tryd.strings_Split s dotB m w (by omega) hm (by decide)
  refine h.mono ?_
  rintro e w' ⟨rfl, rfl⟩
  rw [split_wordsB, count_words]
  have hl : (wordsB s).length ≤ 9223372036854775807 := by
    rw [← count_words]
    have := Lib.count_le s.data.toList [46]
    have hz := ba_size s
    have : Lib.countB s dotB ≤ s.data.toList.length + 1 := this
    omega
  exact ⟨_, rfl, rc_new w _ _ 1 _ (by simp) hl, (Below.refl _ _).alloc (Nat.le_refl _) _⟩
end Go.Proofs.YtelhpdnclmpgoaaDoor
