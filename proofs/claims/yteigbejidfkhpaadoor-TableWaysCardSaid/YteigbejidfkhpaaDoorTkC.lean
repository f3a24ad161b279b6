/- Layer 15: rows of properties that a call has made; a table's words. -/
import Derived.Test.YteigbejidfkhpaaDoorTkB
import Derived.Test.YteigbejidfkhpaaDoorSoF
import Derived.Test.YteigbejidfkhpaaDoorOpen2
namespace Go.Proofs.YteigbejidfkhpaaDoor
open Go Go.Proofs Go.RowKit Go.Sort Go.Shelf
set_option linter.unusedSimpArgs false
set_option linter.unusedVariables false

/-- v is a row of properties in a block of the call's own, from block B on. -/
def OwnP (w : World) (B : Nat) (v : Value) (ps : List Prp) : Prop :=
  (v = .slice none 0 0 ∧ ps = []) ∨ ∃ g cap, v = .slice (some ⟨g, 0, none⟩) ps.length cap ∧ B ≤ g ∧ g < w.heap.size ∧ ps.length ≤ cap ∧ cap ≤ 9223372036854775807 ∧ HoldsK Prp.cells 5 w g 0 ps.toArray

theorem cells_len (p : Prp) : (Prp.cells p).length = 5 := rfl
theorem flatK_at (ps : List Prp) (j : Nat) (u : Value) (h : (ps.flatMap Prp.cells)[j]? = some u) : j < (flatK Prp.cells 5 ps.toArray).size ∧ (flatK Prp.cells 5 ps.toArray)[j]! = u := by
  have hl := flat_len Prp.cells 5 cells_len ps
  have hj : j < ps.length * 5 := by rw [← hl]; exact (List.getElem?_eq_some_iff.1 h).1
  refine ⟨by rw [size_flatK]; simpa using hj, ?_⟩
  rw [get_flatK _ _ _ _ (by simpa using hj)]
  rw [flat_get Prp.cells 5 (by omega) cells_len] at h
  obtain ⟨p, hp, hu⟩ := Option.bind_eq_some_iff.1 h
  have e1 : ps.toArray[j / 5]! = p := by
    rw [getElem!_def]
    simp [hp]
  rw [e1, getElem!_def, hu]
theorem holdsK_rc {w : World} {g cap : Nat} {ps : List Prp} (h : HoldsK Prp.cells 5 w g 0 ps.toArray) (h1 : ps.length ≤ cap) (h2 : cap ≤ 9223372036854775807) : RPr w (.slice (some ⟨g, 0, none⟩) ps.length cap) ps := by
  refine ⟨_, cap, rfl, h1, h2, flat_len Prp.cells 5 cells_len ps, (fun h => by cases h), fun j u hu => ⟨_, rfl, ?_⟩⟩
  obtain ⟨a, b⟩ := flatK_at ps j u hu
  have hc := (h j a).1
  rw [b] at hc
  rw [add_plain]
  rw [Nat.zero_add] at hc
  exact hc
theorem ownP_rpr {w : World} {B : Nat} {v : Value} {ps : List Prp} (h : OwnP w B v ps) : RPr w v ps := by
  rcases h with ⟨rfl, rfl⟩ | ⟨g, cap, rfl, _, _, h1, h2, h3⟩
  · exact own_rc (own_nil w 0 48 5)
  · exact holdsK_rc h3 h1 h2
theorem ownP_below {w w1 : World} {B : Nat} {v : Value} {ps : List Prp} (h : OwnP w B v ps) (b : Go.RowKit.Below w.heap.size w w1) : OwnP w1 B v ps := by
  rcases h with h | ⟨g, cap, rfl, h0, h4, h1, h2, h3⟩
  · exact .inl h
  · refine .inr ⟨g, cap, rfl, h0, Nat.lt_of_lt_of_le h4 b.size, h1, h2, fun j hj => ?_⟩
    obtain ⟨a, c⟩ := h3 j hj
    exact ⟨(b.cell (p := ⟨g, 0 + j, none⟩) h4).trans a, (b.frozen (p := ⟨g, 0 + j, none⟩) h4).trans c⟩
theorem own_holdsK {w : World} {B g n cap : Nat} {ps : List Prp} (h : w.ownsRow B 48 5 (.slice (some ⟨g, 0, none⟩) n cap) n (ps.flatMap Prp.cells)) : HoldsK Prp.cells 5 w g 0 ps.toArray ∧ B ≤ g ∧ g < w.heap.size ∧ ps.length = n ∧ n ≤ cap ∧ cap ≤ 9223372036854775807 := by
  have hl := h.1
  rw [flat_len Prp.cells 5 cells_len] at hl
  have hn : ps.length = n := by omega
  have hcell := fun j u hu => h.cells (g := g) rfl j u hu
  rcases h.2 with ⟨h0, _⟩ | ⟨g', cap', cur, he, hb, hh, h1, h2, h3, h4⟩
  · cases h0
  · injection he with e1 e2 e3
    injection e1 with e1
    injection e1 with e1
    subst e1 e3
    refine ⟨fun j hj => ?_, hb, (Array.getElem?_eq_some_iff.1 hh).1, hn, h1, by simpa [maxLen] using h2⟩
    rw [size_flatK] at hj
    have hj' : j < (ps.flatMap Prp.cells).length := by rw [flat_len Prp.cells 5 cells_len]; simpa using hj
    obtain ⟨_, b⟩ := flatK_at ps j _ (List.getElem?_eq_getElem hj')
    rw [b, Nat.zero_add]
    refine ⟨by have hc := hcell j _ (List.getElem?_eq_getElem hj'); rw [add_plain] at hc; exact hc, ?_⟩
    simp [World.frozen?, hh]
theorem rowK_of {w : World} {g : Nat} {ps : List Prp} (h : HoldsK Prp.cells 5 w g 0 ps.toArray) (hg : g < w.heap.size) : RowK Prp.cells 5 w g 0 ps.toArray :=
  ⟨cells_len, fun p v hv => by
    simp only [Prp.cells, List.mem_cons, List.not_mem_nil, or_false] at hv
    rcases hv with rfl | rfl | rfl | rfl | rfl <;> rfl, h, hg⟩
theorem swk_below {w w1 : World} {g : Nat} {dk : Array Prp} (h : SWK Prp.cells 5 w g 0 dk w1) {B : Nat} (hB : B ≤ g) (hs : B ≤ w.heap.size) : Go.RowKit.Below B w w1 := by
  obtain ⟨n, os, rfl⟩ := h
  refine ⟨rfl, rfl, rfl, size_sortWorldK_c Prp.cells 5 w g 0 n dk os, fun i hi => ?_⟩
  have hi2 : i < w.heap.size := by omega
  have hne : ¬ g = i := by omega
  simp [sortWorldK, grow, putRowK, putRow, mapBlock, Sort.ahead, Array.getElem?_append, Array.getElem?_modify, hi2, hne]
  rw [Array.getElem_modify_of_ne hne]
/-- Properties in the order of their names, as the insertion sort leaves them. -/
def sortP (l : List Prp) : List Prp := (Sort.insertionSort (ltOf cfP) l.toArray 0 l.length).toList
theorem sortP_perm (l : List Prp) : (sortP l).Perm l := by
  have h := (insertionSort_holds ltP_swo l.toArray 0 l.length (Nat.zero_le _) (by simp)).1
  unfold sortP
  generalize Sort.insertionSort (ltOf cfP) l.toArray 0 l.length = D at h ⊢
  have h1 := h.1
  have h2 := h.2.2
  have hs : l.toArray.size = l.length := by simp
  have e1 : D.extract 0 l.length = D := by rw [← hs, ← h1]; simp
  have e2 : l.toArray.extract 0 l.length = l.toArray := by rw [← hs]; simp
  rw [e1, e2] at h2
  exact h2.trans (by simp)
def SortPost (w : World) (B : Nat) (v : Value) (ps : List Prp) (e : Ending) (w' : World) : Prop :=
  e = .returned (.tuple #[]) ∧ ∃ qs : List Prp, OwnP w' B v qs ∧ qs.Perm ps ∧ (ps.length < 20 → qs = sortP ps) ∧ Go.RowKit.Below B w w'
theorem sortOwn_c {w : World} {B : Nat} {v : Value} {ps : List Prp} (hB : B ≤ w.heap.size) (h : OwnP w B v ps) (hsz : ps.length < 1152921504606846976) :
    Calls Tryd.prog 61 #[v, .func (.func 62) #[] #[]] w (SortPost w B v ps) := by
  rcases h with ⟨rfl, rfl⟩ | ⟨g, cap, rfl, h0, h4, h1, h2, h3⟩
  · refine sortStable_nil.mono ?_
    rintro e w' ⟨rfl, rfl⟩
    exact ⟨rfl, [], .inl ⟨rfl, rfl⟩, List.Perm.refl _, fun _ => (List.eq_nil_of_length_eq_zero (sortP_perm []).length_eq).symm, Go.RowKit.Below.refl _ _⟩
  · have R := rowK_of h3 h4
    have hc := sortStable_c (cap := cap) R (by simpa using hsz)
    have hsz' : ps.toArray.size = ps.length := by simp
    rw [hsz'] at hc
    refine hc.mono ?_
    rintro e w' ⟨rfl, dk, hd, hp, hx, hS⟩
    have hl : dk.toList.length = ps.length := by rw [Array.length_toList, hd, hsz']
    refine ⟨rfl, dk.toList, .inr ⟨g, cap, by rw [hl], h0, Nat.lt_of_lt_of_le h4 hS.le, by omega, h2, ?_⟩, ?_, fun hl20 => ?_, swk_below hS h0 hB⟩
    · have := hS.holds R.hblk R.hH hd
      simpa using this
    · have := hp.2.2
      rw [hsz'] at this
      have e1 : dk.extract 0 ps.length = dk := by rw [← hsz', ← hd]; simp
      have e2 : ps.toArray.extract 0 ps.length = ps.toArray := by rw [← hsz']; simp
      rw [e1, e2] at this
      simpa using this
    · rw [hx (by rw [hsz']; exact hl20), hsz']
      rfl

/-- Another block's writes, and a block of another kind. -/
theorem own_lt {w : World} {B e s n : Nat} {v : Value} {xs : List Value} (h : w.ownsRow B e s v n xs) {k : Nat} (hk : v.ownBlock = some k) : k < w.heap.size := by
  rcases h.2 with ⟨rfl, _⟩ | ⟨g, cap, cur, rfl, _, hg, _⟩
  · cases hk
  · injection hk with hk
    have e' : g = k := hk
    subst e'
    exact (Array.getElem?_eq_some_iff.1 hg).1
theorem own_ne {w : World} {B e s n b t : Nat} {v : Value} {xs : List Value} {cs : Array Value} {fr : Nat × Nat} (h : w.ownsRow B e s v n xs) (hb : w.heap[b]? = some (.cells cs t fr)) (ht : t ≠ e) : v.ownBlock ≠ some b := by
  intro e'
  rcases h.2 with ⟨rfl, _⟩ | ⟨g, cap, cur, rfl, _, hg, _⟩
  · cases e'
  · injection e' with e'
    have e2 : g = b := e'
    subst e2
    rw [hb] at hg
    injection hg with hg
    injection hg with _ h2 _
    exact ht h2
theorem info_prop : (Tryd.prog.info? 48).map (fun i => (i.zero, i.size, i.bytes)) = some (some (.agg #[.string ByteArray.empty, .int .i64 0, .int .i64 0, .string ByteArray.empty, .float .f64 0]), 5, 56) := by kernel_rfl
theorem cells_one (l : List Prp) : ∀ y ∈ l.flatMap Prp.cells, y.oneCell' = true := by
  intro y hy
  obtain ⟨p, _, hv⟩ := List.mem_flatMap.1 hy
  simp only [Prp.cells, List.mem_cons, List.not_mem_nil, or_false] at hv
  rcases hv with rfl | rfl | rfl | rfl | rfl <;> rfl

/-- A table: its items, in the order of their names. -/
def itemP (s : ByteArray) : Option (Prp × ByteArray) := (shortP s).bind fun p => (valP p.2).map fun q => (⟨p.1, q.1.k, q.1.n, q.1.t, q.1.r⟩, q.2)
def itemsP : Nat → ByteArray → Option (List Prp)
  | 0, s => if s.size = 0 then some [] else none
  | f + 1, s => if s.size = 0 then some [] else (itemP s).bind fun p => (itemsP f p.2).map (p.1 :: ·)
def tabP (l : List Prp) : Option (List Prp) := if l.length < 20 ∧ validB (sortP l) = true then some (sortP l) else none
def tableP (s : ByteArray) : Option (List Prp × ByteArray) := (longP s).bind fun p => ((itemsP p.1.size p.1).bind tabP).map fun l => (l, p.2)

theorem shortP_size {s x r : ByteArray} (h : shortP s = some (x, r)) : x.size ≤ 255 ∧ r.size + x.size + 1 = s.size := by
  unfold shortP at h
  obtain ⟨p, h1, h2⟩ := Option.bind_eq_some_iff.1 h
  obtain ⟨n, y⟩ := p
  have a := numP_lt h1
  have b := numP_size h1
  obtain ⟨c, d⟩ := takeP_size h2
  simp only [Nat.pow_one] at a
  dsimp only at c d
  omega
theorem longP_size {s x r : ByteArray} (h : longP s = some (x, r)) : r.size + x.size + 4 = s.size := by
  unfold longP at h
  obtain ⟨p, h1, h2⟩ := Option.bind_eq_some_iff.1 h
  obtain ⟨n, y⟩ := p
  have b := numP_size h1
  obtain ⟨c, d⟩ := takeP_size h2
  dsimp only at c d
  omega
theorem valQ_size {x r r' : ByteArray} {v : Vl} (h : valQ x r = some (v, r')) : r'.size ≤ r.size := by
  unfold valQ at h
  have key : ∀ {k : Nat} {f : Nat → Vl} {a : ByteArray}, (numP k a).map (fun q => (f q.1, q.2)) = some (v, r') → r'.size ≤ a.size := by
    intro k f a h
    obtain ⟨q, h1, h2⟩ := Option.map_eq_some_iff.1 h
    obtain ⟨n, y⟩ := q
    injection h2 with _ h2
    have := numP_size h1
    dsimp only at h2
    rw [← h2]
    omega
  (repeat' split at h)
  · exact key (f := fun n => ⟨2, n, ByteArray.empty, 0⟩) h
  · exact key (f := fun n => ⟨1, sgn 8 n, ByteArray.empty, 0⟩) h
  · exact key (f := fun n => ⟨1, sgn 16 n, ByteArray.empty, 0⟩) h
  · exact key (f := fun n => ⟨1, sgn 32 n, ByteArray.empty, 0⟩) h
  · exact key (f := fun n => ⟨1, sgn 64 n, ByteArray.empty, 0⟩) h
  · exact key (f := fun n => ⟨4, 0, ByteArray.empty, widR n⟩) h
  · exact key (f := fun n => ⟨4, 0, ByteArray.empty, canonR n⟩) h
  · obtain ⟨q, h1, h2⟩ := Option.map_eq_some_iff.1 h
    obtain ⟨n, y⟩ := q
    injection h2 with _ h2
    have := longP_size h1
    dsimp only at h2
    rw [← h2]
    omega
  · cases h
theorem valP_size {s r : ByteArray} {v : Vl} (h : valP s = some (v, r)) : r.size + 1 ≤ s.size := by
  unfold valP at h
  obtain ⟨p, h1, h2⟩ := Option.bind_eq_some_iff.1 h
  obtain ⟨x, y⟩ := p
  have := (takeP_size h1).2
  have := valQ_size h2
  dsimp only at this
  omega
theorem itemP_size {s r : ByteArray} {p : Prp} (h : itemP s = some (p, r)) : r.size + 2 ≤ s.size ∧ p.nm.size ≤ 255 := by
  unfold itemP at h
  obtain ⟨q, h1, h2⟩ := Option.bind_eq_some_iff.1 h
  obtain ⟨x, y⟩ := q
  obtain ⟨q2, h3, h4⟩ := Option.map_eq_some_iff.1 h2
  obtain ⟨v, z⟩ := q2
  injection h4 with h4 h5
  have a := shortP_size h1
  have b := valP_size h3
  dsimp only at b h5
  subst h5 h4
  exact ⟨by omega, a.1⟩
theorem itemsP_more : ∀ (f : Nat) (s : ByteArray) (k : Nat), s.size ≤ f → itemsP (f + k) s = itemsP s.size s
  | f, s, k, h => by
    have key : ∀ (n : Nat) (s : ByteArray) (f f' : Nat), s.size ≤ n → s.size ≤ f → s.size ≤ f' → itemsP f s = itemsP f' s := by
      intro n
      induction n with
      | zero =>
        intro s f f' h1 _ _
        have h0 : s.size = 0 := by omega
        cases f <;> cases f' <;> simp [itemsP, h0]
      | succ n ih =>
        intro s f f' h1 h2 h3
        by_cases h0 : s.size = 0
        · cases f <;> cases f' <;> simp [itemsP, h0]
        · obtain ⟨f, rfl⟩ : ∃ k, f = k + 1 := ⟨f - 1, by omega⟩
          obtain ⟨f', rfl⟩ : ∃ k, f' = k + 1 := ⟨f' - 1, by omega⟩
          simp only [itemsP, if_neg h0]
          cases hi : itemP s with
          | none => rfl
          | some p =>
            obtain ⟨p, r⟩ := p
            have := (itemP_size hi).1
            simp only [Option.bind_some]
            rw [ih r f f' (by omega) (by omega) (by omega)]
    exact key s.size s _ _ (Nat.le_refl _) (by omega) (Nat.le_refl _)
theorem itemsP_nil {s : ByteArray} (h : s.size = 0) : itemsP s.size s = some [] := by
  rw [h]
  simp [itemsP, h]
theorem itemsP_step {s : ByteArray} (h : s.size ≠ 0) : itemsP s.size s = (itemP s).bind fun p => (itemsP p.2.size p.2).map (p.1 :: ·) := by
  obtain ⟨f, hf⟩ : ∃ k, s.size = k + 1 := ⟨s.size - 1, by omega⟩
  rw [hf]
  simp only [itemsP, if_neg h]
  cases hi : itemP s with
  | none => rfl
  | some p =>
    obtain ⟨p, r⟩ := p
    have := (itemP_size hi).1
    simp only [Option.bind_some]
    have e := itemsP_more r.size r (f - r.size) (Nat.le_refl _)
    rw [show r.size + (f - r.size) = f by omega] at e
    rw [e]
end Go.Proofs.YteigbejidfkhpaaDoor
