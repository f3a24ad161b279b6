/- Rows of the call's own that are written cell by cell. -/
import Derived.Test.YtndklgbjpdlegaaDoorCordK
namespace Go.Proofs.YtndklgbjpdlegaaDoor
open Go Go.RowKit
set_option linter.unusedSimpArgs false
set_option linter.unusedVariables false

/-- Block g holds n cells and more, none frozen. -/
def WB (w : World) (g n : Nat) : Prop := ∃ cur e, w.heap[g]? = some (.cells cur e) ∧ n ≤ cur.size

theorem wb_cell {w : World} {g n j : Nat} (h : WB w g n) (hj : j < n) : ∃ u, w.cell? ⟨g, j, none⟩ = some u := by
  obtain ⟨cur, e, h1, h2⟩ := h
  exact ⟨cur[j]'(by omega), by simp [World.cell?, h1]⟩
theorem wb_frozen {w : World} {g n : Nat} (h : WB w g n) (j : Nat) : w.frozen? ⟨g, j, none⟩ = false := by
  obtain ⟨cur, e, h1, h2⟩ := h
  simp [World.frozen?, h1]
theorem wb_set {w : World} {g n : Nat} (h : WB w g n) (j : Nat) (u : Value) : WB (w.setCell ⟨g, j, none⟩ u) g n := by
  obtain ⟨cur, e, h1, h2⟩ := h
  exact ⟨cur.setIfInBounds j u, e, by simp [World.setCell, Array.getElem?_modify, h1], by simpa using h2⟩
theorem wb_grown {w w1 : World} {g n g' : Nat} (h : WB w g n) (hg : w.grownBy w1 (some g')) (hne : g' ≠ g) : WB w1 g n := by
  obtain ⟨cur, e, h1, h2⟩ := h
  exact ⟨cur, e, (hg.block g (Array.getElem?_eq_some_iff.1 h1).1 (fun e => hne (Option.some.inj e).symm)).trans h1, h2⟩

theorem wb_below {w w1 : World} {g n : Nat} (h : WB w g n) (hb : Below w.heap.size w w1) : WB w1 g n := by
  obtain ⟨cur, e, h1, h2⟩ := h
  exact ⟨cur, e, (hb.block g (Array.getElem?_eq_some_iff.1 h1).1).trans h1, h2⟩

theorem wb_own {w : World} {base N : Nat} {v : Value} {l : List UInt8} (h : OB w base v l) :
    ∃ A cap g, v = .slice A l.length cap ∧ l.length ≤ cap ∧ (0 < l.length → A = some ⟨g, 0, none⟩ ∧ WB w g l.length) ∧ ((base ≤ g ∧ g < w.heap.size) ∨ (g = N ∧ l = [])) := by
  obtain ⟨h1, h2⟩ := h
  rcases h2 with ⟨rfl, hl⟩ | ⟨g, cap, cur, rfl, hb, hh, hn, hc, hs, ht⟩
  · exact ⟨none, 0, N, by rw [hl], by omega, by omega, .inr ⟨rfl, List.eq_nil_of_length_eq_zero hl⟩⟩
  · exact ⟨_, cap, g, rfl, hn, fun _ => ⟨rfl, cur, _, hh, by omega⟩, .inl ⟨hb, (Array.getElem?_eq_some_iff.1 hh).1⟩⟩

theorem own_lt {w : World} {base e size n : Nat} {v : Value} {xs : List Value} (h : w.ownsRow base e size v n xs) (k : Nat) (hk : v.ownBlock = some k) : k < w.heap.size := by
  rcases h.2 with ⟨rfl, _⟩ | ⟨g, cap, cur, rfl, hb, hh, _⟩
  · simp [Value.ownBlock] at hk
  · have : g = k := by simpa [Value.ownBlock] using hk
    subst this
    exact (Array.getElem?_eq_some_iff.1 hh).1

/-- A row of the call's own that other writings leave: its block lies between two sizes. -/
theorem rb_kept {w w1 w2 : World} {base g : Nat} {v : Value} {l : List UInt8} (h : OB w base v l) (hw : Below w.heap.size w w1) (hg : w1.grownBy w2 (some g)) (hne : g < base ∨ w.heap.size ≤ g) : OB w2 base v l := by
  refine own_other (own_below h hw) hg (fun k hk he => ?_)
  injection he with he
  have := own_base h k hk
  have := own_lt h k hk
  omega
end Go.Proofs.YtndklgbjpdlegaaDoor
