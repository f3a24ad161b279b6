/- Slices of any elements: rows of their cells. Bools; parts. -/
import Derived.Test.YtfpdmgmolhddnaaDoorOpen
import Derived.Deep.Slices
import Derived.Deep.Strs
namespace Go.Proofs.YtfpdmgmolhddnaaDoor
open Go Go.RowKit
open Go.ChangeShapes Go.WideShapes Go.Deep
set_option linter.unusedSimpArgs false
set_option linter.unusedVariables false

theorem flat_get {X V : Type} (f : X → List V) (s : Nat) (hs : 0 < s) (hf : ∀ x, (f x).length = s) : ∀ (xs : List X) (q : Nat), (xs.flatMap f)[q]? = (xs[q / s]?).bind fun x => (f x)[q % s]?
  | [], q => by simp
  | x :: r, q => by
    rw [List.flatMap_cons]
    by_cases h : q < s
    · rw [List.getElem?_append_left (by rw [hf]; exact h), Nat.div_eq_of_lt h, Nat.mod_eq_of_lt h]; rfl
    · rw [List.getElem?_append_right (by rw [hf]; omega), hf, flat_get f s hs hf r (q - s)]
      have h1 : q / s = (q - s) / s + 1 := by rw [Nat.div_eq_sub_div hs (by omega)]
      have h2 : q % s = (q - s) % s := by rw [Nat.mod_eq_sub_mod (by omega)]
      rw [h1, h2, List.getElem?_cons_succ]

theorem flat_len {X V : Type} (f : X → List V) (s : Nat) (hf : ∀ x, (f x).length = s) : ∀ (xs : List X), (xs.flatMap f).length = xs.length * s
  | [] => by simp
  | x :: r => by rw [List.flatMap_cons, List.length_append, hf, flat_len f s hf r, List.length_cons, Nat.succ_mul, Nat.add_comm]

section
variable {H : Type} {enc : TypeId × Value → H} {P : Program} {W : World} {base : Nat} {t e : TypeId} {v : Value} {d : DataW H} {ps : List MemPlace} {ts : List TypeId} {ds : List (DataW H)}
/-- A slice that came in, of elements of s cells each. -/
theorem open_row {X : Type} (f : X → List Value) (Good : X → Prop) (s : Nat) (hs : 0 < s) (hf : ∀ x, (f x).length = s) (hu : P.underlying t = some (.slice e)) (hc : P.cellsOf e = s)
    (hel : ∀ n cs y, DataW.trod enc P W 0 (fun _ => true) true n e cs = some y → cs.length = s → ∃ x, cs = f x ∧ Good x)
    (hv : Value.okWide P W .any base t v) (h : DataW.Trod enc P W 0 (fun _ => true) true t v d ps)
    (hsz : (DataW.weightsEach P ts ds).all (· ≤ reachBytes) = true) (j : Nat) (ht : ts[j]? = some t) (hd : ds[j]? = some d) :
    ∃ xs : List X, RC W v xs.length s (xs.flatMap f) ∧ (∀ x ∈ xs, Good x) ∧ xs.length * P.bytesOf e ≤ 140737488351232 := by
  obtain ⟨a, len, cap, rfl⟩ := okWide_slice hu hv
  obtain ⟨fuel, hfu⟩ := h
  rcases open_slice hu hfu with ⟨hcs, _⟩ | ⟨x, l, c, m, n, D, Pl, hcs, _, hl, hm, hmm, hx, hi⟩
  · simp [Value.cells] at hcs
    obtain ⟨rfl, rfl, rfl⟩ := hcs
    refine ⟨[], ⟨none, 0, rfl, Nat.le_refl _, by omega, by simp, fun _ => rfl, fun j u hu => ?_⟩, fun n hn => absurd hn (by simp), by simp⟩
    simp at hu
  · simp [Value.cells] at hcs
    obtain ⟨rfl, rfl, rfl⟩ := hcs
    simp only [if_true] at hmm
    subst hmm
    obtain ⟨hx, _⟩ := Prod.mk.inj hx
    subst hx
    have z := sized_slice hsz ht hd hu
    simp only [List.length_map, List.length_range] at z
    have key : ∀ i : Fin len, ∃ y, W.cells? 0 (x.add (i.1 * s)) s = some (f y) ∧ Good y := by
      intro i
      obtain ⟨cs', h1, h2⟩ := hi i.1 (by omega)
      rw [hc] at h1
      obtain ⟨y, rfl, hg⟩ := hel n cs' _ h2 (World.cells?_some h1).2.1
      exact ⟨y, h1, hg⟩
    have hlen : (List.ofFn fun i : Fin len => Classical.choose (key i)).length = len := by simp
    refine ⟨List.ofFn fun i : Fin len => Classical.choose (key i), ?_, ?_, ?_⟩
    · rw [hlen]
      refine ⟨some x, _, rfl, hl, by simpa [maxLen] using hm, by rw [flat_len f s hf, hlen], (fun h => by cases h), fun q u hq => ⟨x, rfl, ?_⟩⟩
      rw [flat_get f s hs hf] at hq
      obtain ⟨y, hy, hq⟩ := Option.bind_eq_some_iff.1 hq
      have hql : q / s < len := by
        have := (List.getElem?_eq_some_iff.1 hy).1
        rwa [hlen] at this
      have hye : y = Classical.choose (key ⟨q / s, hql⟩) := by
        rw [List.getElem?_ofFn] at hy
        simp only [hql, dite_true, Option.some.injEq] at hy
        exact hy.symm
      have hk := (Classical.choose_spec (key ⟨q / s, hql⟩)).1
      rw [← hye] at hk
      have := (World.cells?_some hk).2.2 (q % s) (Nat.mod_lt _ hs)
      rw [add_add] at this
      rw [Nat.div_add_mod' q s] at this
      rw [this]
      exact hq
    · intro y hy
      rw [List.mem_ofFn] at hy
      obtain ⟨i, rfl⟩ := hy
      exact (Classical.choose_spec (key i)).2
    · rw [hlen]
      refine Nat.le_trans (Nat.mul_le_mul_right _ ?_) z
      omega
end

/-- Element k's cells. -/
theorem row_at {X : Type} {f : X → List Value} {s : Nat} (hs : 0 < s) (hf : ∀ x, (f x).length = s) {w : World} {v : Value} {xs : List X} (h : RC w v xs.length s (xs.flatMap f)) :
    ∃ A c, v = .slice A xs.length c ∧ xs.length ≤ c ∧ ∀ k x, xs[k]? = some x → ∃ a, A = some a ∧ ∀ r u, (f x)[r]? = some u → w.cell? (a.add (k * s + r)) = some u := by
  obtain ⟨A, c, rfl, h1, h2, h3, h4, h5⟩ := h
  refine ⟨A, c, rfl, h1, fun k x hx => ?_⟩
  have hg : ∀ r u, (f x)[r]? = some u → (xs.flatMap f)[k * s + r]? = some u := by
    intro r u hr
    have hrs : r < s := by rw [← hf x]; exact (List.getElem?_eq_some_iff.1 hr).1
    rw [flat_get f s hs hf, show (k * s + r) / s = k by rw [Nat.mul_comm, Nat.mul_add_div hs, Nat.div_eq_of_lt hrs]; omega, show (k * s + r) % s = r by rw [Nat.mul_comm, Nat.mul_add_mod, Nat.mod_eq_of_lt hrs], hx]
    exact hr
  have hx0 : ∃ u, (f x)[0]? = some u := ⟨_, List.getElem?_eq_getElem (by rw [hf]; exact hs)⟩
  obtain ⟨u0, hu0⟩ := hx0
  obtain ⟨a, ha, _⟩ := h5 _ u0 (hg 0 u0 hu0)
  refine ⟨a, ha, fun r u hr => ?_⟩
  obtain ⟨a', ha', hc⟩ := h5 _ u (hg r u hr)
  rw [ha] at ha'
  injection ha' with ha'
  subst ha'
  exact hc

/-- v reads as the bools bs. -/
def boolCells (b : Bool) : List Value := [.bool b]
def RBo (w : World) (v : Value) (bs : List Bool) : Prop := RC w v bs.length 1 (bs.flatMap boolCells)
section
variable {H : Type} {enc : TypeId × Value → H} {W : World} {base : Nat} {t e : TypeId} {v : Value} {d : DataW H} {ps : List MemPlace} {ts : List TypeId} {ds : List (DataW H)}
set_option maxRecDepth 100000 in
theorem open_bools (hu : Tryd.prog.underlying t = some (.slice e)) (he : Tryd.prog.underlying e = some .bool) (hv : Value.okWide Tryd.prog W .any base t v) (h : DataW.Trod enc Tryd.prog W 0 (fun _ => true) true t v d ps) (hc : Tryd.prog.cellsOf e = 1 ∧ Tryd.prog.bytesOf e = 1)
    (hsz : (DataW.weightsEach Tryd.prog ts ds).all (· ≤ reachBytes) = true) (j : Nat) (ht : ts[j]? = some t) (hd : ds[j]? = some d) :
    ∃ bs : List Bool, RBo W v bs ∧ bs.length ≤ 140737488351232 := by
  obtain ⟨xs, h1, _, h3⟩ := open_row boolCells (fun _ => True) 1 (by omega) (fun _ => rfl) hu hc.1 (fun n cs y hy hl => by
    obtain ⟨b, rfl, _⟩ := DataW.trod_bool he hy
    exact ⟨b, rfl, trivial⟩) hv h hsz j ht hd
  rw [hc.2] at h3
  exact ⟨xs, h1, by omega⟩
end
end Go.Proofs.YtfpdmgmolhddnaaDoor
