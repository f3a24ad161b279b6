/- Plain law: a list of properties with one more, or another value. -/
import Derived.Test.YtcehkaombanhaaaGreatDoorPbB
import Derived.Test.YtcehkaombanhaaaGreatDoorQaB
namespace Go.Proofs.YtcehkaombanhaaaGreatDoor
open Go Go.RowKit Go.Sort
set_option linter.unusedSimpArgs false
set_option linter.unusedVariables false

def cbN (a b : ByteArray) : Int := Lib.compareBytes a.data.toList b.data.toList
theorem cbN_cmp : Cmp3 cbN := cb_cmp.pull fun a : ByteArray => a.data.toList
theorem cbN_zero {a b : ByteArray} : cbN a b = 0 ↔ a = b := by
  unfold cbN
  rw [cb_zero]
  exact ⟨ba_ext, fun h => by rw [h]⟩
theorem cbN_lt {a b c : ByteArray} (h1 : cbN a b < 0) (h2 : cbN b c < 0) : cbN a c < 0 := by
  have t := cbN_cmp.trans a b c (by omega) (by omega)
  have z : cbN a c ≠ 0 := fun h => by
    have e := cbN_zero.1 h
    subst e
    have := cbN_cmp.anti a b
    omega
  omega
theorem cbN_self (a : ByteArray) : cbN a a = 0 := cbN_zero.2 rfl
theorem cbN_flip {a b : ByteArray} (h1 : ¬ cbN a b < 0) (h2 : a ≠ b) : cbN b a < 0 := by
  have := cbN_cmp.anti a b
  have z : cbN a b ≠ 0 := fun h => h2 (cbN_zero.1 h)
  omega
theorem cmpB_neg' : ∀ (x y : List UInt8), Lib.compareBytes x y < 0 ↔ x < y
  | [], [] => by simp [Lib.compareBytes]
  | [], _ :: _ => by simp [Lib.compareBytes]
  | _ :: _, [] => by simp [Lib.compareBytes]
  | a :: x, b :: y => by
    have ih := cmpB_neg' x y
    unfold Lib.compareBytes
    rw [List.cons_lt_cons_iff]
    simp only [UInt8.lt_iff_toNat_lt]
    split
    · rename_i h
      exact ⟨fun _ => .inl h, fun _ => by decide⟩
    · split
      · rename_i h1 h2
        constructor
        · intro h; exact absurd h (by decide)
        · rintro (h | ⟨rfl, _⟩)
          · exact absurd h h1
          · exact absurd h2 (Nat.lt_irrefl _)
      · rename_i h1 h2
        have e : a = b := UInt8.toNat_inj.1 (by omega)
        subst e
        rw [ih]
        exact ⟨fun h => .inr ⟨rfl, h⟩, fun h => h.elim (fun h => absurd h h1) (fun h => h.2)⟩
theorem less_cb (a b : ByteArray) : Go.Op.bytesLess a.toList b.toList = true ↔ cbN a b < 0 := by rw [less_iff, ← cmpB_neg']; rfl

/-- In the order of their names, each once. -/
def SortN (ps : List Prp) : Prop := ps.Pairwise fun a b => cbN a.nm b.nm < 0
theorem validL_some {q : ByteArray} : ∀ {ps : List Prp}, validL (some q) ps = true ↔ (∀ x ∈ ps, nameB x.nm = true ∧ x.good = true) ∧ SortN ps ∧ ∀ x ∈ ps, cbN q x.nm < 0
  | [] => by simp [validL, SortN]
  | p :: r => by
    have ih := validL_some (q := p.nm) (ps := r)
    unfold SortN at ih ⊢
    simp only [validL, Bool.and_eq_true, ih, less_cb, List.mem_cons, List.pairwise_cons]
    constructor
    · rintro ⟨⟨⟨h1, h2⟩, h3⟩, h4, h5, h6⟩
      exact ⟨fun x hx => hx.elim (fun e => by rw [e]; exact ⟨h1, h2⟩) (h4 x), ⟨h6, h5⟩, fun x hx => hx.elim (fun e => by rw [e]; exact h3) fun hx => cbN_lt h3 (h6 x hx)⟩
    · rintro ⟨h1, ⟨h2, h3⟩, h4⟩
      exact ⟨⟨h1 p (.inl rfl), h4 p (.inl rfl)⟩, fun x hx => h1 x (.inr hx), h3, h2⟩
theorem validL_none : ∀ {ps : List Prp}, validL none ps = true ↔ (∀ x ∈ ps, nameB x.nm = true ∧ x.good = true) ∧ SortN ps
  | [] => by simp [validL, SortN]
  | p :: r => by
    have ih := validL_some (q := p.nm) (ps := r)
    unfold SortN at ih ⊢
    simp only [validL, Bool.and_eq_true, ih, List.mem_cons, List.pairwise_cons]
    constructor
    · rintro ⟨⟨h1, h2⟩, h4, h5, h6⟩
      exact ⟨fun x hx => hx.elim (fun e => by rw [e]; exact ⟨h1, h2⟩) (h4 x), h6, h5⟩
    · rintro ⟨h1, h2, h3⟩
      exact ⟨h1 p (.inl rfl), fun x hx => h1 x (.inr hx), h3, h2⟩
theorem validB_iff {ps : List Prp} : validB ps = true ↔ ((∀ x ∈ ps, nameB x.nm = true ∧ x.good = true) ∧ SortN ps) ∧ ps.length ≤ 16 := by
  unfold validB
  rw [Bool.and_eq_true, validL_none, decide_eq_true_eq]

/-- The list with one more, or another value. -/
def setL : List Prp → Prp → List Prp
  | [], p => [p]
  | q :: r, p => if cbN q.nm p.nm < 0 then q :: setL r p else if q.nm = p.nm then p :: r else p :: q :: r
theorem setL_mem : ∀ {ps : List Prp} {p x : Prp}, x ∈ setL ps p → x = p ∨ x ∈ ps
  | [], p, x, h => by simp [setL] at h; exact .inl h
  | q :: r, p, x, h => by
    unfold setL at h
    split at h
    · rcases List.mem_cons.1 h with h | h
      · exact .inr (by rw [h]; simp)
      · exact (setL_mem h).elim .inl fun h => .inr (List.mem_cons_of_mem _ h)
    · split at h
      · rcases List.mem_cons.1 h with h | h
        · exact .inl h
        · exact .inr (List.mem_cons_of_mem _ h)
      · rcases List.mem_cons.1 h with h | h
        · exact .inl h
        · exact .inr h
theorem setL_sort : ∀ {ps : List Prp} {p : Prp}, SortN ps → SortN (setL ps p)
  | [], p, _ => by simp [setL, SortN]
  | q :: r, p, h => by
    have h' := List.pairwise_cons.1 h
    unfold setL
    split
    · rename_i hlt
      refine List.pairwise_cons.2 ⟨fun x hx => ?_, setL_sort h'.2⟩
      rcases setL_mem hx with rfl | hx
      · exact hlt
      · exact h'.1 x hx
    · rename_i hlt
      split
      · rename_i he
        exact List.pairwise_cons.2 ⟨fun x hx => by rw [← he]; exact h'.1 x hx, h'.2⟩
      · rename_i he
        have hp := cbN_flip hlt he
        refine List.pairwise_cons.2 ⟨fun x hx => ?_, h⟩
        rcases List.mem_cons.1 hx with rfl | hx
        · exact hp
        · exact cbN_lt hp (h'.1 x hx)
/-- In a list in order, a name behind a greater one is not there. -/
theorem getP_none : ∀ {ps : List Prp} {nm : ByteArray}, (∀ x ∈ ps, x.nm ≠ nm) → getP ps nm = none
  | [], _, _ => rfl
  | q :: r, nm, h => by
    unfold getP
    rw [if_neg (h q (by simp))]
    exact getP_none fun x hx => h x (List.mem_cons_of_mem _ hx)
theorem setL_len : ∀ {ps : List Prp} {p : Prp}, SortN ps → (setL ps p).length = if (getP ps p.nm).isSome then ps.length else ps.length + 1
  | [], p, _ => rfl
  | q :: r, p, h => by
    have h' := List.pairwise_cons.1 h
    unfold setL getP
    split
    · rename_i hlt
      have hne : q.nm ≠ p.nm := fun e => by rw [e, cbN_self] at hlt; omega
      rw [if_neg hne, List.length_cons, setL_len h'.2, List.length_cons]
      split <;> rfl
    · rename_i hlt
      split
      · rfl
      · rename_i he
        have hp := cbN_flip hlt he
        rw [getP_none fun x hx e => by have := cbN_lt hp (h'.1 x hx); rw [e, cbN_self] at this; omega]
        rfl
theorem getP_set : ∀ {ps : List Prp} {p : Prp}, getP (setL ps p) p.nm = some p.val
  | [], p => by unfold setL getP; rw [if_pos rfl]
  | q :: r, p => by
    unfold setL
    split
    · rename_i hlt
      have hne : q.nm ≠ p.nm := fun e => by rw [e, cbN_self] at hlt; omega
      unfold getP
      rw [if_neg hne]
      exact getP_set
    · split
      · unfold getP; rw [if_pos rfl]
      · unfold getP; rw [if_pos rfl]
theorem getP_other : ∀ {ps : List Prp} {p : Prp} {nm : ByteArray}, nm ≠ p.nm → getP (setL ps p) nm = getP ps nm
  | [], p, nm, h => by unfold setL getP; rw [if_neg (Ne.symm h)]; rfl
  | q :: r, p, nm, h => by
    unfold setL
    split
    · unfold getP
      rw [getP_other h]
    · split
      · rename_i he
        unfold getP
        rw [if_neg (Ne.symm h), if_neg (by rw [he]; exact Ne.symm h)]
      · show (if p.nm = nm then _ else getP (q :: r) nm) = _
        rw [if_neg (Ne.symm h)]
theorem getP_at : ∀ {ps : List Prp} {k : Nat} {q : Prp}, SortN ps → ps[k]? = some q → getP ps q.nm = some q.val
  | [], k, q, _, h => by simp at h
  | x :: r, 0, q, _, h => by
    have e : x = q := by simpa using h
    subst e
    unfold getP
    rw [if_pos rfl]
  | x :: r, k + 1, q, hs, h => by
    have h' := List.pairwise_cons.1 hs
    have hr : r[k]? = some q := by simpa using h
    have hlt := h'.1 q (List.mem_of_getElem? hr)
    unfold getP
    rw [if_neg fun e => by rw [e, cbN_self] at hlt; omega]
    exact getP_at h'.2 hr
theorem plMono_of {ps : List Prp} (h : SortN ps) (nm : ByteArray) : PlMono ps nm := by
  intro a b x y hab hx hy hc
  rcases Nat.lt_or_ge a b with hlt | hge
  · have ha := (List.getElem?_eq_some_iff.1 hx).1
    have hb := (List.getElem?_eq_some_iff.1 hy).1
    have := List.pairwise_iff_getElem.1 h a b ha hb hlt
    rw [List.getElem?_eq_getElem ha] at hx
    rw [List.getElem?_eq_getElem hb] at hy
    injection hx with hx
    injection hy with hy
    rw [hx, hy] at this
    exact cbN_lt this hc
  · have e : a = b := by omega
    subst e
    rw [hx] at hy
    injection hy with hy
    rw [hy]
    exact hc
/-- What place finds is where setL puts it. -/
theorem set_place : ∀ {ps : List Prp} {p : Prp} {i : Nat}, PlaceAt ps p.nm i → setL ps p = if foundB ps i p.nm = true then ps.set i p else ps.take i ++ p :: ps.drop i
  | [], p, i, h => by
    have hi : i = 0 := by have := h.1; simpa using this
    subst hi
    rfl
  | q :: r, p, 0, h => by
    have h0 := h.2.2 0 q (Nat.le_refl _) rfl
    unfold setL
    rw [if_neg (show ¬ cbN q.nm p.nm < 0 by unfold cbN; omega)]
    unfold foundB
    by_cases he : q.nm = p.nm
    · rw [if_pos he, if_pos (by simp [he])]
      rfl
    · rw [if_neg he, if_neg (by simp [he])]
      rfl
  | q :: r, p, i + 1, h => by
    have h0 := h.2.1 0 q (by omega) rfl
    have ht : PlaceAt r p.nm i := ⟨by have := h.1; simpa using this, fun k x hk hx => h.2.1 (k + 1) x (by omega) (by simpa using hx), fun k x hk hx => h.2.2 (k + 1) x (by omega) (by simpa using hx)⟩
    unfold setL
    rw [if_pos (show cbN q.nm p.nm < 0 from h0), set_place ht]
    have e : foundB (q :: r) (i + 1) p.nm = foundB r i p.nm := rfl
    rw [e]
    split <;> rfl
theorem found_get : ∀ {ps : List Prp} {nm : ByteArray} {i : Nat}, SortN ps → PlaceAt ps nm i → foundB ps i nm = (getP ps nm).isSome
  | [], nm, i, _, h => by unfold foundB; simp [getP]
  | q :: r, nm, 0, hs, h => by
    have h0 := h.2.2 0 q (Nat.le_refl _) rfl
    unfold foundB getP
    by_cases he : q.nm = nm
    · rw [if_pos he]; simp [he]
    · rw [if_neg he]
      have hp := cbN_flip (show ¬ cbN q.nm nm < 0 by unfold cbN; omega) he
      rw [getP_none fun x hx e => by have := cbN_lt hp ((List.pairwise_cons.1 hs).1 x hx); rw [e, cbN_self] at this; omega]
      simp [he]
  | q :: r, nm, i + 1, hs, h => by
    have h0 := h.2.1 0 q (by omega) rfl
    have ht : PlaceAt r nm i := ⟨by have := h.1; simpa using this, fun k x hk hx => h.2.1 (k + 1) x (by omega) (by simpa using hx), fun k x hk hx => h.2.2 (k + 1) x (by omega) (by simpa using hx)⟩
    have e : foundB (q :: r) (i + 1) nm = foundB r i nm := rfl
    have hne : q.nm ≠ nm := fun e => by have h1 : cbN q.nm nm < 0 := h0; rw [e, cbN_self] at h1; omega
    rw [e, found_get (List.pairwise_cons.1 hs).2 ht]
    show _ = (if q.nm = nm then _ else getP r nm).isSome
    rw [if_neg hne]

/-- Set's error: 0 is none. -/
def setE (ps : List Prp) (p : Prp) : Int :=
  if (validB ps && nameB p.nm && p.good) = true then (if (getP ps p.nm).isSome = false ∧ 16 ≤ ps.length then 34 else 0) else 36
theorem set_valid {ps : List Prp} {p : Prp} (h : setE ps p = 0) : validB ps = true ∧ validB (setL ps p) = true := by
  unfold setE at h
  split at h
  · rename_i hv
    simp only [Bool.and_eq_true] at hv
    obtain ⟨⟨h1, h2⟩, h3⟩ := hv
    refine ⟨h1, ?_⟩
    have h1' := h1
    rw [validB_iff] at h1 ⊢
    refine ⟨⟨fun x hx => ?_, setL_sort h1.1.2⟩, ?_⟩
    · rcases setL_mem hx with rfl | hx
      · exact ⟨h2, h3⟩
      · exact h1.1.1 x hx
    · rw [setL_len h1.1.2]
      split at h
      · exact absurd h (by decide)
      · rename_i hn
        split
        · exact h1.2
        · rename_i hs
          have : ¬ 16 ≤ ps.length := fun h16 => hn ⟨by simpa using hs, h16⟩
          omega
  · exact absurd h (by decide)
end Go.Proofs.YtcehkaombanhaaaGreatDoor
