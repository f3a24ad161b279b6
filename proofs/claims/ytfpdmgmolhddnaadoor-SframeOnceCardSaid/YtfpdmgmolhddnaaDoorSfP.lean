/- Layer 18: frames, plainly: what is read of bytes; what is read once is read for all. -/
import Derived.Test.YtfpdmgmolhddnaaDoorProg
namespace Go.Proofs.YtfpdmgmolhddnaaDoor
open Go
set_option linter.unusedSimpArgs false
set_option linter.unusedVariables false

abbrev L8 := List UInt8
/-- How many bytes are ends of lines alone. -/
def blanksP : L8 → Nat
  | [] => 0
  | [c] => if c = 10 then 1 else 0
  | c :: d :: u => if c = 10 then 1 + blanksP (d :: u) else if c = 13 ∧ d = 10 then 2 + blanksP u else 0
theorem blanks_lf (t : L8) : blanksP (10 :: t) = 1 + blanksP t := by
  cases t with
  | nil => rfl
  | cons d u => conv => lhs; unfold blanksP
                rw [if_pos rfl]
theorem blanks_crlf (u : L8) : blanksP (13 :: 10 :: u) = 2 + blanksP u := by
  conv => lhs; unfold blanksP
  rw [if_neg (by decide), if_pos ⟨rfl, rfl⟩]
theorem blanks_no {s : L8} (h1 : s.head? ≠ some 10) (h2 : ¬ ∃ u, s = 13 :: 10 :: u) : blanksP s = 0 := by
  match s with
  | [] => rfl
  | [c] =>
    have : c ≠ 10 := fun e => h1 (by rw [e]; rfl)
    unfold blanksP; rw [if_neg this]
  | c :: d :: u =>
    have h3 : c ≠ 10 := fun e => h1 (by rw [e]; rfl)
    unfold blanksP; rw [if_neg h3, if_neg (fun e => h2 ⟨u, by rw [e.1, e.2]⟩)]
theorem blanks_cases (s : L8) : (∃ t, s = 10 :: t) ∨ (∃ u, s = 13 :: 10 :: u) ∨ (s.head? ≠ some 10 ∧ ¬ ∃ u, s = 13 :: 10 :: u) := by
  by_cases h1 : s.head? = some 10
  · left
    cases s with
    | nil => cases h1
    | cons c t => exact ⟨t, by injection h1 with h1; rw [h1]⟩
  · by_cases h2 : ∃ u, s = 13 :: 10 :: u
    · exact .inr (.inl h2)
    · exact .inr (.inr ⟨h1, h2⟩)
theorem blanks_all : ∀ (k : Nat) (s : L8), s.length ≤ k → blanksP s ≤ s.length ∧ (∀ c ∈ s.take (blanksP s), c = 10 ∨ c = 13) ∧ (s.drop (blanksP s)).head? ≠ some 10 ∧ ¬ ∃ u, s.drop (blanksP s) = 13 :: 10 :: u := by
  intro k
  induction k with
  | zero =>
    intro s h
    obtain rfl : s = [] := List.eq_nil_of_length_eq_zero (by omega)
    exact ⟨Nat.le_refl _, by simp [blanksP], by simp [blanksP], by simp [blanksP]⟩
  | succ k ih =>
    intro s h
    rcases blanks_cases s with ⟨t, rfl⟩ | ⟨u, rfl⟩ | ⟨h1, h2⟩
    · rw [blanks_lf, Nat.add_comm]
      obtain ⟨a, b, c⟩ := ih t (by simp only [List.length_cons] at h; omega)
      refine ⟨by simp only [List.length_cons]; omega, fun c hc => ?_, c⟩
      rw [List.take_succ_cons] at hc
      rcases List.mem_cons.1 hc with rfl | hc
      · exact .inl rfl
      · exact b c hc
    · rw [blanks_crlf, Nat.add_comm]
      obtain ⟨a, b, c⟩ := ih u (by simp only [List.length_cons] at h; omega)
      refine ⟨by simp only [List.length_cons]; omega, fun c hc => ?_, c⟩
      rw [List.take_succ_cons, List.take_succ_cons] at hc
      rcases List.mem_cons.1 hc with rfl | hc
      · exact .inr rfl
      · rcases List.mem_cons.1 hc with rfl | hc
        · exact .inl rfl
        · exact b c hc
    · rw [blanks_no h1 h2]
      exact ⟨Nat.zero_le _, by simp, h1, h2⟩
theorem blanks_app : ∀ (k : Nat) (s t : L8), s.length ≤ k → s.drop (blanksP s) ≠ [] → s.drop (blanksP s) ≠ [13] → blanksP (s ++ t) = blanksP s := by
  intro k
  induction k with
  | zero =>
    intro s t h h1 _
    obtain rfl : s = [] := List.eq_nil_of_length_eq_zero (by omega)
    exact absurd (by simp) h1
  | succ k ih =>
    intro s t h h1 h2
    rcases blanks_cases s with ⟨s', rfl⟩ | ⟨u, rfl⟩ | ⟨h3, h4⟩
    · rw [blanks_lf, Nat.add_comm] at h1 h2
      rw [List.cons_append, blanks_lf, blanks_lf, ih s' t (by simp only [List.length_cons] at h; omega) h1 h2]
    · rw [blanks_crlf, Nat.add_comm] at h1 h2
      rw [List.cons_append, List.cons_append, blanks_crlf, blanks_crlf, ih u t (by simp only [List.length_cons] at h; omega) h1 h2]
    · rw [blanks_no h3 h4] at h1 h2 ⊢
      simp only [List.drop_zero] at h1 h2
      refine blanks_no (fun e => ?_) (fun ⟨u, e⟩ => ?_)
      · cases s with
        | nil => exact h1 rfl
        | cons c s => exact h3 e
      · match s with
        | [] => exact h1 rfl
        | [c] => injection e with e1 e2; exact h2 (by rw [e1])
        | c :: d :: v => injection e with e1 e2; injection e2 with e2 e3; exact h4 ⟨v, by rw [e1, e2]⟩
/-- What stands ahead of a byte, and behind it. -/
def cutP (c : UInt8) : L8 → Option (L8 × L8)
  | [] => none
  | x :: t => if x = c then some ([], t) else match cutP c t with | none => none | some (a, r) => some (x :: a, r)
theorem cut_len {c : UInt8} : ∀ {s a r : L8}, cutP c s = some (a, r) → s = a ++ c :: r
  | [], a, r, h => by cases h
  | x :: t, a, r, h => by
    unfold cutP at h
    split at h
    · rename_i e
      injection h with h; injection h with h1 h2
      rw [← h1, ← h2, e]; rfl
    · split at h
      · cases h
      · rename_i a' r' e
        injection h with h; injection h with h1 h2
        rw [← h1, ← h2, cut_len e]; rfl
theorem cut_lt {c : UInt8} {s a r : L8} (h : cutP c s = some (a, r)) : r.length < s.length := by
  rw [cut_len h, List.length_append, List.length_cons]; omega
theorem cut_app {c : UInt8} : ∀ {s a r : L8} (t : L8), cutP c s = some (a, r) → cutP c (s ++ t) = some (a, r ++ t)
  | [], a, r, t, h => by cases h
  | x :: u, a, r, t, h => by
    unfold cutP at h
    rw [List.cons_append]
    unfold cutP
    split at h
    · rename_i e
      injection h with h; injection h with h1 h2
      rw [if_pos e, ← h1, ← h2]
    · rename_i e
      rw [if_neg e]
      split at h
      · cases h
      · rename_i a' r' e'
        injection h with h; injection h with h1 h2
        rw [cut_app t e', ← h1, ← h2]
/-- Without one 0d at its end. -/
def trimCR (l : L8) : L8 := if l.getLast? = some 13 then l.dropLast else l
/-- The lines ahead of the empty one, and what stands behind that. -/
def linesP (s : L8) : Option (List L8 × L8) :=
  match h : cutP 10 s with
  | none => none
  | some (l, r) => if trimCR l = [] then some ([], r) else match linesP r with | none => none | some (ls, q) => some (trimCR l :: ls, q)
termination_by s.length
decreasing_by exact cut_lt h
theorem lines_none {s : L8} (h : cutP 10 s = none) : linesP s = none := by
  unfold linesP
  split
  · rfl
  · rename_i e; rw [h] at e; cases e
theorem lines_some {s l r : L8} (h : cutP 10 s = some (l, r)) : linesP s = if trimCR l = [] then some ([], r) else match linesP r with | none => none | some (ls, q) => some (trimCR l :: ls, q) := by
  conv => lhs; unfold linesP
  split
  · rename_i e; rw [h] at e; cases e
  · rename_i l' r' e
    rw [h] at e
    injection e with e; injection e with e1 e2
    rw [← e1, ← e2]
theorem lines_app : ∀ (k : Nat) (s t : L8) (ls : List L8) (q : L8), s.length ≤ k → linesP s = some (ls, q) → linesP (s ++ t) = some (ls, q ++ t) := by
  intro k
  induction k with
  | zero =>
    intro s t ls q h hl
    obtain rfl : s = [] := List.eq_nil_of_length_eq_zero (by omega)
    rw [lines_none rfl] at hl; cases hl
  | succ k ih =>
    intro s t ls q h hl
    cases hc : cutP 10 s with
    | none => rw [lines_none hc] at hl; cases hl
    | some p =>
      obtain ⟨l, r⟩ := p
      rw [lines_some hc] at hl
      rw [lines_some (cut_app t hc)]
      split at hl
      · rename_i e
        injection hl with hl; injection hl with h1 h2
        rw [if_pos e, ← h1, ← h2]
      · rename_i e
        rw [if_neg e]
        cases hr : linesP r with
        | none => rw [hr] at hl; cases hl
        | some p =>
          obtain ⟨ls', q'⟩ := p
          rw [hr] at hl
          injection hl with hl; injection hl with h1 h2
          rw [ih r t ls' q' (by have := cut_lt hc; omega) hr]
          rw [← h1, ← h2]
theorem lines_le : ∀ (k : Nat) (s : L8) (ls : List L8) (q : L8), s.length ≤ k → linesP s = some (ls, q) → q.length + ls.length < s.length := by
  intro k
  induction k with
  | zero =>
    intro s ls q h hl
    obtain rfl : s = [] := List.eq_nil_of_length_eq_zero (by omega)
    rw [lines_none rfl] at hl; cases hl
  | succ k ih =>
    intro s ls q h hl
    cases hc : cutP 10 s with
    | none => rw [lines_none hc] at hl; cases hl
    | some p =>
      obtain ⟨l, r⟩ := p
      rw [lines_some hc] at hl
      have hlt := cut_lt hc
      split at hl
      · injection hl with hl; injection hl with h1 h2
        rw [← h1, ← h2]; simpa using hlt
      · cases hr : linesP r with
        | none => rw [hr] at hl; cases hl
        | some p =>
          obtain ⟨ls', q'⟩ := p
          rw [hr] at hl
          injection hl with hl; injection hl with h1 h2
          have := ih r ls' q' (by omega) hr
          rw [← h1, ← h2, List.length_cons]; omega
/-- Is a text a frame's command? -/
def commandP (l : L8) : Bool := decide (l ≠ []) && decide (l.length ≤ 16) && l.all (fun c => decide (65 ≤ c.toNat) && decide (c.toNat ≤ 90))
def escOf (d : UInt8) : Option UInt8 := if d = 92 then some 92 else if d = 114 then some 13 else if d = 110 then some 10 else if d = 99 then some 58 else none
def unescP : L8 → Option L8
  | [] => some []
  | [c] => if c = 92 then none else some [c]
  | c :: d :: u => if c = 92 then (match escOf d with | none => none | some e => match unescP u with | none => none | some r => some (e :: r)) else match unescP (d :: u) with | none => none | some r => some (c :: r)
/-- A frame. -/
structure Sfr where
  cmd : L8
  hs : List (L8 × L8)
  body : L8
def noF : Sfr := ⟨[], [], []⟩
def connectB : L8 := [67, 79, 78, 78, 69, 67, 84]
def connectedB : L8 := [67, 79, 78, 78, 69, 67, 84, 69, 68]
def plainP (l : L8) : Bool := l == connectB || l == connectedB
/-- A line's header. -/
def headerP (pl : Bool) (l : L8) : Option (L8 × L8) :=
  match cutP 58 l with
  | none => none
  | some (n, t) => if n = [] then none else if pl = true then some (n, t) else match unescP n, unescP t with | some n', some t' => some (n', t') | _, _ => none
def headersP (pl : Bool) : List L8 → Option (List (L8 × L8))
  | [] => some []
  | l :: t => match headerP pl l with | none => none | some h => match headersP pl t with | none => none | some hs => some (h :: hs)
def getP (hs : List (L8 × L8)) (n : L8) : Option L8 := (hs.find? (fun h => h.1 == n)).map (·.2)
def clenB : L8 := [99, 111, 110, 116, 101, 110, 116, 45, 108, 101, 110, 103, 116, 104]
/-- The number that a text writes, up to 1024. -/
def numP (t : L8) : Option Nat := (List.range 1025).find? (fun n => (toString n).toUTF8.data.toList == t)
def sizeP (num : L8 → Option Nat) (hs : List (L8 × L8)) : Int := match getP hs clenB with | none => -1 | some t => match num t with | none => -2 | some n => n
/-- What is read: nothing can be (none), more is missing (some none), a frame and what stands behind. -/
def bodyP (f : Sfr) (n : Int) (r : L8) : Option (Option (Sfr × L8)) :=
  if n < -1 then none
  else if n < 0 then match cutP 0 r with
    | none => if r.length ≤ 1024 then some none else none
    | some (b, q) => if b.length ≤ 1024 then some (some (⟨f.cmd, f.hs, b⟩, q)) else none
  else if r.length ≤ n.toNat then some none
  else if r[n.toNat]? = some 0 then some (some (⟨f.cmd, f.hs, r.take n.toNat⟩, r.drop (n.toNat + 1))) else none
def wholeP (num : L8 → Option Nat) (s : L8) : Option (Option (Sfr × L8)) :=
  match linesP s with
  | none => some none
  | some ([], _) => none
  | some (c :: ls, r) => if ls.length ≤ 32 ∧ commandP c = true then
      match headersP (plainP c) ls with
      | none => none
      | some hs => bodyP ⟨c, hs, []⟩ (sizeP num hs) r
    else none
theorem body_bad {f : Sfr} {n : Int} {r : L8} (t : L8) (h : bodyP f n r = none) : bodyP f n (r ++ t) = none := by
  unfold bodyP at h ⊢
  split at h
  · rename_i h1; rw [if_pos h1]
  · rename_i h1
    rw [if_neg h1]
    split at h
    · rename_i h2
      rw [if_pos h2]
      cases hc : cutP 0 r with
      | none =>
        rw [hc] at h
        simp only at h
        split at h
        · cases h
        · rename_i h3
          cases hc2 : cutP 0 (r ++ t) with
          | none => simp only; rw [if_neg (by rw [List.length_append]; omega)]
          | some p =>
            obtain ⟨b, q⟩ := p
            simp only
            rw [if_neg ?_]
            intro hb
            have hl := cut_len hc2
            -- the byte lies behind r
            have : r.length ≤ b.length := by
              rcases Nat.lt_or_ge b.length r.length with hlt | hge
              · exfalso
                have e : (r ++ t)[b.length]? = some 0 := by rw [hl]; simp
                rw [List.getElem?_append_left hlt] at e
                have : ∀ (s : List UInt8), cutP 0 s = none → ∀ i : Nat, s[i]? ≠ some 0 := by
                  intro s
                  induction s with
                  | nil => intro _ i; simp
                  | cons x u ih =>
                    intro hs i
                    unfold cutP at hs
                    split at hs
                    · cases hs
                    · rename_i hx
                      split at hs
                      · rename_i hu
                        cases i with
                        | zero => intro e; injection e with e; exact hx e
                        | succ i => exact ih hu i
                      · cases hs
                exact this r hc _ e
              · exact hge
            omega
      | some p =>
        obtain ⟨b, q⟩ := p
        rw [hc] at h
        simp only at h
        split at h
        · cases h
        · rename_i h3
          rw [cut_app t hc]
          simp only
          rw [if_neg h3]
    · rename_i h2
      rw [if_neg h2]
      split at h
      · cases h
      · rename_i h3
        rw [if_neg (by rw [List.length_append]; omega)]
        split at h
        · cases h
        · rename_i h4
          rw [List.getElem?_append_left (by omega), if_neg h4]
theorem body_ok {f : Sfr} {n : Int} {r q : L8} {g : Sfr} (t : L8) (h : bodyP f n r = some (some (g, q))) : bodyP f n (r ++ t) = some (some (g, q ++ t)) := by
  unfold bodyP at h ⊢
  split at h
  · cases h
  · rename_i h1
    rw [if_neg h1]
    split at h
    · rename_i h2
      rw [if_pos h2]
      cases hc : cutP 0 r with
      | none =>
        rw [hc] at h
        simp only at h
        split at h <;> simp at h
      | some p =>
        obtain ⟨b, q'⟩ := p
        rw [hc] at h
        rw [cut_app t hc]
        simp only at h ⊢
        split at h
        · rename_i h3
          rw [if_pos h3]
          injection h with h; injection h with h; injection h with h4 h5
          rw [h4, h5]
        · cases h
    · rename_i h2
      rw [if_neg h2]
      split at h
      · simp at h
      · rename_i h3
        rw [if_neg (by rw [List.length_append]; omega), List.getElem?_append_left (by omega)]
        split at h
        · rename_i h4
          rw [if_pos h4]
          injection h with h; injection h with h; injection h with h4 h5
          rw [List.take_append_of_le_length (by omega), List.drop_append_of_le_length (by omega), h4, h5]
        · cases h
theorem body_le {f : Sfr} {n : Int} {r q : L8} {g : Sfr} (h : bodyP f n r = some (some (g, q))) : q.length < r.length := by
  unfold bodyP at h
  split at h
  · cases h
  · split at h
    · cases hc : cutP 0 r with
      | none =>
        rw [hc] at h
        simp only at h
        split at h <;> simp at h
      | some p =>
        obtain ⟨b, q'⟩ := p
        rw [hc] at h
        simp only at h
        split at h
        · injection h with h; injection h with h; injection h with h4 h5
          rw [← h5]; exact cut_lt hc
        · cases h
    · split at h
      · simp at h
      · split at h
        · injection h with h; injection h with h; injection h with h4 h5
          rw [← h5, List.length_drop]; omega
        · cases h
theorem whole_bad {num : L8 → Option Nat} {s : L8} (t : L8) (h : wholeP num s = none) : wholeP num (s ++ t) = none := by
  unfold wholeP at h ⊢
  cases hl : linesP s with
  | none => rw [hl] at h; simp at h
  | some p =>
    obtain ⟨ls, r⟩ := p
    rw [lines_app _ s t ls r (Nat.le_refl _) hl]
    rw [hl] at h
    cases ls with
    | nil => rfl
    | cons c ls =>
      simp only at h ⊢
      split at h
      · rename_i h1
        rw [if_pos h1]
        cases hh : headersP (plainP c) ls with
        | none => rfl
        | some hs => rw [hh] at h; exact body_bad t h
      · rename_i h1; rw [if_neg h1]
theorem whole_ok {num : L8 → Option Nat} {s q : L8} {g : Sfr} (t : L8) (h : wholeP num s = some (some (g, q))) : wholeP num (s ++ t) = some (some (g, q ++ t)) := by
  unfold wholeP at h ⊢
  cases hl : linesP s with
  | none => rw [hl] at h; simp at h
  | some p =>
    obtain ⟨ls, r⟩ := p
    rw [lines_app _ s t ls r (Nat.le_refl _) hl]
    rw [hl] at h
    cases ls with
    | nil => cases h
    | cons c ls =>
      simp only at h ⊢
      split at h
      · rename_i h1
        rw [if_pos h1]
        cases hh : headersP (plainP c) ls with
        | none => rw [hh] at h; cases h
        | some hs => rw [hh] at h; exact body_ok t h
      · cases h
theorem whole_le {num : L8 → Option Nat} {s q : L8} {g : Sfr} (h : wholeP num s = some (some (g, q))) : q.length < s.length := by
  unfold wholeP at h
  cases hl : linesP s with
  | none => rw [hl] at h; simp at h
  | some p =>
    obtain ⟨ls, r⟩ := p
    have h2 := lines_le _ s ls r (Nat.le_refl _) hl
    rw [hl] at h
    cases ls with
    | nil => cases h
    | cons c ls =>
      simp only at h
      split at h
      · cases hh : headersP (plainP c) ls with
        | none => rw [hh] at h; cases h
        | some hs => rw [hh] at h; have := body_le h; omega
      · cases h
/-- What Next answers: the frame, how many bytes, the error (0, 3: more, 4: not one; the numbers of api's). -/
def nextP (num : L8 → Option Nat) (more proto : Int) (s : L8) : Sfr × Nat × Int :=
  match wholeP num ((s.drop (blanksP s)).take 16384) with
  | none => (noF, 0, proto)
  | some none => if (s.drop (blanksP s)).length < 16384 then (noF, blanksP s, more) else (noF, 0, proto)
  | some (some (f, r)) => (f, blanksP s + min (s.drop (blanksP s)).length 16384 - r.length, 0)
theorem whole_nil (num : L8 → Option Nat) : wholeP num [] = some none := by unfold wholeP; rw [lines_none rfl]
theorem whole_cr (num : L8 → Option Nat) : wholeP num [13] = some none := by unfold wholeP; rw [lines_none (by decide)]
theorem next_once {num : L8 → Option Nat} {more proto : Int} (hmp : more ≠ proto) (hm0 : more ≠ 0) (s t : L8) (h : (nextP num more proto s).2.2 ≠ more) : nextP num more proto (s ++ t) = nextP num more proto s := by
  have hb := (blanks_all _ s (Nat.le_refl _)).1
  have hne : s.drop (blanksP s) ≠ [] ∧ s.drop (blanksP s) ≠ [13] := by
    constructor <;> intro e <;> apply h <;> unfold nextP <;> rw [e]
    · rw [List.take_nil, whole_nil]; rfl
    · rw [show ([13] : L8).take 16384 = [13] from rfl, whole_cr]; rfl
  have hba := blanks_app _ s t (Nat.le_refl _) hne.1 hne.2
  have hd : (s ++ t).drop (blanksP s) = s.drop (blanksP s) ++ t := List.drop_append_of_le_length hb
  unfold nextP at h ⊢
  rw [hba, hd]
  generalize s.drop (blanksP s) = u at *
  by_cases hu : 16384 ≤ u.length
  · rw [List.take_append_of_le_length hu]
    have e1 : min (u ++ t).length 16384 = min u.length 16384 := by rw [List.length_append]; omega
    rw [e1]
    cases hw : wholeP num (u.take 16384) with
    | none => rfl
    | some o =>
      cases o with
      | none => simp only; rw [if_neg (by rw [List.length_append]; omega), if_neg (by omega)]
      | some p => rfl
  · have e2 : u.take 16384 = u := List.take_of_length_le (by omega)
    have e3 : (u ++ t).take 16384 = u ++ t.take (16384 - u.length) := by rw [List.take_append, e2]
    rw [e2] at h ⊢
    rw [e3]
    cases hw : wholeP num u with
    | none => rw [whole_bad _ hw]
    | some o =>
      cases o with
      | none =>
        rw [hw] at h
        simp only at h
        rw [if_pos (by omega)] at h
        exact absurd rfl h
      | some p =>
        obtain ⟨f, r⟩ := p
        rw [whole_ok _ hw]
        have hr := whole_le hw
        simp only [List.length_append, List.length_take]
        congr 2
        omega
theorem next_le {num : L8 → Option Nat} {more proto : Int} (hm0 : more ≠ 0) (hp0 : proto ≠ 0) (s : L8) : (nextP num more proto s).2.1 ≤ s.length ∧ ((nextP num more proto s).2.2 = 0 ↔ 0 < (nextP num more proto s).2.1 ∧ (nextP num more proto s).2.2 ≠ more) := by
  have hb := (blanks_all _ s (Nat.le_refl _)).1
  have hl : (s.drop (blanksP s)).length = s.length - blanksP s := List.length_drop
  unfold nextP
  cases hw : wholeP num ((s.drop (blanksP s)).take 16384) with
  | none => exact ⟨Nat.zero_le _, ⟨fun h => absurd h hp0, fun h => absurd h.1 (Nat.lt_irrefl _)⟩⟩
  | some o =>
    cases o with
    | none =>
      simp only
      split
      · exact ⟨hb, ⟨fun h => absurd h hm0, fun h => absurd rfl h.2⟩⟩
      · exact ⟨Nat.zero_le _, ⟨fun h => absurd h hp0, fun h => absurd h.1 (Nat.lt_irrefl _)⟩⟩
    | some p =>
      obtain ⟨f, r⟩ := p
      have hr := whole_le hw
      rw [List.length_take] at hr
      simp only
      refine ⟨by omega, ⟨fun _ => ⟨by omega, fun e => hm0 e.symm⟩, fun _ => trivial⟩⟩
theorem next_more {num : L8 → Option Nat} {more proto : Int} (hmp : more ≠ proto) (hm0 : more ≠ 0) (s : L8) (h : (nextP num more proto s).2.2 = more) : (nextP num more proto s).1 = noF ∧ (nextP num more proto s).2.1 = blanksP s ∧ s.length - blanksP s < 16384 := by
  have hl : (s.drop (blanksP s)).length = s.length - blanksP s := List.length_drop
  unfold nextP at h ⊢
  cases hw : wholeP num ((s.drop (blanksP s)).take 16384) with
  | none => rw [hw] at h; exact absurd h.symm hmp
  | some o =>
    rw [hw] at h
    cases o with
    | none =>
      simp only at h ⊢
      split
      · exact ⟨rfl, rfl, by omega⟩
      · rename_i h2; rw [if_neg h2] at h; exact absurd h.symm hmp
    | some p => exact absurd h.symm hm0
end Go.Proofs.YtfpdmgmolhddnaaDoor
