/- Layer 18: a whole frame: plainly, and the walk. -/
import Derived.Test.YtfpdmgmolhddnaaDoorSfI
namespace Go.Proofs.YtfpdmgmolhddnaaDoor
open Go Go.RowKit Go.Sort
open Go.ChangeShapes Go.WideShapes Go.Deep
set_option linter.unusedSimpArgs false
set_option linter.unusedVariables false

theorem unesc_len : ∀ (k : Nat) (l r : L8), l.length ≤ k → unescP l = some r → r.length ≤ l.length := by
  intro k
  induction k with
  | zero =>
    intro l r h hu
    obtain rfl : l = [] := List.eq_nil_of_length_eq_zero (by omega)
    injection hu with hu; subst hu; exact Nat.le_refl _
  | succ k ih =>
    intro l r h hu
    cases l with
    | nil => injection hu with hu; subst hu; exact Nat.le_refl _
    | cons c t =>
      by_cases hc : c = 92
      · subst hc
        cases t with
        | nil => cases hu
        | cons d u =>
          rw [unesc_esc] at hu
          cases he : escOf d with
          | none => rw [he] at hu; cases hu
          | some e =>
            rw [he] at hu
            simp only at hu
            cases hq : unescP u with
            | none => rw [hq] at hu; cases hu
            | some q =>
              rw [hq] at hu
              have hu' : some ([e] ++ q) = some r := hu
              injection hu' with hu'
              have := ih u q (by simp only [List.length_cons] at h; omega) hq
              rw [← hu']; simp only [List.length_append, List.length_cons, List.length_nil]; omega
      · rw [unesc_lit hc] at hu
        cases hq : unescP t with
        | none => rw [hq] at hu; cases hu
        | some q =>
          rw [hq] at hu
          have hu' : some ([c] ++ q) = some r := hu
          injection hu' with hu'
          have := ih t q (by simp only [List.length_cons] at h; omega) hq
          rw [← hu']; simp only [List.length_append, List.length_cons, List.length_nil]; omega
theorem header_len {pl : Bool} {l : L8} {h : L8 × L8} (e : headerP pl l = some h) : h.2.length ≤ l.length := by
  unfold headerP at e
  cases hc : cutP 58 l with
  | none => rw [hc] at e; cases e
  | some p =>
    obtain ⟨n, t⟩ := p
    have hl := congrArg List.length (cut_len hc)
    rw [List.length_append, List.length_cons] at hl
    rw [hc] at e
    simp only at e
    split at e
    · cases e
    · split at e
      · injection e with e; subst e; show t.length ≤ _; omega
      · split at e
        · rename_i n' t' h1 h2
          injection e with e; subst e
          have := unesc_len _ t t' (Nat.le_refl _) h2
          show t'.length ≤ _; omega
        · cases e
theorem headers_len {pl : Bool} : ∀ {ls : List L8} {hs : List (L8 × L8)} {B : Nat}, (∀ l ∈ ls, l.length ≤ B) → headersP pl ls = some hs → hs.length = ls.length ∧ ∀ h ∈ hs, h.2.length ≤ B
  | [], hs, B, _, e => by injection e with e; subst e; exact ⟨rfl, fun h hh => by cases hh⟩
  | l :: t, hs, B, hl, e => by
    rw [headers_cons] at e
    cases h1 : headerP pl l with
    | none => rw [h1] at e; cases e
    | some h =>
      rw [h1] at e
      simp only at e
      cases h2 : headersP pl t with
      | none => rw [h2] at e; cases e
      | some r =>
        rw [h2] at e
        injection e with e; subst e
        have ih := headers_len (fun l hh => hl l (List.mem_cons_of_mem _ hh)) h2
        refine ⟨by rw [List.length_cons, List.length_cons, ih.1], fun x hx => ?_⟩
        rcases List.mem_cons.1 hx with rfl | hx
        · exact Nat.le_trans (header_len h1) (hl l (by simp))
        · exact ih.2 x hx
theorem lines_mem : ∀ (k : Nat) (s : L8) (ls : List L8) (q : L8), s.length ≤ k → linesP s = some (ls, q) → (∀ l ∈ ls, l.length ≤ s.length) ∧ q.length ≤ s.length := by
  intro k
  induction k with
  | zero =>
    intro s ls q h hl
    obtain rfl : s = [] := List.eq_nil_of_length_eq_zero (by omega)
    rw [lines_none rfl] at hl; cases hl
  | succ k ih =>
    intro s ls q h hl
    cases hc : cutP 10 s with
    | none => rw [lines_none hc] at hl; cases hl
    | some p =>
      obtain ⟨l, r⟩ := p
      have hlen := congrArg List.length (cut_len hc)
      rw [List.length_append, List.length_cons] at hlen
      rw [lines_some hc] at hl
      split at hl
      · injection hl with hl; injection hl with h1 h2
        subst h1 h2
        exact ⟨(fun l hl => by cases hl), by omega⟩
      · cases hr : linesP r with
        | none => rw [hr] at hl; cases hl
        | some p =>
          obtain ⟨ls', q'⟩ := p
          rw [hr] at hl
          injection hl with hl; injection hl with h1 h2
          subst h1 h2
          have := ih r ls' q' (by omega) hr
          refine ⟨fun x hx => ?_, by omega⟩
          rcases List.mem_cons.1 hx with rfl | hx
          · have := trimCR_len l; omega
          · have := this.1 x hx; omega
theorem head_len {s c r : L8} {hs : List (L8 × L8)} (h : headP s = some (some (c, hs, r))) : (∀ x ∈ hs, x.2.length ≤ s.length) ∧ r.length ≤ s.length ∧ hs.length ≤ 32 := by
  unfold headP at h
  cases hl : linesP s with
  | none => rw [hl] at h; simp at h
  | some p =>
    obtain ⟨ls, q⟩ := p
    rw [hl] at h
    have hm := lines_mem _ s ls q (Nat.le_refl _) hl
    cases ls with
    | nil => cases h
    | cons c1 ls =>
      simp only at h
      split at h
      · rename_i hc
        cases hh : headersP (plainP c1) ls with
        | none => rw [hh] at h; cases h
        | some hs' =>
          rw [hh] at h
          injection h with h; injection h with h; injection h with h1 h2; injection h2 with h2 h3
          subst h1 h2 h3
          have h4 := headers_len (fun l hl => hm.1 l (List.mem_cons_of_mem _ hl)) hh
          exact ⟨h4.2, hm.2, by omega⟩
      · cases h
theorem cut_byte (c : UInt8) : ∀ l : List UInt8, (cutP c l = none ∧ Lib.indexByte l c = -1) ∨ (∃ (i : Nat), i < l.length ∧ Lib.indexByte l c = i ∧ cutP c l = some (l.take i, l.drop (i + 1)) ∧ l[i]? = some c)
  | [] => .inl ⟨rfl, rfl⟩
  | b :: l => by
    by_cases hb : b = c
    · refine .inr ⟨0, by simp, ?_, ?_, by rw [hb]; rfl⟩
      · unfold Lib.indexByte; rw [beq_iff_eq.2 hb]; rfl
      · unfold cutP
        rw [if_pos hb]; simp
    · have hbb : (b == c) = false := beq_eq_false_iff_ne.2 hb
      rcases cut_byte c l with ⟨h1, h2⟩ | ⟨i, h1, h2, h3, h4⟩
      · refine .inl ⟨?_, ?_⟩
        · unfold cutP
          rw [if_neg hb, h1]
        · unfold Lib.indexByte; rw [hbb, h2]; rfl
      · refine .inr ⟨i + 1, by simp; omega, ?_, ?_, by simpa using h4⟩
        · unfold Lib.indexByte
          rw [hbb, h2, if_neg (by decide), if_neg (by rw [beq_iff_eq]; omega)]; rfl
        · unfold cutP
          rw [if_neg hb, h3]; simp
/-- What whole answers. -/
def WPost (o : Option (Option (Sfr × L8))) (w : World) (e : Ending) (w' : World) : Prop :=
  Below w.heap.size w w' ∧ match o with
  | none => e = StopS
  | some none => ∃ c A n cp b, e = .returned (.tuple #[.agg #[.string c, .slice A n cp, .string b], .string ⟨#[]⟩, .bool false])
  | some (some (f, r)) => ∃ A cp, e = .returned (.tuple #[.agg #[.string ⟨f.cmd.toArray⟩, .slice A f.hs.length cp, .string ⟨f.body.toArray⟩], .string ⟨r.toArray⟩, .bool true]) ∧ OH w' w.heap.size (.slice A f.hs.length cp) f.hs
theorem wpost_stop {w w' : World} (b : Below w.heap.size w w') : WPost none w StopS w' := ⟨b, rfl⟩
theorem wpost_more {w w' : World} {c b : ByteArray} {A : Option Addr} {n cp : Nat} (bl : Below w.heap.size w w') : WPost (some none) w (.returned (.tuple #[.agg #[.string c, .slice A n cp, .string b], .string ⟨#[]⟩, .bool false])) w' := ⟨bl, c, A, n, cp, b, rfl⟩
theorem wpost_some {f : Sfr} {r : L8} {A : Option Addr} {cp : Nat} {w w' : World} (b : Below w.heap.size w w') (h : OH w' w.heap.size (.slice A f.hs.length cp) f.hs) : WPost (some (some (f, r))) w (.returned (.tuple #[.agg #[.string ⟨f.cmd.toArray⟩, .slice A f.hs.length cp, .string ⟨f.body.toArray⟩], .string ⟨r.toArray⟩, .bool true])) w' := ⟨b, A, cp, rfl, h⟩
theorem sf_end_d {fn : Func} {p u v : Tmp} (h : fn.results = #[.cell p 25, .tmp u, .tmp v]) {R : Ending → World → Prop} {a : Act} {X : World} {g : Nat} {t : TypeId} {fr : Nat × Nat} {d0 d1 d2 : Value}
    (hg : X.heap[g]? = some (.cells #[d0, d1, d2] t fr)) (hp : a.tmps.getD p undef = .pointer (some ⟨g, 0, none⟩)) (hd : a.defers = [])
    (hR : R (.returned (.tuple #[.agg #[d0, d1, d2], a.tmps.getD u undef, a.tmps.getD v undef])) X.drew) : bodyPost Tryd.prog fn R .ret a X.drew := by
  have hg' : X.drew.heap[g]? = some (.cells #[d0, d1, d2] t fr) := hg
  exact bodyPost_ret (results_cell_uv h _ X.drew g t _ fr _ hp hg' Tryd.underlying25 rfl (by kernel_rfl)) hd hR
end Go.Proofs.YtfpdmgmolhddnaaDoor
