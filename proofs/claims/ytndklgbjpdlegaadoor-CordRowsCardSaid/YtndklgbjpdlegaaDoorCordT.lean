/- Parts' bytes tell the parts: the plain law. -/
import Derived.Test.YtndklgbjpdlegaaDoorCordPut
import Derived.Test.YtndklgbjpdlegaaDoorCordQ
namespace Go.Proofs.YtndklgbjpdlegaaDoor
open Go Go.RowKit
set_option linter.unusedSimpArgs false
set_option linter.unusedVariables false

/-- Two parts are the same. -/
def psame (p q : Prt) : Bool := (p.text == q.text) && ((p.text && decide (p.s = q.s)) || (!p.text && (p.n == q.n)))
def allS : List Prt → List Prt → Bool
  | p :: a, q :: b => psame p q && allS a b
  | _, _ => true

theorem mark_ne : ∀ (u v x y : List UInt8), (∀ c ∈ u, c ≠ 59 ∧ c ≠ 58) → (∀ c ∈ v, c ≠ 59 ∧ c ≠ 58) → u ++ 58 :: x = v ++ 59 :: y → False
  | [], [], x, y, hu, hv, h => by simp at h
  | [], c :: v, x, y, hu, hv, h => by
    simp only [List.nil_append, List.cons_append, List.cons.injEq] at h
    exact (hv c (by simp)).2 h.1.symm
  | c :: u, [], x, y, hu, hv, h => by
    simp only [List.nil_append, List.cons_append, List.cons.injEq] at h
    exact (hu c (by simp)).1 h.1
  | c :: u, d :: v, x, y, hu, hv, h => by
    simp only [List.cons_append, List.cons.injEq] at h
    exact mark_ne u v x y (fun e he => hu e (by simp [he])) (fun e he => hv e (by simp [he])) h.2

theorem ba_eq {a b : ByteArray} (h : a.data.toList = b.data.toList) : a = b := by
  cases a; cases b
  simp only [ByteArray.mk.injEq]
  exact Array.toList_inj.1 h

def Prt.ok (p : Prt) : Prop := p.good ∧ p.s.size ≤ 4096

theorem slen {p : Prt} (h : p.ok) : p.s.data.toList.length ≤ 4096 := by
  have hsl : p.s.data.toList.length = p.s.size := by rw [Array.length_toList]; rfl
  rw [hsl]; exact h.2

theorem partB_same {p q : Prt} (h : psame p q = true) : partB p = partB q := by
  obtain ⟨t, n, s⟩ := p
  obtain ⟨t', n', s'⟩ := q
  unfold psame at h
  unfold partB
  cases t <;> cases t' <;> simp_all

theorem str_ne_num {s : List UInt8} {n : Int} (hs : s.length ≤ 4096) (h0 : -9223372036854775808 ≤ n) (h1 : n ≤ 9223372036854775807) (r r' : List UInt8) (h : strB s ++ r = numB n ++ r') : False := by
  unfold strB numB at h
  simp only [List.append_assoc, List.cons_append, List.singleton_append, List.nil_append] at h
  exact mark_ne (Lib.itoa s.length) (Lib.itoa n) _ _ (P.itoa_mark _ (by omega) (by omega)) (P.itoa_mark n h0 h1) h

theorem partB_inj {p q : Prt} (hp : p.ok) (hq : q.ok) (r r' : List UInt8) (h : partB p ++ r = partB q ++ r') : psame p q = true ∧ r = r' := by
  have h1 := slen hp
  have h2 := slen hq
  obtain ⟨⟨a0, a1⟩, _⟩ := hp
  obtain ⟨⟨b0, b1⟩, _⟩ := hq
  unfold partB at h
  by_cases tp : p.text = true <;> by_cases tq : q.text = true
  · rw [if_pos tp, if_pos tq] at h
    have e1 := rStr_put p.s.data.toList r (by omega) false
    have e2 := rStr_put q.s.data.toList r' (by omega) false
    rw [h, e2] at e1
    simp only [Prod.mk.injEq, and_true] at e1
    exact ⟨by unfold psame; rw [tp, tq, ba_eq e1.1]; simp, e1.2.symm⟩
  · rw [if_pos tp, if_neg tq] at h
    exact (str_ne_num h1 b0 b1 _ _ h).elim
  · rw [if_neg tp, if_pos tq] at h
    exact (str_ne_num h2 a0 a1 _ _ h.symm).elim
  · rw [if_neg tp, if_neg tq] at h
    have e1 := rNum_put p.n a0 a1 r false
    have e2 := rNum_put q.n b0 b1 r' false
    rw [h, e2] at e1
    simp only [Prod.mk.injEq, and_true] at e1
    have tp' : p.text = false := by simpa using tp
    have tq' : q.text = false := by simpa using tq
    exact ⟨by unfold psame; rw [tp', tq', e1.1]; simp, e1.2.symm⟩

theorem partB_ne (p : Prt) : partB p ≠ [] := by
  unfold partB strB numB
  split <;> simp

theorem parts_eq : ∀ (a b : List Prt), (∀ p ∈ a, p.ok) → (∀ p ∈ b, p.ok) → (partsB a = partsB b ↔ a.length = b.length ∧ allS a b = true)
  | [], [], _, _ => by simp [partsB, allS]
  | [], q :: b, _, _ => by
    have := partB_ne q
    simp [partsB, this]
  | p :: a, [], _, _ => by
    have := partB_ne p
    simp [partsB, this]
  | p :: a, q :: b, ha, hb => by
    have ih := parts_eq a b (fun x hx => ha x (by simp [hx])) (fun x hx => hb x (by simp [hx]))
    have e1 : partsB (p :: a) = partB p ++ partsB a := by simp [partsB]
    have e2 : partsB (q :: b) = partB q ++ partsB b := by simp [partsB]
    rw [e1, e2]
    simp only [List.length_cons, Nat.add_right_cancel_iff, allS, Bool.and_eq_true]
    constructor
    · intro h
      obtain ⟨h1, h2⟩ := partB_inj (ha p (by simp)) (hb q (by simp)) _ _ h
      exact ⟨(ih.1 h2).1, h1, (ih.1 h2).2⟩
    · rintro ⟨h1, h2, h3⟩
      rw [partB_same h2, ih.2 ⟨h1, h3⟩]

theorem allS_snoc : ∀ (a b : List Prt) (p q : Prt), a.length = b.length → allS (a ++ [p]) (b ++ [q]) = (allS a b && psame p q)
  | [], [], p, q, _ => by simp [allS]
  | [], _ :: _, p, q, h => by simp at h
  | _ :: _, [], p, q, h => by simp at h
  | x :: a, y :: b, p, q, h => by
    simp only [List.cons_append, allS]
    rw [allS_snoc a b p q (by simpa using h), Bool.and_assoc]
end Go.Proofs.YtndklgbjpdlegaaDoor
