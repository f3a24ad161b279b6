/- Plain law: a value's bytes tell the value. -/
import Derived.Test.YteigbejidfkhpaaDoorTbN
namespace Go.Proofs.YteigbejidfkhpaaDoor
open Go Go.RowKit
set_option linter.unusedSimpArgs false
set_option linter.unusedVariables false

/-- The first byte tells the kind. -/
theorem realB_head (r : Nat) (u : List UInt8) : ∃ x l, realB r ++ u = x :: l ∧ x ≠ 108 ∧ x ≠ 116 ∧ x ≠ 83 := by
  unfold realB
  cases narB r with
  | none => exact ⟨100, _, rfl, by decide, by decide, by decide⟩
  | some n => exact ⟨102, _, rfl, by decide, by decide, by decide⟩
def Prp.fit (p : Prp) : Prop := p.good = true ∧ p.r < 2 ^ 64 ∧ -9223372036854775808 ≤ p.n ∧ p.n ≤ 9223372036854775807
theorem val1 {p : Prp} (h : p.k = 1) : valB p = 108 :: beB (p.n % 18446744073709551616).toNat 8 := by unfold valB; rw [if_pos h]
theorem val2 {p : Prp} (h : p.k = 2) : valB p = [116, UInt8.ofNat p.n.toNat] := by unfold valB; rw [if_neg (by omega), if_pos h]
theorem val3 {p : Prp} (h : p.k = 3) : valB p = 83 :: (beB p.t.size 4 ++ p.t.data.toList) := by unfold valB; rw [if_neg (by omega), if_neg (by omega), if_pos h]
theorem val4 {p : Prp} (h : p.k = 4) : valB p = realB p.r := by unfold valB; rw [if_neg (by omega), if_neg (by omega), if_neg (by omega)]
theorem t_eq {s t : ByteArray} (hs : s.size = 0) (ht : t.size = 0) : s = t := by rw [ba_nil hs, ba_nil ht]

theorem valB_inj {p q : Prp} {u u' : List UInt8} (hp : p.fit) (hq : q.fit) (h : valB p ++ u = valB q ++ u') : p.k = q.k ∧ p.n = q.n ∧ p.t = q.t ∧ p.r = q.r ∧ u = u' := by
  obtain ⟨gp, rp, np0, np1⟩ := hp
  obtain ⟨gq, rq, nq0, nq1⟩ := hq
  obtain ⟨x, lx, hx, hx1, hx2, hx3⟩ := realB_head p.r u
  obtain ⟨y, ly, hy, hy1, hy2, hy3⟩ := realB_head q.r u'
  rcases good_of gp with ⟨a, b, c⟩ | ⟨a, b, c, d⟩ | ⟨a, b, c, d⟩ | ⟨a, b, c, d⟩ <;> rcases good_of gq with ⟨a', b', c'⟩ | ⟨a', b', c', d'⟩ | ⟨a', b', c', d'⟩ | ⟨a', b', c', d'⟩
  · rw [val1 a, val1 a'] at h
    simp only [List.cons_append, List.cons.injEq, true_and] at h
    obtain ⟨e, f⟩ := List.append_inj h (by rw [beB_len, beB_len])
    have := beB_inj (k := 8) (by show _ < 18446744073709551616; omega) (by show _ < 18446744073709551616; omega) e
    exact ⟨by omega, by omega, t_eq b b', by omega, f⟩
  · rw [val1 a, val2 a'] at h; simp at h
  · rw [val1 a, val3 a'] at h; simp at h
  · rw [val1 a, val4 a', hy] at h; injection h with h; exact absurd h.symm hy1
  · rw [val2 a, val1 a'] at h; simp at h
  · rw [val2 a, val2 a'] at h
    simp only [List.cons_append, List.cons.injEq, true_and, List.nil_append] at h
    refine ⟨by omega, ?_, t_eq b b', by omega, h.2⟩
    rcases d with d | d <;> rcases d' with d' | d'
    · omega
    · rw [d, d'] at h; exact absurd h.1 (by decide)
    · rw [d, d'] at h; exact absurd h.1 (by decide)
    · omega
  · rw [val2 a, val3 a'] at h; simp at h
  · rw [val2 a, val4 a', hy] at h; injection h with h; exact absurd h.symm hy2
  · rw [val3 a, val1 a'] at h; simp at h
  · rw [val3 a, val2 a'] at h; simp at h
  · rw [val3 a, val3 a'] at h
    simp only [List.cons_append, List.cons.injEq, true_and, List.append_assoc] at h
    obtain ⟨e, f⟩ := List.append_inj h (by rw [beB_len, beB_len])
    have hs := beB_inj (k := 4) (by show _ < 4294967296; omega) (by show _ < 4294967296; omega) e
    obtain ⟨f1, f2⟩ := List.append_inj f (by rw [ba_size, ba_size, hs])
    exact ⟨by omega, by omega, ba_ext f1, by omega, f2⟩
  · rw [val3 a, val4 a', hy] at h; injection h with h; exact absurd h.symm hy3
  · rw [val4 a, val1 a', hx] at h; injection h with h; exact absurd h hx1
  · rw [val4 a, val2 a', hx] at h; injection h with h; exact absurd h hx2
  · rw [val4 a, val3 a', hx] at h; injection h with h; exact absurd h hx3
  · rw [val4 a, val4 a'] at h
    obtain ⟨e, f⟩ := realB_inj rp rq d d' h
    exact ⟨by omega, by omega, t_eq c c', e, f⟩

theorem propB_inj {p q : Prp} {u u' : List UInt8} (np : p.nm.size ≤ 16) (nq : q.nm.size ≤ 16) (hp : p.fit) (hq : q.fit) (h : propB p ++ u = propB q ++ u') : p = q ∧ u = u' := by
  unfold propB at h
  simp only [List.cons_append, List.cons.injEq, List.append_assoc] at h
  obtain ⟨h1, h2⟩ := h
  have hs : p.nm.size = q.nm.size := by
    have := congrArg UInt8.toNat h1
    rw [UInt8.toNat_ofNat', UInt8.toNat_ofNat', Nat.mod_eq_of_lt (by omega), Nat.mod_eq_of_lt (by omega)] at this
    exact this
  obtain ⟨a, b⟩ := List.append_inj h2 (by rw [ba_size, ba_size, hs])
  obtain ⟨e1, e2, e3, e4, e5⟩ := valB_inj hp hq b
  have e0 := ba_ext a
  refine ⟨?_, e5⟩
  cases p; cases q
  simp_all
theorem propsB_inj : ∀ (ps qs : List Prp), (∀ p ∈ ps, p.nm.size ≤ 16 ∧ p.fit) → (∀ q ∈ qs, q.nm.size ≤ 16 ∧ q.fit) → propsB ps = propsB qs → ps = qs
  | [], [], _, _, _ => rfl
  | [], q :: r, _, _, h => by simp [propsB, propB] at h
  | p :: r, [], _, _, h => by simp [propsB, propB] at h
  | p :: r, q :: r', hp, hq, h => by
    have e1 : propsB (p :: r) = propB p ++ propsB r := by simp [propsB]
    have e2 : propsB (q :: r') = propB q ++ propsB r' := by simp [propsB]
    rw [e1, e2] at h
    have a := hp p (List.mem_cons_self ..)
    have b := hq q (List.mem_cons_self ..)
    obtain ⟨x, y⟩ := propB_inj a.1 b.1 a.2 b.2 h
    rw [x, propsB_inj r r' (fun z hz => hp z (List.mem_cons_of_mem _ hz)) (fun z hz => hq z (List.mem_cons_of_mem _ hz)) y]
end Go.Proofs.YteigbejidfkhpaaDoor
