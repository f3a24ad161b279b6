/- Layer 15: a method's bytes, and the plain law: they tell the method. -/
import Derived.Test.YteigbejidfkhpaaDoorTbO
import Derived.Test.YteigbejidfkhpaaDoorTbK
namespace Go.Proofs.YteigbejidfkhpaaDoor
open Go Go.RowKit
set_option linter.unusedSimpArgs false
set_option linter.unusedVariables false

/-- What a form, letter by letter, makes of numbers, texts and properties (tb: how many tables there were). -/
def encB : List UInt8 → List Int → List ByteArray → Nat → List Prp → Option (List UInt8)
  | [], ns, ts, tb, ps => if ns = [] ∧ ts = [] ∧ (tb = 0 → ps.length = 0) then some [] else none
  | c :: f, ns, ts, tb, ps =>
    if 0 < sizeOf' c.toNat then
      match ns with
      | [] => none
      | n :: ns' => if fitsB n (sizeOf' c.toNat) = true then (encB f ns' ts tb ps).map (beB n.toNat (sizeOf' c.toNat) ++ ·) else none
    else if c = 84 then
      if validB ps = true then (encB f ns ts (tb + 1) ps).map ((beB (propsB ps).length 4 ++ propsB ps) ++ ·) else none
    else
      match ts with
      | [] => none
      | t :: ts' => if t.size ≤ 1024 ∧ (c = 115 → t.size ≤ 255) then (encB f ns ts' tb ps).map ((beB t.size (if c = 115 then 1 else 4) ++ t.data.toList) ++ ·) else none

theorem size_cases (c : Int) : sizeOf' c = 0 ∨ sizeOf' c = 1 ∨ sizeOf' c = 2 ∨ sizeOf' c = 4 ∨ sizeOf' c = 8 := by
  unfold sizeOf'
  (repeat' split) <;> simp

theorem fits_lt {n : Int} {s : Nat} (h : fitsB n s = true) (hn : n ≤ 9223372036854775807) (hs : s = 1 ∨ s = 2 ∨ s = 4 ∨ s = 8) : 0 ≤ n ∧ n.toNat < 256 ^ s := by
  unfold fitsB at h
  simp only [Bool.and_eq_true, Bool.or_eq_true, decide_eq_true_eq] at h
  obtain ⟨h0, h1⟩ := h
  refine ⟨h0, ?_⟩
  rcases hs with rfl | rfl | rfl | rfl
  · have : n < 256 := by rcases h1 with h1 | h1; omega; exact h1
    show _ < 256; omega
  · have : n < 65536 := by rcases h1 with h1 | h1; omega; exact h1
    show _ < 65536; omega
  · have : n < 4294967296 := by rcases h1 with h1 | h1; omega; exact h1
    show _ < 4294967296; omega
  · show _ < 18446744073709551616; omega

theorem encB_inj : ∀ (f : List UInt8) (ns ns' : List Int) (ts ts' : List ByteArray) (tb : Nat) (ps ps' : List Prp) (y : List UInt8),
    (∀ n ∈ ns, n ≤ 9223372036854775807) → (∀ n ∈ ns', n ≤ 9223372036854775807) → (∀ p ∈ ps, p.r < 2 ^ 64 ∧ -9223372036854775808 ≤ p.n ∧ p.n ≤ 9223372036854775807) → (∀ p ∈ ps', p.r < 2 ^ 64 ∧ -9223372036854775808 ≤ p.n ∧ p.n ≤ 9223372036854775807) →
    (0 < tb → ps = ps') → encB f ns ts tb ps = some y → encB f ns' ts' tb ps' = some y → ns = ns' ∧ ts = ts' ∧ ps = ps'
  | [], ns, ns', ts, ts', tb, ps, ps', y, _, _, _, _, ht, h, h' => by
    unfold encB at h h'
    split at h
    · rename_i g
      split at h'
      · rename_i g'
        refine ⟨by rw [g.1, g'.1], by rw [g.2.1, g'.2.1], ?_⟩
        by_cases h0 : tb = 0
        · rw [List.eq_nil_of_length_eq_zero (g.2.2 h0), List.eq_nil_of_length_eq_zero (g'.2.2 h0)]
        · exact ht (by omega)
      · cases h'
    · cases h
  | c :: f, ns, ns', ts, ts', tb, ps, ps', y, hn, hn', hp, hp', ht, h, h' => by
    unfold encB at h h'
    by_cases h0 : 0 < sizeOf' c.toNat
    · rw [if_pos h0] at h h'
      have hs : sizeOf' c.toNat = 1 ∨ sizeOf' c.toNat = 2 ∨ sizeOf' c.toNat = 4 ∨ sizeOf' c.toNat = 8 := by rcases size_cases c.toNat with e | e | e | e | e <;> omega
      cases ns with
      | nil => cases h
      | cons n ns =>
        cases ns' with
        | nil => cases h'
        | cons n' ns' =>
          simp only at h h'
          split at h
          · rename_i g
            split at h'
            · rename_i g'
              obtain ⟨u, hu, hy⟩ := Option.map_eq_some_iff.1 h
              obtain ⟨u', hu', hy'⟩ := Option.map_eq_some_iff.1 h'
              obtain ⟨e, e2⟩ := List.append_inj (hy.trans hy'.symm) (by rw [beB_len, beB_len])
              subst e2
              obtain ⟨a, b⟩ := fits_lt g (hn n (List.mem_cons_self ..)) hs
              obtain ⟨a', b'⟩ := fits_lt g' (hn' n' (List.mem_cons_self ..)) hs
              have := beB_inj b b' e
              obtain ⟨r1, r2, r3⟩ := encB_inj f ns ns' ts ts' tb ps ps' u (fun m hm => hn m (List.mem_cons_of_mem _ hm)) (fun m hm => hn' m (List.mem_cons_of_mem _ hm)) hp hp' ht hu hu'
              exact ⟨by rw [r1, show n = n' by omega], r2, r3⟩
            · cases h'
          · cases h
    · rw [if_neg h0] at h h'
      by_cases h1 : c = 84
      · rw [if_pos h1] at h h'
        split at h
        · rename_i g
          split at h'
          · rename_i g'
            obtain ⟨u, hu, hy⟩ := Option.map_eq_some_iff.1 h
            obtain ⟨u', hu', hy'⟩ := Option.map_eq_some_iff.1 h'
            have e := hy.trans hy'.symm
            rw [List.append_assoc, List.append_assoc] at e
            obtain ⟨e1, e2⟩ := List.append_inj e (by rw [beB_len, beB_len])
            have l1 := propsB_len ps (valid_all g)
            have l2 := propsB_len ps' (valid_all g')
            have m1 := valid_len g
            have m2 := valid_len g'
            have hl := beB_inj (k := 4) (by show _ < 4294967296; omega) (by show _ < 4294967296; omega) e1
            obtain ⟨e3, e4⟩ := List.append_inj e2 hl
            have nm : ∀ (qs : List Prp), (∀ p ∈ qs, p.r < 2 ^ 64 ∧ -9223372036854775808 ≤ p.n ∧ p.n ≤ 9223372036854775807) → validB qs = true → ∀ p ∈ qs, p.nm.size ≤ 16 ∧ p.fit := fun qs hq hv p hp => by
              obtain ⟨v1, v2⟩ := valid_all hv p hp
              obtain ⟨q1, q2, q3⟩ := hq p hp
              unfold nameB at v1
              simp only [Bool.and_eq_true, decide_eq_true_eq] at v1
              exact ⟨v1.1.2, v2, q1, q2, q3⟩
            have hps := propsB_inj ps ps' (nm ps hp g) (nm ps' hp' g') e3
            subst e4
            exact encB_inj f ns ns' ts ts' (tb + 1) ps ps' u hn hn' hp hp' (fun _ => hps) hu hu'
          · cases h'
        · cases h
      · rw [if_neg h1] at h h'
        cases ts with
        | nil => cases h
        | cons t ts =>
          cases ts' with
          | nil => cases h'
          | cons t' ts' =>
            simp only at h h'
            split at h
            · rename_i g
              split at h'
              · rename_i g'
                obtain ⟨u, hu, hy⟩ := Option.map_eq_some_iff.1 h
                obtain ⟨u', hu', hy'⟩ := Option.map_eq_some_iff.1 h'
                have e := hy.trans hy'.symm
                rw [List.append_assoc, List.append_assoc] at e
                obtain ⟨e1, e2⟩ := List.append_inj e (by rw [beB_len, beB_len])
                have hl : t.size = t'.size := by
                  by_cases hc : c = 115
                  · rw [if_pos hc] at e1
                    have q1 := g.2 hc
                    have q2 := g'.2 hc
                    exact beB_inj (k := 1) (by show _ < 256; omega) (by show _ < 256; omega) e1
                  · rw [if_neg hc] at e1
                    have q1 := g.1
                    have q2 := g'.1
                    exact beB_inj (k := 4) (by show _ < 4294967296; omega) (by show _ < 4294967296; omega) e1
                obtain ⟨e3, e4⟩ := List.append_inj e2 (by rw [ba_size, ba_size, hl])
                subst e4
                obtain ⟨r1, r2, r3⟩ := encB_inj f ns ns' ts ts' tb ps ps' u hn hn' hp hp' ht hu hu'
                exact ⟨r1, by rw [r2, ba_ext e3], r3⟩
              · cases h'
            · cases h

/-- A method. -/
structure Mth where
  c : Int
  i : Int
  ns : List Int
  ts : List ByteArray
  ps : List Prp
def Mth.fit (m : Mth) : Prop := (∀ n ∈ m.ns, n ≤ 9223372036854775807) ∧ ∀ p ∈ m.ps, p.r < 2 ^ 64 ∧ -9223372036854775808 ≤ p.n ∧ p.n ≤ 9223372036854775807
def Mth.bytes (m : Mth) : Option (List UInt8) := (formCI m.c m.i).bind fun f => (encB f.data.toList m.ns m.ts 0 m.ps).map ((beB m.c.toNat 2 ++ beB m.i.toNat 2) ++ ·)
theorem form_range {c i : Int} {f : ByteArray} (h : formCI c i = some f) : 0 ≤ c ∧ c ≤ 255 ∧ 0 ≤ i ∧ i ≤ 255 := by
  unfold formCI at h
  split at h
  · assumption
  · cases h
theorem bytes_inj {m m' : Mth} {y : List UInt8} (hm : m.fit) (hm' : m'.fit) (h : m.bytes = some y) (h' : m'.bytes = some y) : m = m' := by
  unfold Mth.bytes at h h'
  obtain ⟨f, hf, h⟩ := Option.bind_eq_some_iff.1 h
  obtain ⟨f', hf', h'⟩ := Option.bind_eq_some_iff.1 h'
  obtain ⟨u, hu, hy⟩ := Option.map_eq_some_iff.1 h
  obtain ⟨u', hu', hy'⟩ := Option.map_eq_some_iff.1 h'
  have e := hy.trans hy'.symm
  rw [List.append_assoc, List.append_assoc] at e
  obtain ⟨e1, e2⟩ := List.append_inj e (by rw [beB_len, beB_len])
  obtain ⟨e3, e4⟩ := List.append_inj e2 (by rw [beB_len, beB_len])
  obtain ⟨a1, a2, a3, a4⟩ := form_range hf
  obtain ⟨b1, b2, b3, b4⟩ := form_range hf'
  have c1 := beB_inj (k := 2) (by show _ < 65536; omega) (by show _ < 65536; omega) e1
  have c2 := beB_inj (k := 2) (by show _ < 65536; omega) (by show _ < 65536; omega) e3
  have d1 : m.c = m'.c := by omega
  have d2 : m.i = m'.i := by omega
  rw [d1, d2, hf'] at hf
  injection hf with hf
  subst hf e4
  obtain ⟨r1, r2, r3⟩ := encB_inj _ _ _ _ _ _ _ _ _ hm.1 hm'.1 hm.2 hm'.2 (fun h => by omega) hu hu'
  cases m; cases m'
  simp_all
theorem bytes_head {m : Mth} {y : List UInt8} (h : m.bytes = some y) : ∃ (a b c d : UInt8) (u : List UInt8), y = a :: b :: c :: d :: u ∧ (a.toNat : Int) * 256 + b.toNat = m.c ∧ (c.toNat : Int) * 256 + d.toNat = m.i := by
  unfold Mth.bytes at h
  obtain ⟨f, hf, h⟩ := Option.bind_eq_some_iff.1 h
  obtain ⟨u, hu, hy⟩ := Option.map_eq_some_iff.1 h
  obtain ⟨a1, a2, a3, a4⟩ := form_range hf
  refine ⟨_, _, _, _, u, hy.symm, ?_, ?_⟩
  · rw [dig_nat, dig_nat]; simp only [Nat.pow_zero, Nat.pow_one, Nat.div_one]; omega
  · rw [dig_nat, dig_nat]; simp only [Nat.pow_zero, Nat.pow_one, Nat.div_one]; omega
end Go.Proofs.YteigbejidfkhpaaDoor
