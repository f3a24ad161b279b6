/- Texts of this claim, joined: TbO, TbK, TbS, TbI, TbL, TbQ, RfA, RhA, TbG, RfB, RfC, RfD, TkB, SoA, SoB, SoC, SoD, SoE, SoF, TkC. -/
import Derived.Test.YteigbejidfkhpaaDoorMTma0
import Derived.WalkSmall
import Derived.Lib.OthersKept
import Derived.BigQuiet
import Derived.Deep.QuietTactic
import Derived.Shelf.SlSortCmp.KitK
import Derived.Sort.WalkB2
import Derived.Sort.WalkB12
import Derived.Deep.LoopGhost
import Derived.Deep.DeepCutAuto
import Derived.Deep.CutRange
import Derived.Sort.Walk0
import Derived.Shelf.SlLaysF0
import Derived.Sort.LotA
/- Plain law: a value's bytes tell the value. -/
namespace Go.Proofs.YteigbejidfkhpaaDoor
open Go Go.RowKit
set_option linter.unusedSimpArgs false
set_option linter.unusedVariables false

/-- The first byte tells the kind. -/
theorem realB_head (r : Nat) (u : List UInt8) : ∃ x l, realB r ++ u = x :: l ∧ x ≠ 108 ∧ x ≠ 116 ∧ x ≠ 83 := by
  unfold realB
  cases narB r with
  | none => exact ⟨100, _, rfl, by decide, by decide, by decide⟩
  | some n => exact ⟨102, _, rfl, by decide, by decide, by decide⟩
def Prp.fit (p : Prp) : Prop := p.good = true ∧ p.r < 2 ^ 64 ∧ -9223372036854775808 ≤ p.n ∧ p.n ≤ 9223372036854775807
theorem val1 {p : Prp} (h : p.k = 1) : valB p = 108 :: beB (p.n % 18446744073709551616).toNat 8 := by unfold valB; rw [if_pos h]
theorem val2 {p : Prp} (h : p.k = 2) : valB p = [116, UInt8.ofNat p.n.toNat] := by unfold valB; rw [if_neg (by omega), if_pos h]
theorem val3 {p : Prp} (h : p.k = 3) : valB p = 83 :: (beB p.t.size 4 ++ p.t.data.toList) := by unfold valB; rw [if_neg (by omega), if_neg (by omega), if_pos h]
theorem val4 {p : Prp} (h : p.k = 4) : valB p = realB p.r := by unfold valB; rw [if_neg (by omega), if_neg (by omega), if_neg (by omega)]
theorem t_eq {s t : ByteArray} (hs : s.size = 0) (ht : t.size = 0) : s = t := by rw [ba_nil hs, ba_nil ht]

theorem valB_inj {p q : Prp} {u u' : List UInt8} (hp : p.fit) (hq : q.fit) (h : valB p ++ u = valB q ++ u') : p.k = q.k ∧ p.n = q.n ∧ p.t = q.t ∧ p.r = q.r ∧ u = u' := by
  obtain ⟨gp, rp, np0, np1⟩ := hp
  obtain ⟨gq, rq, nq0, nq1⟩ := hq
  obtain ⟨x, lx, hx, hx1, hx2, hx3⟩ := realB_head p.r u
  obtain ⟨y, ly, hy, hy1, hy2, hy3⟩ := realB_head q.r u'
  rcases good_of gp with ⟨a, b, c⟩ | ⟨a, b, c, d⟩ | ⟨a, b, c, d⟩ | ⟨a, b, c, d⟩ <;> rcases good_of gq with ⟨a', b', c'⟩ | ⟨a', b', c', d'⟩ | ⟨a', b', c', d'⟩ | ⟨a', b', c', d'⟩
  · rw [val1 a, val1 a'] at h
    simp only [List.cons_append, List.cons.injEq, true_and] at h
    obtain ⟨e, f⟩ := List.append_inj h (by rw [beB_len, beB_len])
    have := beB_inj (k := 8) (by show _ < 18446744073709551616; omega) (by show _ < 18446744073709551616; omega) e
    exact ⟨by omega, by omega, t_eq b b', by omega, f⟩
  · rw [val1 a, val2 a'] at h; simp at h
  · rw [val1 a, val3 a'] at h; simp at h
  · rw [val1 a, val4 a', hy] at h; injection h with h; exact absurd h.symm hy1
  · rw [val2 a, val1 a'] at h; simp at h
  · rw [val2 a, val2 a'] at h
    simp only [List.cons_append, List.cons.injEq, true_and, List.nil_append] at h
    refine ⟨by omega, ?_, t_eq b b', by omega, h.2⟩
    rcases d with d | d <;> rcases d' with d' | d'
    · omega
    · rw [d, d'] at h; exact absurd h.1 (by decide)
    · rw [d, d'] at h; exact absurd h.1 (by decide)
    · omega
  · rw [val2 a, val3 a'] at h; simp at h
  · rw [val2 a, val4 a', hy] at h; injection h with h; exact absurd h.symm hy2
  · rw [val3 a, val1 a'] at h; simp at h
  · rw [val3 a, val2 a'] at h; simp at h
  · rw [val3 a, val3 a'] at h
    simp only [List.cons_append, List.cons.injEq, true_and, List.append_assoc] at h
    obtain ⟨e, f⟩ := List.append_inj h (by rw [beB_len, beB_len])
    have hs := beB_inj (k := 4) (by show _ < 4294967296; omega) (by show _ < 4294967296; omega) e
    obtain ⟨f1, f2⟩ := List.append_inj f (by rw [ba_size, ba_size, hs])
    exact ⟨by omega, by omega, ba_ext f1, by omega, f2⟩
  · rw [val3 a, val4 a', hy] at h; injection h with h; exact absurd h.symm hy3
  · rw [val4 a, val1 a', hx] at h; injection h with h; exact absurd h hx1
  · rw [val4 a, val2 a', hx] at h; injection h with h; exact absurd h hx2
  · rw [val4 a, val3 a', hx] at h; injection h with h; exact absurd h hx3
  · rw [val4 a, val4 a'] at h
    obtain ⟨e, f⟩ := realB_inj rp rq d d' h
    exact ⟨by omega, by omega, t_eq c c', e, f⟩

theorem propB_inj {p q : Prp} {u u' : List UInt8} (np : p.nm.size ≤ 16) (nq : q.nm.size ≤ 16) (hp : p.fit) (hq : q.fit) (h : propB p ++ u = propB q ++ u') : p = q ∧ u = u' := by
  unfold propB at h
  simp only [List.cons_append, List.cons.injEq, List.append_assoc] at h
  obtain ⟨h1, h2⟩ := h
  have hs : p.nm.size = q.nm.size := by
    have := congrArg UInt8.toNat h1
    rw [UInt8.toNat_ofNat', UInt8.toNat_ofNat', Nat.mod_eq_of_lt (by omega), Nat.mod_eq_of_lt (by omega)] at this
    exact this
  obtain ⟨a, b⟩ := List.append_inj h2 (by rw [ba_size, ba_size, hs])
  obtain ⟨e1, e2, e3, e4, e5⟩ := valB_inj hp hq b
  have e0 := ba_ext a
  refine ⟨?_, e5⟩
  cases p; cases q
  simp_all
theorem propsB_inj : ∀ (ps qs : List Prp), (∀ p ∈ ps, p.nm.size ≤ 16 ∧ p.fit) → (∀ q ∈ qs, q.nm.size ≤ 16 ∧ q.fit) → propsB ps = propsB qs → ps = qs
  | [], [], _, _, _ => rfl
  | [], q :: r, _, _, h => by simp [propsB, propB] at h
  | p :: r, [], _, _, h => by simp [propsB, propB] at h
  | p :: r, q :: r', hp, hq, h => by
    have e1 : propsB (p :: r) = propB p ++ propsB r := by simp [propsB]
    have e2 : propsB (q :: r') = propB q ++ propsB r' := by simp [propsB]
    rw [e1, e2] at h
    have a := hp p (List.mem_cons_self ..)
    have b := hq q (List.mem_cons_self ..)
    obtain ⟨x, y⟩ := propB_inj a.1 b.1 a.2 b.2 h
    rw [x, propsB_inj r r' (fun z hz => hp z (List.mem_cons_of_mem _ hz)) (fun z hz => hq z (List.mem_cons_of_mem _ hz)) y]
end Go.Proofs.YteigbejidfkhpaaDoor

/- Layer 15: fits; table.Put of properties that cannot be. -/
namespace Go.Proofs.YteigbejidfkhpaaDoor
open Go Go.RowKit
set_option linter.unusedSimpArgs false
set_option linter.unusedVariables false

/-- Can a number be written in so many bytes? -/
def fitsB (n : Int) (s : Nat) : Bool := decide (0 ≤ n) && (decide (s = 8) || decide (n < 2 ^ (8 * s)))
set_option maxRecDepth 100000 in
set_option maxHeartbeats 1000000 in
theorem fits_c {w : World} (n : Int) (s : Nat) (hs : s = 1 ∨ s = 2 ∨ s = 4 ∨ s = 8) : Calls Tryd.prog 30 #[.int .i64 n, .int .i64 s] w fun e w' => e = .returned (.bool (fitsB n s)) ∧ w = w' := by
  by_cases h0 : n < 0
  · have e : fitsB n s = false := by unfold fitsB; rw [decide_eq_false (by omega)]; rfl
    rw [e]
    clear e hs
    go_enter Tryd.func30, Tryd.ntmps30
    go_wp2_with fail
    go_ret
    exact ⟨rfl, rfl⟩
  · have h0' : 0 ≤ n := by omega
    have e : fitsB n s = (decide (s = 8) || decide (n < 2 ^ (8 * s))) := by unfold fitsB; rw [decide_eq_true h0']; rfl
    rw [e]
    clear e h0
    rcases hs with rfl | rfl | rfl | rfl
    · go_enter Tryd.func30, Tryd.ntmps30
      go_wp2_with fail
      go_ret
      exact ⟨by first | rfl | (simp; done), rfl⟩
    · go_enter Tryd.func30, Tryd.ntmps30
      go_wp2_with fail
      go_ret
      exact ⟨by first | rfl | (simp; done), rfl⟩
    · go_enter Tryd.func30, Tryd.ntmps30
      go_wp2_with fail
      go_ret
      exact ⟨by first | rfl | (simp; done), rfl⟩
    · go_enter Tryd.func30, Tryd.ntmps30
      go_wp2_with fail
      go_ret
      exact ⟨by first | rfl | (simp; done), rfl⟩

set_option maxRecDepth 100000 in
theorem putBad_c {w : World} {v vl : Value} {ps : List Prp} (hp : RPr w vl ps) (hsz : ∀ p ∈ ps, p.nm.size ≤ 140737488351232) (hv : validB ps = false) :
    Calls Tryd.prog 14 #[v, vl] w fun e w' => e = .returned (.tuple #[.slice none 0 0, .int .i64 36]) ∧ Below w.heap.size w w' := by
  have HV := Lib.hid (valid_c hp hsz)
  rw [hv] at HV
  clear hp hsz hv
  go_enter Tryd.func14, Tryd.ntmps14
  go_wp2_with fail
  refine (HV.out).mono ?_
  rintro e w1 ⟨rfl, b1⟩
  go_wp2_with fail
  go_ret2
  exact ⟨rfl, b1⟩
end Go.Proofs.YteigbejidfkhpaaDoor

/- Layer 15: a method's bytes, and the plain law: they tell the method. -/
namespace Go.Proofs.YteigbejidfkhpaaDoor
open Go Go.RowKit
set_option linter.unusedSimpArgs false
set_option linter.unusedVariables false

/-- What a form, letter by letter, makes of numbers, texts and properties (tb: how many tables there were). -/
def encB : List UInt8 → List Int → List ByteArray → Nat → List Prp → Option (List UInt8)
  | [], ns, ts, tb, ps => if ns = [] ∧ ts = [] ∧ (tb = 0 → ps.length = 0) then some [] else none
  | c :: f, ns, ts, tb, ps =>
    if 0 < sizeOf' c.toNat then
      match ns with
      | [] => none
      | n :: ns' => if fitsB n (sizeOf' c.toNat) = true then (encB f ns' ts tb ps).map (beB n.toNat (sizeOf' c.toNat) ++ ·) else none
    else if c = 84 then
      if validB ps = true then (encB f ns ts (tb + 1) ps).map ((beB (propsB ps).length 4 ++ propsB ps) ++ ·) else none
    else
      match ts with
      | [] => none
      | t :: ts' => if t.size ≤ 1024 ∧ (c = 115 → t.size ≤ 255) then (encB f ns ts' tb ps).map ((beB t.size (if c = 115 then 1 else 4) ++ t.data.toList) ++ ·) else none

theorem size_cases (c : Int) : sizeOf' c = 0 ∨ sizeOf' c = 1 ∨ sizeOf' c = 2 ∨ sizeOf' c = 4 ∨ sizeOf' c = 8 := by
  unfold sizeOf'
  (repeat' split) <;> simp

theorem fits_lt {n : Int} {s : Nat} (h : fitsB n s = true) (hn : n ≤ 9223372036854775807) (hs : s = 1 ∨ s = 2 ∨ s = 4 ∨ s = 8) : 0 ≤ n ∧ n.toNat < 256 ^ s := by
  unfold fitsB at h
  simp only [Bool.and_eq_true, Bool.or_eq_true, decide_eq_true_eq] at h
  obtain ⟨h0, h1⟩ := h
  refine ⟨h0, ?_⟩
  rcases hs with rfl | rfl | rfl | rfl
  · have : n < 256 := by rcases h1 with h1 | h1; omega; exact h1
    show _ < 256; omega
  · have : n < 65536 := by rcases h1 with h1 | h1; omega; exact h1
    show _ < 65536; omega
  · have : n < 4294967296 := by rcases h1 with h1 | h1; omega; exact h1
    show _ < 4294967296; omega
  · show _ < 18446744073709551616; omega

theorem encB_inj : ∀ (f : List UInt8) (ns ns' : List Int) (ts ts' : List ByteArray) (tb : Nat) (ps ps' : List Prp) (y : List UInt8),
    (∀ n ∈ ns, n ≤ 9223372036854775807) → (∀ n ∈ ns', n ≤ 9223372036854775807) → (∀ p ∈ ps, p.r < 2 ^ 64 ∧ -9223372036854775808 ≤ p.n ∧ p.n ≤ 9223372036854775807) → (∀ p ∈ ps', p.r < 2 ^ 64 ∧ -9223372036854775808 ≤ p.n ∧ p.n ≤ 9223372036854775807) →
    (0 < tb → ps = ps') → encB f ns ts tb ps = some y → encB f ns' ts' tb ps' = some y → ns = ns' ∧ ts = ts' ∧ ps = ps'
  | [], ns, ns', ts, ts', tb, ps, ps', y, _, _, _, _, ht, h, h' => by
    unfold encB at h h'
    split at h
    · rename_i g
      split at h'
      · rename_i g'
        refine ⟨by rw [g.1, g'.1], by rw [g.2.1, g'.2.1], ?_⟩
        by_cases h0 : tb = 0
        · rw [List.eq_nil_of_length_eq_zero (g.2.2 h0), List.eq_nil_of_length_eq_zero (g'.2.2 h0)]
        · exact ht (by omega)
      · cases h'
    · cases h
  | c :: f, ns, ns', ts, ts', tb, ps, ps', y, hn, hn', hp, hp', ht, h, h' => by
    unfold encB at h h'
    by_cases h0 : 0 < sizeOf' c.toNat
    · rw [if_pos h0] at h h'
      have hs : sizeOf' c.toNat = 1 ∨ sizeOf' c.toNat = 2 ∨ sizeOf' c.toNat = 4 ∨ sizeOf' c.toNat = 8 := by rcases size_cases c.toNat with e | e | e | e | e <;> omega
      cases ns with
      | nil => cases h
      | cons n ns =>
        cases ns' with
        | nil => cases h'
        | cons n' ns' =>
          simp only at h h'
          split at h
          · rename_i g
            split at h'
            · rename_i g'
              obtain ⟨u, hu, hy⟩ := Option.map_eq_some_iff.1 h
              obtain ⟨u', hu', hy'⟩ := Option.map_eq_some_iff.1 h'
              obtain ⟨e, e2⟩ := List.append_inj (hy.trans hy'.symm) (by rw [beB_len, beB_len])
              subst e2
              obtain ⟨a, b⟩ := fits_lt g (hn n (List.mem_cons_self ..)) hs
              obtain ⟨a', b'⟩ := fits_lt g' (hn' n' (List.mem_cons_self ..)) hs
              have := beB_inj b b' e
              obtain ⟨r1, r2, r3⟩ := encB_inj f ns ns' ts ts' tb ps ps' u (fun m hm => hn m (List.mem_cons_of_mem _ hm)) (fun m hm => hn' m (List.mem_cons_of_mem _ hm)) hp hp' ht hu hu'
              exact ⟨by rw [r1, show n = n' by omega], r2, r3⟩
            · cases h'
          · cases h
    · rw [if_neg h0] at h h'
      by_cases h1 : c = 84
      · rw [if_pos h1] at h h'
        split at h
        · rename_i g
          split at h'
          · rename_i g'
            obtain ⟨u, hu, hy⟩ := Option.map_eq_some_iff.1 h
            obtain ⟨u', hu', hy'⟩ := Option.map_eq_some_iff.1 h'
            have e := hy.trans hy'.symm
            rw [List.append_assoc, List.append_assoc] at e
            obtain ⟨e1, e2⟩ := List.append_inj e (by rw [beB_len, beB_len])
            have l1 := propsB_len ps (valid_all g)
            have l2 := propsB_len ps' (valid_all g')
            have m1 := valid_len g
            have m2 := valid_len g'
            have hl := beB_inj (k := 4) (by show _ < 4294967296; omega) (by show _ < 4294967296; omega) e1
            obtain ⟨e3, e4⟩ := List.append_inj e2 hl
            have nm : ∀ (qs : List Prp), (∀ p ∈ qs, p.r < 2 ^ 64 ∧ -9223372036854775808 ≤ p.n ∧ p.n ≤ 9223372036854775807) → validB qs = true → ∀ p ∈ qs, p.nm.size ≤ 16 ∧ p.fit := fun qs hq hv p hp => by
              obtain ⟨v1, v2⟩ := valid_all hv p hp
              obtain ⟨q1, q2, q3⟩ := hq p hp
              unfold nameB at v1
              simp only [Bool.and_eq_true, decide_eq_true_eq] at v1
              exact ⟨v1.1.2, v2, q1, q2, q3⟩
            have hps := propsB_inj ps ps' (nm ps hp g) (nm ps' hp' g') e3
            subst e4
            exact encB_inj f ns ns' ts ts' (tb + 1) ps ps' u hn hn' hp hp' (fun _ => hps) hu hu'
          · cases h'
        · cases h
      · rw [if_neg h1] at h h'
        cases ts with
        | nil => cases h
        | cons t ts =>
          cases ts' with
          | nil => cases h'
          | cons t' ts' =>
            simp only at h h'
            split at h
            · rename_i g
              split at h'
              · rename_i g'
                obtain ⟨u, hu, hy⟩ := Option.map_eq_some_iff.1 h
                obtain ⟨u', hu', hy'⟩ := Option.map_eq_some_iff.1 h'
                have e := hy.trans hy'.symm
                rw [List.append_assoc, List.append_assoc] at e
                obtain ⟨e1, e2⟩ := List.append_inj e (by rw [beB_len, beB_len])
                have hl : t.size = t'.size := by
                  by_cases hc : c = 115
                  · rw [if_pos hc] at e1
                    have q1 := g.2 hc
                    have q2 := g'.2 hc
                    exact beB_inj (k := 1) (by show _ < 256; omega) (by show _ < 256; omega) e1
                  · rw [if_neg hc] at e1
                    have q1 := g.1
                    have q2 := g'.1
                    exact beB_inj (k := 4) (by show _ < 4294967296; omega) (by show _ < 4294967296; omega) e1
                obtain ⟨e3, e4⟩ := List.append_inj e2 (by rw [ba_size, ba_size, hl])
                subst e4
                obtain ⟨r1, r2, r3⟩ := encB_inj f ns ns' ts ts' tb ps ps' u hn hn' hp hp' ht hu hu'
                exact ⟨r1, by rw [r2, ba_ext e3], r3⟩
              · cases h'
            · cases h

/-- A method. -/
structure Mth where
  c : Int
  i : Int
  ns : List Int
  ts : List ByteArray
  ps : List Prp
def Mth.fit (m : Mth) : Prop := (∀ n ∈ m.ns, n ≤ 9223372036854775807) ∧ ∀ p ∈ m.ps, p.r < 2 ^ 64 ∧ -9223372036854775808 ≤ p.n ∧ p.n ≤ 9223372036854775807
def Mth.bytes (m : Mth) : Option (List UInt8) := (formCI m.c m.i).bind fun f => (encB f.data.toList m.ns m.ts 0 m.ps).map ((beB m.c.toNat 2 ++ beB m.i.toNat 2) ++ ·)
theorem form_range {c i : Int} {f : ByteArray} (h : formCI c i = some f) : 0 ≤ c ∧ c ≤ 255 ∧ 0 ≤ i ∧ i ≤ 255 := by
  unfold formCI at h
  split at h
  · assumption
  · cases h
theorem bytes_inj {m m' : Mth} {y : List UInt8} (hm : m.fit) (hm' : m'.fit) (h : m.bytes = some y) (h' : m'.bytes = some y) : m = m' := by
  unfold Mth.bytes at h h'
  obtain ⟨f, hf, h⟩ := Option.bind_eq_some_iff.1 h
  obtain ⟨f', hf', h'⟩ := Option.bind_eq_some_iff.1 h'
  obtain ⟨u, hu, hy⟩ := Option.map_eq_some_iff.1 h
  obtain ⟨u', hu', hy'⟩ := Option.map_eq_some_iff.1 h'
  have e := hy.trans hy'.symm
  rw [List.append_assoc, List.append_assoc] at e
  obtain ⟨e1, e2⟩ := List.append_inj e (by rw [beB_len, beB_len])
  obtain ⟨e3, e4⟩ := List.append_inj e2 (by rw [beB_len, beB_len])
  obtain ⟨a1, a2, a3, a4⟩ := form_range hf
  obtain ⟨b1, b2, b3, b4⟩ := form_range hf'
  have c1 := beB_inj (k := 2) (by show _ < 65536; omega) (by show _ < 65536; omega) e1
  have c2 := beB_inj (k := 2) (by show _ < 65536; omega) (by show _ < 65536; omega) e3
  have d1 : m.c = m'.c := by omega
  have d2 : m.i = m'.i := by omega
  rw [d1, d2, hf'] at hf
  injection hf with hf
  subst hf e4
  obtain ⟨r1, r2, r3⟩ := encB_inj _ _ _ _ _ _ _ _ _ hm.1 hm'.1 hm.2 hm'.2 (fun h => by omega) hu hu'
  cases m; cases m'
  simp_all
theorem bytes_head {m : Mth} {y : List UInt8} (h : m.bytes = some y) : ∃ (a b c d : UInt8) (u : List UInt8), y = a :: b :: c :: d :: u ∧ (a.toNat : Int) * 256 + b.toNat = m.c ∧ (c.toNat : Int) * 256 + d.toNat = m.i := by
  unfold Mth.bytes at h
  obtain ⟨f, hf, h⟩ := Option.bind_eq_some_iff.1 h
  obtain ⟨u, hu, hy⟩ := Option.map_eq_some_iff.1 h
  obtain ⟨a1, a2, a3, a4⟩ := form_range hf
  refine ⟨_, _, _, _, u, hy.symm, ?_, ?_⟩
  · rw [dig_nat, dig_nat]; simp only [Nat.pow_zero, Nat.pow_one, Nat.div_one]; omega
  · rw [dig_nat, dig_nat]; simp only [Nat.pow_zero, Nat.pow_one, Nat.div_one]; omega
end Go.Proofs.YteigbejidfkhpaaDoor

/- Layer 15's statements: what is too long to be played. -/
namespace Go.Proofs.YteigbejidfkhpaaDoor
open Go Go.RowKit
set_option linter.unusedSimpArgs false
set_option linter.unusedVariables false

theorem round_lessL {n k : Nat} (h : k < n) : n - (intOf (.int .i64 ((k : Int) + 1))).toNat < n - (intOf (.int .i64 (k : Int))).toNat := by
  show n - ((k : Int) + 1).toNat < n - (k : Int).toNat
  rw [show ((k : Int) + 1).toNat = k + 1 by omega, Int.toNat_natCast]
  omega
set_option maxRecDepth 100000 in
set_option maxHeartbeats 2000000 in
theorem long_c {w : World} {v : Value} {ps : List Prp} (hp : RPr w v ps) (hsz : ∀ p ∈ ps, p.nm.size ≤ 140737488351232 ∧ p.t.size ≤ 140737488351232) :
    Calls Tryd.prog 13 #[v] w fun e w' => ∃ b : Bool, e = .returned (.bool b) ∧ (b = false → ps.length ≤ 16384) ∧ Below w.heap.size w w' := by
  obtain ⟨A, c, rfl, hnc, hcell⟩ := props_at hp
  have HC := Lib.hid hcell
  have HS := Lib.hid hsz
  have qs := store_float (P := Tryd.prog)
  clear hp hcell hsz
  go_enter Tryd.func13, Tryd.ntmps13
  go_wp2_with fail
  go_loopw [3, 8] (fun x i wr => ∃ k m : Nat, k ≤ ps.length ∧ i = .int .i64 k ∧ x = .int .i64 m ∧ m ≤ 16384 ∧ Hid (k ≤ m) ∧ Below w.heap.size w wr) (fun _ i _ => ps.length - (intOf i).toNat)
  case atStart => exact ⟨0, 0, Nat.zero_le _, rfl, rfl, Nat.zero_le _, Lib.hid (Nat.zero_le _), Below.refl _ _⟩
  case round =>
    obtain ⟨k, m, hk, rfl, rfl, hm, HKM, b2⟩ := hrel
    by_cases hlt : k < ps.length
    · obtain ⟨p, hp⟩ : ∃ p, ps[k]? = some p := ⟨_, List.getElem?_eq_getElem hlt⟩
      obtain ⟨a, rfl, q0, q1, q2, q3, q4⟩ := HC.out k p hp
      have hs2 := HS.out p (List.mem_of_getElem? hp)
      obtain ⟨tot, htot⟩ : ∃ tot : Nat, tot = m + (1 + p.nm.size + p.t.size) := ⟨_, rfl⟩
      have e1 : IntKind.i64.wrap (1 + (p.nm.size : Int)) = 1 + p.nm.size := IntWalk.i64_in _ (by omega)
      have e2 : IntKind.i64.wrap (1 + (p.nm.size : Int) + (p.t.size : Int)) = 1 + p.nm.size + p.t.size := IntWalk.i64_in _ (by omega)
      have e3 : IntKind.i64.wrap ((m : Int) + (1 + (p.nm.size : Int) + (p.t.size : Int))) = m + (1 + p.nm.size + p.t.size) := IntWalk.i64_in _ (by omega)
      have hz0 : (0 : Int) ≤ p.nm.size := by omega
      have hz1 : (p.nm.size : Int) ≤ 140737488351232 := by omega
      have hz2 : (p.t.size : Int) ≤ 140737488351232 := by omega
      have p0 := cell_below b2 (World.block_lt_of_cell? w _ q0) q0
      have p1 := cell_below b2 (World.block_lt_of_cell? w _ q1) q1
      have p2 := cell_below b2 (World.block_lt_of_cell? w _ q2) q2
      have p3 := cell_below b2 (World.block_lt_of_cell? w _ q3) q3
      have p4 := cell_below b2 (World.block_lt_of_cell? w _ q4) q4
      have b3 := b2.alloc b2.size (.cells #[.string p.nm, .int .i64 p.k, .int .i64 p.n, .string p.t, .float .f64 p.r] 48)
      have HTOT := Lib.hid htot
      have HLT := Lib.hid hlt
      clear hp q0 q1 q2 q3 q4 hs2 htot
      by_cases hg : (16384 : Int) < m + (1 + p.nm.size + p.t.size)
      · go_wp2_with fail
        go_ret
        exact ⟨true, rfl, (fun h => by cases h), b3⟩
      · have hg' : (m : Int) + (1 + p.nm.size + p.t.size) ≤ 16384 := by omega
        clear hg
        go_wp2_with fail
        have hwk : wrap64 ((k : Int) + 1) = (k : Int) + 1 := by have := HKM.out; unfold wrap64; omega
        go_roundw
        case rel => exact ⟨k + 1, tot, by omega, by rw [hwk]; rfl, by rw [HTOT.out]; rfl, by have := HTOT.out; omega, Lib.hid (by have := HTOT.out; have := HKM.out; omega), b3⟩
        case measure => rw [hwk]; exact round_lessL HLT.out
    · have hk2 : k = ps.length := by omega
      subst hk2
      clear hlt
      have HM := Lib.hid hm
      go_wp2_with fail
      go_ret
      exact ⟨false, rfl, (fun _ => by have := HKM.out; have := HM.out; omega), b2⟩
end Go.Proofs.YteigbejidfkhpaaDoor

/- Layer 15's statements: methods that are too heavy to be played. -/
namespace Go.Proofs.YteigbejidfkhpaaDoor
open Go Go.RowKit
set_option linter.unusedSimpArgs false
set_option linter.unusedVariables false

/-- v reads as the texts ts. -/
def RS (w : World) (v : Value) (ts : List ByteArray) : Prop := RC w v ts.length 1 (ts.map Value.string)
theorem rs_at {w : World} {v : Value} {ts : List ByteArray} (h : RS w v ts) : ∃ A c, v = .slice A ts.length c ∧ ts.length ≤ c ∧ c ≤ 9223372036854775807 ∧ ∀ j y, ts[j]? = some y → ∃ a, A = some a ∧ w.cell? (a.add j) = some (.string y) := by
  obtain ⟨A, c, rfl, h1, h2, h3, h4, h5⟩ := h
  exact ⟨A, c, rfl, h1, h2, fun j y hy => h5 j _ (by rw [List.getElem?_map, hy]; rfl)⟩

def Sm (m : Nat) : Prop := m ≤ 140737488351232
def HvPost (w : World) (ns : List Int) (ts : List ByteArray) (ps : List Prp) (e : Ending) (w' : World) : Prop := ∃ b : Bool, e = .returned (.bool b) ∧ (b = false → ns.length ≤ 16384 ∧ ts.length ≤ 16384 ∧ ps.length ≤ 16384) ∧ Below w.heap.size w w'
theorem kt_lem {n k m t s : Nat} (h1 : t = m + (1 + s)) (h2 : n + k ≤ m) : n + (k + 1) ≤ t := by omega
theorem rc_form {w : World} {v : Value} {n s : Nat} {cs : List Value} (h : RC w v n s cs) : ∃ A c, v = .slice A n c ∧ n ≤ c := by
  obtain ⟨A, c, e, h1, _⟩ := h
  exact ⟨A, c, e, h1⟩
theorem below_alloc1' (w : World) (o : Obj) : Below w.heap.size w (w.alloc o) := (Below.refl _ _).alloc (Nat.le_refl _) o
set_option maxRecDepth 100000 in
set_option maxHeartbeats 600000 in
theorem heavy_c {w : World} {cl ix : Int} {vn vt vp : Value} {ns : List Int} {ts : List ByteArray} {ps : List Prp} (hn : RI w vn ns) (ht : RS w vt ts) (hp : RPr w vp ps) (hnl : ns.length ≤ 140737488351232) (hts : ∀ t ∈ ts, t.size ≤ 140737488351232)
    (hsz : ∀ p ∈ ps, p.nm.size ≤ 140737488351232 ∧ p.t.size ≤ 140737488351232) :
    Calls Tryd.prog 10 #[.agg #[.int .i64 cl, .int .i64 ix, vn, vt, vp]] w (HvPost w ns ts ps) := by
  obtain ⟨An, cn, rfl, hn1⟩ := rc_form hn
  obtain ⟨At, ct, rfl, ht1, ht2, htc⟩ := rs_at ht
  obtain ⟨Ap, cp, rfl, hp1⟩ := rc_form hp
  have HTC := Lib.hid htc
  have HTS := Lib.hid hts
  have HP := Lib.hid hp
  have HSZ := Lib.hid hsz
  have bW := (Below.refl w.heap.size w).alloc (Nat.le_refl _) (.cells #[.int .i64 cl, .int .i64 ix, .slice An ns.length cn, .slice At ts.length ct, .slice Ap ps.length cp] 26)
  have hnl' : Sm ns.length := hnl
  clear hn ht hp htc hts hsz ht2 hnl
  go_enter Tryd.func10, Tryd.ntmps10
  go_wp2_with fail
  go_loop [3, 12, 5] (fun x i _y => ∃ k m : Nat, k ≤ ts.length ∧ i = .int .i64 k ∧ x = .int .i64 m ∧ Sm m ∧ Hid (ns.length + k ≤ m)) (fun _ i _ => ts.length - (intOf i).toNat)
  case atStart => exact ⟨0, ns.length, Nat.zero_le _, rfl, rfl, hnl', Lib.hid (Nat.le_refl _)⟩
  case round =>
    obtain ⟨k, m, hk, rfl, rfl, hm, HKM⟩ := hrel
    by_cases hlt : k < ts.length
    · obtain ⟨y, hy⟩ : ∃ y, ts[k]? = some y := ⟨_, List.getElem?_eq_getElem hlt⟩
      obtain ⟨a, rfl, q0⟩ := HTC.out k y hy
      have hs2 := HTS.out y (List.mem_of_getElem? hy)
      obtain ⟨tot, htot⟩ : ∃ tot : Nat, tot = m + (1 + y.size) := ⟨_, rfl⟩
      have hm' : m ≤ 140737488351232 := hm
      have e1 : IntKind.i64.wrap (1 + (y.size : Int)) = 1 + y.size := IntWalk.i64_in _ (by omega)
      have e3 : IntKind.i64.wrap ((m : Int) + (1 + (y.size : Int))) = m + (1 + y.size) := IntWalk.i64_in _ (by omega)
      have hz1 : (y.size : Int) ≤ 140737488351232 := by omega
      have p0 : (w.alloc (.cells #[.int .i64 cl, .int .i64 ix, .slice An ns.length cn, .slice (some a) ts.length ct, .slice Ap ps.length cp] 26)).cell? (a.add k) = some (.string y) := cell_below (below_alloc1' w _) (World.block_lt_of_cell? w _ q0) q0
      have HTOT := Lib.hid htot
      have HLT := Lib.hid hlt
      have HM := Lib.hid hm
      clear hy q0 hs2 htot hm hm'
      by_cases hg : (16384 : Int) < m + (1 + y.size)
      · go_wp2_with fail
        go_ret
        refine ⟨true, rfl, ?_, bW⟩
        intro h
        cases h
      · have hg' : (m : Int) + (1 + y.size) ≤ 16384 := by omega
        clear hg
        go_wp2_with fail
        have hwk : wrap64 ((k : Int) + 1) = (k : Int) + 1 := by have := HKM.out; unfold wrap64; omega
        have hSm : Sm tot := by have h1 := HTOT.out; show tot ≤ 140737488351232; omega
        have hKt := kt_lem HTOT.out HKM.out
        have hk1 : k + 1 ≤ ts.length := HLT.out
        have hti : (m : Int) + (1 + (y.size : Int)) = ((tot : Nat) : Int) := by rw [HTOT.out]; omega
        rw [hwk, hti]
        refine ⟨⟨k + 1, tot, hk1, rfl, rfl, hSm, Lib.hid hKt⟩, round_lessL HLT.out⟩
    · have hk2 : k = ts.length := by omega
      subst hk2
      clear hlt
      by_cases hg : (16384 : Int) < m
      · clear hm
        go_wp2_with fail
        go_ret
        exact ⟨true, rfl, (fun h => by cases h), bW⟩
      · have hg' : (m : Int) ≤ 16384 := by omega
        have HG := Lib.hid hg'
        have HLG := Lib.hid (long_c (rc_alloc HP.out (.cells #[.int .i64 cl, .int .i64 ix, .slice An ns.length cn, .slice At ts.length ct, .slice Ap ps.length cp] 26)) HSZ.out)
        clear hg hm
        go_wp2_with fail
        refine (HLG.out).mono ?_
        rintro e w2 ⟨b, rfl, hb, b2⟩
        go_wp2_with fail
        go_ret
        have hd : decide ((16384 : Int) < (m : Int)) = false := decide_eq_false (by have h2 := HG.out; omega)
        exact ⟨b, by show Ending.returned (Value.bool (decide ((16384 : Int) < (m : Int)) || b)) = _; rw [hd]; rfl, (fun h => ⟨by have h1 := HKM.out; have h2 := HG.out; omega, by have h1 := HKM.out; have h2 := HG.out; omega, hb h⟩), bW.trans (b2.mono bW.size)⟩
end Go.Proofs.YteigbejidfkhpaaDoor

/- Layer 15: words for table.Encode: a string's iterator beside bytes; tails of slices. -/
namespace Go.Proofs.YteigbejidfkhpaaDoor
open Go Go.RowKit
set_option linter.unusedSimpArgs false
set_option linter.unusedVariables false

/-- Blocks other than bytes stay. -/
def KeepsO (w w' : World) : Prop := ∀ (b : Nat) (o : Obj), (∀ (cs : Array Value) (fr : Nat × Nat), o ≠ .cells cs 5 fr) → w.heap[b]? = some o → w'.heap[b]? = some o
theorem KeepsO.refl (w : World) : KeepsO w w := fun _ _ _ h => h
theorem KeepsO.trans {a b c : World} (h : KeepsO a b) (k : KeepsO b c) : KeepsO a c := fun x o ho hx => k x o ho (h x o ho hx)
theorem keepsO_alloc (w : World) (o : Obj) : KeepsO w (w.alloc o) := fun b o' _ h => by
  rw [heap_alloc_old _ _ (Array.getElem?_eq_some_iff.1 h).1]
  exact h
theorem keepsO_grown {w w1 : World} {base : Nat} {v : Value} {l : List UInt8} (h : OB w base v l) (hg : w.grownBy w1 v.ownBlock) : KeepsO w w1 := fun b o ho hb => by
  rw [hg.block b (Array.getElem?_eq_some_iff.1 hb).1 (fun e => ?_)]
  · exact hb
  · rcases h.2 with ⟨rfl, _⟩ | ⟨g, cap, cur, rfl, _, hgc, _⟩
    · cases e
    · injection e with e
      have e' : b = g := e
      subst e'
      rw [hb] at hgc
      injection hgc with hgc
      exact ho _ _ hgc
theorem keepsO_below {w w1 : World} (h : Below w.heap.size w w1) : KeepsO w w1 := fun b o _ hb => by
  rw [h.block b (Array.getElem?_eq_some_iff.1 hb).1]
  exact hb
theorem iter_keeps {w w1 : World} {b pos : Nat} {s : ByteArray} (h : w.heap[b]? = some (.stringIter s pos)) (k : KeepsO w w1) : w1.heap[b]? = some (.stringIter s pos) := k b _ (fun _ _ e => by cases e) h
/-- Block b is the method. -/
def MB (w : World) (b : Nat) (c i : Int) (vn vt vp : Value) : Prop := w.heap[b]? = some (.cells #[.int .i64 c, .int .i64 i, vn, vt, vp] 26 (0, 0))
theorem mb_keeps {w w1 : World} {b : Nat} {c i : Int} {vn vt vp : Value} (h : MB w b c i vn vt vp) (k : KeepsO w w1) : MB w1 b c i vn vt vp := k b _ (fun _ _ e => by injection e with _ e2 _; exact absurd e2 (by decide)) h
theorem mb_new (w : World) (c i : Int) (vn vt vp : Value) : MB (w.alloc (.cells #[.int .i64 c, .int .i64 i, vn, vt, vp] 26)) w.heap.size c i vn vt vp := heap_alloc_new w _
theorem mb_facts {w : World} {b : Nat} {c i : Int} {vn vt vp : Value} (h : MB w b c i vn vt vp) : w.cell? ⟨b, 0, none⟩ = some (.int .i64 c) ∧ w.cell? ⟨b, 1, none⟩ = some (.int .i64 i) ∧ w.cell? ⟨b, 2, none⟩ = some vn ∧ w.cell? ⟨b, 3, none⟩ = some vt ∧ w.cell? ⟨b, 4, none⟩ = some vp := by
  refine ⟨?_, ?_, ?_, ?_, ?_⟩ <;> simp [World.cell?, show w.heap[b]? = _ from h]

set_option maxRecDepth 100000 in
set_option maxHeartbeats 1000000 in
theorem bigO_c {w : World} {base : Nat} {v : Value} {l : List UInt8} (h : OB w base v l) (hB : base ≤ w.heap.size) (hl : l.length ≤ 70368744177664) (n : Nat) (hn : n < 18446744073709551616) (k : Nat) (hk : k ≤ 8) :
    Calls Tryd.prog 28 #[v, .int .u64 n, .int .i64 k] w fun e w' => ∃ v', e = .returned v' ∧ OB w' base v' (l ++ beB n k) ∧ Below base w w' ∧ KeepsO w w' := by
  have H := Lib.hid h
  clear h
  go_enter Tryd.func28, Tryd.ntmps28
  go_wp2
  go_loopw [0, 7] (fun x i wr => ∃ (r : Nat) (pre : List UInt8), r ≤ k ∧ i = .int .i64 ((r : Int) - 1) ∧ Hid (pre ++ beB n r = beB n k) ∧ Hid (OB wr base x (l ++ pre)) ∧ Hid (KeepsO w wr) ∧ Below base w wr) (fun _ i _ => (intOf i + 1).toNat)
  case atStart => exact ⟨k, [], Nat.le_refl _, rfl, Lib.hid rfl, by simpa [Lib.hid] using H, Lib.hid (KeepsO.refl _), Below.refl _ _⟩
  case round =>
    obtain ⟨r, pre, hr, rfl, HP, O2, HK, b2⟩ := hrel
    cases r with
    | zero =>
      go_wp2
      go_ret
      have := HP.out
      simp only [beB, List.append_nil] at this
      exact ⟨_, rfl, by rw [← this]; exact O2.out, b2, HK.out⟩
    | succ r =>
      have hpl : pre.length ≤ 8 := by
        have := congrArg List.length HP.out
        rw [List.length_append, beB_len, beB_len] at this
        omega
      go_wp2_with (at_builtin; refine app_b (w0 := w) (base := base) (l := l ++ pre) (m := [dig n r]) rfl (.tmp 14) (.tmp 20) rfl rfl rfl (O2.out.alloc _) (rb_dig wr _ _ (dig_val n r)) (b2.alloc (by have := b2.size; omega) _) (by have := b2.size; simp; omega) (by simp; omega) ?_; intro v4 w4 o4 b4 g4 _; have HK4 := Lib.hid ((HK.out.trans (keepsO_alloc _ _)).trans (keepsO_grown (O2.out.alloc _) g4)); have O4 := Lib.hid o4; clear o4 g4)
      go_roundw
      case rel => exact ⟨r, pre ++ [dig n r], by omega, by go_num, Lib.hid (by have := HP.out; simpa [beB] using this), Lib.hid (by have := O4.out; rwa [List.append_assoc] at this), HK4, b4⟩
      case measure => simp [intOf]

theorem bigO_c2 {w : World} {base : Nat} {v : Value} {l : List UInt8} (h : OB w base v l) (hB : base ≤ w.heap.size) (hl : l.length ≤ 70368744177664) (n k : Nat) (hn : n < 18446744073709551616) (hk : k ≤ 8) (ni ki : Int) (hni : ni = (n : Int)) (hki : ki = (k : Int)) :
    Calls Tryd.prog 28 #[v, .int .u64 ni, .int .i64 ki] w fun e w' => ∃ v', e = .returned v' ∧ OB w' base v' (l ++ beB n k) ∧ Below base w w' ∧ KeepsO w w' := by
  subst hni hki
  exact bigO_c h hB hl n hn k hk

theorem ri_head {w : World} {A : Option Addr} {c n : Nat} {x : Int} {ns : List Int} (h : RI w (.slice A n c) (x :: ns)) : ∃ a, A = some a ∧ w.cell? a = some (.int .i64 x) := by
  obtain ⟨A', c', he, h1, h2, h3, h4, h5⟩ := h
  injection he with e1 e2 e3
  subst e1
  obtain ⟨a, ha, hc⟩ := h5 0 (.int .i64 x) (by simp)
  exact ⟨a, ha, by rwa [show a.add 0 = a by unfold Addr.add; simp] at hc⟩
theorem rs_head {w : World} {A : Option Addr} {c n : Nat} {x : ByteArray} {ns : List ByteArray} (h : RS w (.slice A n c) (x :: ns)) : ∃ a, A = some a ∧ w.cell? a = some (.string x) := by
  obtain ⟨A', c', he, h1, h2, h3, h4, h5⟩ := h
  injection he with e1 e2 e3
  subst e1
  obtain ⟨a, ha, hc⟩ := h5 0 (.string x) (by simp)
  exact ⟨a, ha, by rwa [show a.add 0 = a by unfold Addr.add; simp] at hc⟩
theorem info_i64 : (Tryd.prog.info? 3).map (fun i => (i.zero, i.size, i.bytes)) = some (some (.int .i64 0), 1, 8) := by kernel_rfl
theorem info_str : (Tryd.prog.info? 9).map (fun i => (i.zero, i.size, i.bytes)) = some (some (.string ByteArray.empty), 1, 16) := by kernel_rfl
theorem ri_tail {A : Option Addr} {c : Nat} {x : Int} {ns : List Int} (w : World) (h : RI w (.slice A (ns.length + 1) c) (x :: ns)) : ∃ A', (∀ W : World, (Instr.slice 22 (.slice A (ns.length + 1) c) (some (.int .i64 1)) none none).run Tryd.prog W = .ok (.slice A' ns.length (c - 1)) W) ∧ RI w (.slice A' ns.length (c - 1)) ns ∧ ns.length ≤ c - 1 := by
  obtain ⟨i0, hi, hzz⟩ := Option.map_eq_some_iff.1 info_i64
  simp only [Prod.mk.injEq] at hzz
  obtain ⟨hz0, hz1, hz2⟩ := hzz
  have hc : ns.length + 1 ≤ c := by
    obtain ⟨A', c', he, h1, _⟩ := h
    injection he with e1 e2 e3
    subst e3
    simpa using h1
  obtain ⟨A', h1, h2, h3⟩ := rc_drop (P := Tryd.prog) Tryd.underlying22 hi A (ns.length + 1) c hc 1 (by omega) (by omega)
  refine ⟨A', h1, ?_, by omega⟩
  have := h2 w _ (by rw [hz1]; exact h)
  rw [hz1] at this
  exact this
theorem rs_tail {A : Option Addr} {c : Nat} {x : ByteArray} {ns : List ByteArray} (w : World) (h : RS w (.slice A (ns.length + 1) c) (x :: ns)) : ∃ A', (∀ W : World, (Instr.slice 23 (.slice A (ns.length + 1) c) (some (.int .i64 1)) none none).run Tryd.prog W = .ok (.slice A' ns.length (c - 1)) W) ∧ RS w (.slice A' ns.length (c - 1)) ns ∧ ns.length ≤ c - 1 := by
  obtain ⟨i0, hi, hzz⟩ := Option.map_eq_some_iff.1 info_str
  simp only [Prod.mk.injEq] at hzz
  obtain ⟨hz0, hz1, hz2⟩ := hzz
  have hc : ns.length + 1 ≤ c := by
    obtain ⟨A', c', he, h1, _⟩ := h
    injection he with e1 e2 e3
    subst e3
    simpa using h1
  obtain ⟨A', h1, h2, h3⟩ := rc_drop (P := Tryd.prog) Tryd.underlying23 hi A (ns.length + 1) c hc 1 (by omega) (by omega)
  refine ⟨A', h1, ?_, by omega⟩
  have := h2 w _ (by rw [hz1]; exact h)
  rw [hz1] at this
  exact this

theorem own_iterAt {w : World} {B e size n : Nat} {v : Value} {xs : List Value} {k : Nat} {s : ByteArray} {pos : Nat} (h : w.ownsRow B e size v n xs) (hk : w.heap[k]? = some (.stringIter s pos)) (pos' : Nat) : (w.iterAt k s pos').ownsRow B e size v n xs := by
  refine ⟨h.1, ?_⟩
  rcases h.2 with h0 | ⟨g, cap, cur, hv, hb, hg, rest⟩
  · exact .inl h0
  · refine .inr ⟨g, cap, cur, hv, hb, ?_, rest⟩
    rw [Lib.iterAt_other _ _ _ _ _ (fun e => by subst e; rw [hk] at hg; cases hg)]
    exact hg
theorem mb_iterAt {w : World} {b k pos : Nat} {s : ByteArray} {c i : Int} {vn vt vp : Value} (h : MB w b c i vn vt vp) (hk : w.heap[k]? = some (.stringIter s pos)) (pos' : Nat) : MB (w.iterAt k s pos') b c i vn vt vp := by
  unfold MB at h ⊢
  rw [Lib.iterAt_other _ _ _ _ _ (fun e => by subst e; rw [hk] at h; cases h)]
  exact h

theorem ite_some {p : Prop} [Decidable p] {X : Type} {x f : X} {t : Option X} {P : X → Prop} (h : (if p then some x else t) = some f) (hx : P x) (ht : t = some f → P f) : P f := by
  by_cases hp : p
  · rw [if_pos hp] at h
    injection h with h
    rwa [← h]
  · rw [if_neg hp] at h
    exact ht h
def SmallF (f : ByteArray) : Prop := f.size ≤ 6 ∧ f.data.toList.all (fun x => decide (x.toNat < 128)) = true
/-- Every form is short, and ASCII. -/
theorem form_small {c i : Int} {f : ByteArray} (h : formCI c i = some f) : SmallF f := by
  unfold formCI at h
  split at h
  · unfold formOf at h
    repeat (refine ite_some (P := SmallF) h ⟨by decide, by decide⟩ ?_; clear h; intro h)
    cases h
  · cases h

/-- What Encode answers. -/
def EncM (w : World) (total : Option (List UInt8)) (e : Ending) (w' : World) : Prop :=
  Below w.heap.size w w' ∧ match total with
    | some l => ∃ v, e = .returned (.tuple #[v, .int .i64 0]) ∧ OB w' w.heap.size v l
    | none => e = .returned (.tuple #[.slice none 0 0, .int .i64 1])
theorem encM_no {w w' : World} {total : Option (List UInt8)} (h : total = none) (b : Below w.heap.size w w') : EncM w total (.returned (.tuple #[.slice none 0 0, .int .i64 1])) w' := by
  subst h
  exact ⟨b, rfl⟩
theorem encM_yes {w w' : World} {total : Option (List UInt8)} {l : List UInt8} {v : Value} (h : total = some l) (b : Below w.heap.size w w') (o : OB w' w.heap.size v l) : EncM w total (.returned (.tuple #[v, .int .i64 0])) w' := by
  subst h
  exact ⟨b, v, rfl, o⟩
/-- What holds at the head of Encode's loop. -/
structure EI (w wr : World) (c i : Int) (vn vt vp : Value) (IB : Nat) (s : ByteArray) (ps : List Prp) (total : Option (List UInt8)) (pos : Nat) (pre : List UInt8) (ns : List Int) (ts : List ByteArray) (k : Nat) (b n t : Value) : Prop where
  own : OB wr w.heap.size b pre
  mb : MB wr w.heap.size c i vn vt vp
  it : wr.heap[IB]? = some (.stringIter s pos)
  bel : Below w.heap.size w wr
  ri : RI w n ns
  rs : RS w t ts
  len : pre.length ≤ 4 + pos * 5000
  tot : total = (encB (s.data.toList.drop pos) ns ts k ps).map (pre ++ ·)
  big : ∀ x ∈ ns, x ≤ 9223372036854775807
  ln : ns.length ≤ 140737488351232
  lt : ts.length ≤ 140737488351232
theorem drop_at {s : ByteArray} {pos : Nat} (h : pos < s.size) : s.data.toList.drop pos = s[pos] :: s.data.toList.drop (pos + 1) := by
  have h' : pos < s.data.toList.length := by rw [ba_size]; exact h
  rw [List.drop_eq_getElem_cons h']
  congr 1
theorem small_at {s : ByteArray} (h : SmallF s) {pos : Nat} (hp : pos < s.size) : (s[pos]).toNat < 128 := by
  have h2 := List.all_eq_true.1 h.2 s[pos] (List.mem_of_getElem? (ba_at s pos hp))
  simpa using h2
theorem map_map' {X : Type} (o : Option (List X)) (a b : List X) : (o.map (b ++ ·)).map (a ++ ·) = o.map ((a ++ b) ++ ·) := by
  cases o <;> simp

section
variable {x : UInt8} {f : List UInt8} {ns : List Int} {ts : List ByteArray} {k z : Nat} {ps : List Prp} {n : Int} {y : ByteArray} {total : Option (List UInt8)} {l pre : List UInt8}
theorem enc_num_nil (ht : total = (encB l [] ts k ps).map (pre ++ ·)) (hl : l = x :: f) (hz : z = sizeOf' x.toNat) (h : (0 : Int) < z) : total = none := by
  subst hl
  rw [ht, encB.eq_def]
  dsimp only
  rw [← hz, if_pos (by omega)]
  rfl
theorem enc_num_bad (ht : total = (encB l (n :: ns) ts k ps).map (pre ++ ·)) (hl : l = x :: f) (hz : z = sizeOf' x.toNat) (h : (0 : Int) < z) (hf : fitsB n z = false) : total = none := by
  subst hl
  rw [ht, encB.eq_def]
  dsimp only
  rw [← hz, if_pos (by omega)]
  simp [hf]
theorem enc_num_ok {m : Nat} (ht : total = (encB l ((m : Int) :: ns) ts k ps).map (pre ++ ·)) (hl : l = x :: f) (hz : z = sizeOf' x.toNat) (h : (0 : Int) < z) (hf : fitsB m z = true) : total = (encB f ns ts k ps).map ((pre ++ beB m z) ++ ·) := by
  subst hl
  rw [ht, encB.eq_def]
  dsimp only
  rw [← hz, if_pos (by omega)]
  simp only [hf, if_true, map_map']
  rfl
theorem enc_tab_bad (ht : total = (encB l ns ts k ps).map (pre ++ ·)) (hl : l = x :: f) (hz : z = sizeOf' x.toNat) (h : z = 0) (hx : x = 84) (hv : validB ps = false) : total = none := by
  subst hl
  rw [ht, encB.eq_def]
  dsimp only
  rw [← hz, if_neg (by omega), if_pos hx]
  simp [hv]
theorem enc_tab_ok (ht : total = (encB l ns ts k ps).map (pre ++ ·)) (hl : l = x :: f) (hz : z = sizeOf' x.toNat) (h : z = 0) (hx : x = 84) (hv : validB ps = true) : total = (encB f ns ts (k + 1) ps).map ((pre ++ (beB (propsB ps).length 4 ++ propsB ps)) ++ ·) := by
  subst hl
  rw [ht, encB.eq_def]
  dsimp only
  rw [← hz, if_neg (by omega), if_pos hx, if_pos hv, map_map']
theorem enc_txt_nil (ht : total = (encB l ns [] k ps).map (pre ++ ·)) (hl : l = x :: f) (hz : z = sizeOf' x.toNat) (h : z = 0) (hx : x ≠ 84) : total = none := by
  subst hl
  rw [ht, encB.eq_def]
  dsimp only
  rw [← hz, if_neg (by omega), if_neg hx]
  rfl
theorem enc_txt_bad (ht : total = (encB l ns (y :: ts) k ps).map (pre ++ ·)) (hl : l = x :: f) (hz : z = sizeOf' x.toNat) (h : z = 0) (hx : x ≠ 84) (hv : ¬ (y.size ≤ 1024 ∧ (x = 115 → y.size ≤ 255))) : total = none := by
  subst hl
  rw [ht, encB.eq_def]
  dsimp only
  rw [← hz, if_neg (by omega), if_neg hx]
  simp only [if_neg hv]
  rfl
theorem enc_txt_ok (ht : total = (encB l ns (y :: ts) k ps).map (pre ++ ·)) (hl : l = x :: f) (hz : z = sizeOf' x.toNat) (h : z = 0) (hx : x ≠ 84) (hv : y.size ≤ 1024 ∧ (x = 115 → y.size ≤ 255)) : total = (encB f ns ts k ps).map ((pre ++ (beB y.size (if x = 115 then 1 else 4) ++ y.data.toList)) ++ ·) := by
  subst hl
  rw [ht, encB.eq_def]
  dsimp only
  rw [← hz, if_neg (by omega), if_neg hx]
  simp only [if_pos hv, map_map']
theorem enc_end (ht : total = (encB l ns ts k ps).map (pre ++ ·)) (hl : l = []) : total = if ns = [] ∧ ts = [] ∧ (k = 0 → ps.length = 0) then some pre else none := by
  subst hl
  rw [ht, encB.eq_def]
  dsimp only
  split <;> simp
end
end Go.Proofs.YteigbejidfkhpaaDoor

/- Layer 15, the reference: numbers as bytes; a float of its bits. -/
namespace Go.Proofs.YteigbejidfkhpaaDoor
open Go Go.RowKit
set_option linter.unusedSimpArgs false
set_option linter.unusedVariables false

set_option maxRecDepth 100000 in
set_option maxHeartbeats 1000000 in
theorem refBig_c {w : World} {base : Nat} {v : Value} {l : List UInt8} (h : OB w base v l) (hB : base ≤ w.heap.size) (hl : l.length ≤ 70368744177664) (n : Nat) (hn : n < 18446744073709551616) (k : Nat) (hk : k ≤ 8) :
    Calls Tryd.prog 20 #[v, .int .u64 n, .int .i64 k] w fun e w' => ∃ v', e = .returned v' ∧ OB w' base v' (l ++ beB n k) ∧ Below base w w' := by
  have H := Lib.hid h
  clear h
  go_enter Tryd.func20, Tryd.ntmps20
  go_wp2
  go_loopw [0, 7] (fun x i wr => ∃ (m r : Nat) (pre : List UInt8), m + r = k ∧ i = .int .i64 m ∧ Hid (pre ++ beB n r = beB n k) ∧ Hid (OB wr base x (l ++ pre)) ∧ Below base w wr) (fun _ i _ => k - (intOf i).toNat)
  case atStart => exact ⟨0, k, [], by omega, rfl, Lib.hid rfl, by simpa [Lib.hid] using H, Below.refl _ _⟩
  case round =>
    obtain ⟨m, r, pre, hr, rfl, HP, O2, b2⟩ := hrel
    cases r with
    | zero =>
      have hm : k ≤ m := by omega
      have hm2 : m ≤ k := by omega
      clear hr
      go_wp2
      go_ret
      have := HP.out
      simp only [beB, List.append_nil] at this
      exact ⟨_, rfl, by rw [← this]; exact O2.out, b2⟩
    | succ r =>
      have hm : m < k := by omega
      have hpl : pre.length ≤ 8 := by
        have := congrArg List.length HP.out
        rw [List.length_append, beB_len, beB_len] at this
        omega
      have hs1 : (k : Int) - 1 - (m : Int) = (r : Int) := by omega
      clear hr
      go_wp2_with (at_builtin; refine app_b (w0 := w) (base := base) (l := l ++ pre) (m := [dig n r]) rfl (.tmp 13) (.tmp 23) rfl rfl rfl (O2.out.alloc _) (rb_dig wr _ _ (dig_val n r)) (b2.alloc (by have := b2.size; omega) _) (by have := b2.size; simp; omega) (by simp; omega) ?_; intro v4 w4 o4 b4 _ _; have O4 := Lib.hid o4; clear o4)
      go_roundw
      case rel => exact ⟨m + 1, r, pre ++ [dig n r], by omega, by go_num, Lib.hid (by have := HP.out; simpa [beB] using this), Lib.hid (by have := O4.out; rwa [List.append_assoc] at this), b4⟩
      case measure => simp [intOf]; omega

theorem from_c {w : World} (n : Nat) : Calls Tryd.prog 19 #[.int .u64 n] w fun e w' => e = .returned (.float .f64 n) ∧ w = w' := by
  have q := from64_run
  go_enter Tryd.func19, Tryd.ntmps19
  go_wp2_with fail
  go_ret
  exact ⟨rfl, rfl⟩
end Go.Proofs.YteigbejidfkhpaaDoor

/- The reference's Big: it keeps what is no byte. -/
namespace Go.Proofs.YteigbejidfkhpaaDoor
open Go Go.RowKit
set_option linter.unusedSimpArgs false
set_option linter.unusedVariables false

set_option maxRecDepth 100000 in
set_option maxHeartbeats 1000000 in
theorem refBigK_c {w : World} {base : Nat} {v : Value} {l : List UInt8} (h : OB w base v l) (hB : base ≤ w.heap.size) (hl : l.length ≤ 70368744177664) (n : Nat) (hn : n < 18446744073709551616) (k : Nat) (hk : k ≤ 8) :
    Calls Tryd.prog 20 #[v, .int .u64 n, .int .i64 k] w fun e w' => ∃ v', e = .returned v' ∧ OB w' base v' (l ++ beB n k) ∧ Below base w w' ∧ KeepsT w w' := by
  have H := Lib.hid h
  clear h
  go_enter Tryd.func20, Tryd.ntmps20
  go_wp2
  go_loopw [0, 7] (fun x i wr => ∃ (m r : Nat) (pre : List UInt8), m + r = k ∧ i = .int .i64 m ∧ Hid (pre ++ beB n r = beB n k) ∧ Hid (OB wr base x (l ++ pre)) ∧ Hid (KeepsT w wr) ∧ Below base w wr) (fun _ i _ => k - (intOf i).toNat)
  case atStart => exact ⟨0, k, [], by omega, rfl, Lib.hid rfl, by simpa [Lib.hid] using H, Lib.hid (KeepsT.refl _), Below.refl _ _⟩
  case round =>
    obtain ⟨m, r, pre, hr, rfl, HP, O2, HK, b2⟩ := hrel
    cases r with
    | zero =>
      have hm : k ≤ m := by omega
      have hm2 : m ≤ k := by omega
      clear hr
      go_wp2
      go_ret
      have := HP.out
      simp only [beB, List.append_nil] at this
      exact ⟨_, rfl, by rw [← this]; exact O2.out, b2, HK.out⟩
    | succ r =>
      have hm : m < k := by omega
      have hpl : pre.length ≤ 8 := by
        have := congrArg List.length HP.out
        rw [List.length_append, beB_len, beB_len] at this
        omega
      have hs1 : (k : Int) - 1 - (m : Int) = (r : Int) := by omega
      clear hr
      go_wp2_with (at_builtin; refine app_b (w0 := w) (base := base) (l := l ++ pre) (m := [dig n r]) rfl (.tmp 13) (.tmp 23) rfl rfl rfl (O2.out.alloc _) (rb_dig wr _ _ (dig_val n r)) (b2.alloc (by have := b2.size; omega) _) (by have := b2.size; simp; omega) (by simp; omega) ?_; intro v4 w4 o4 b4 g4 _; have HK4 := Lib.hid ((HK.out.trans (keeps_alloc _ _)).trans (keeps_grown (O2.out.alloc _) g4)); have O4 := Lib.hid o4; clear o4 g4)
      go_roundw
      case rel => exact ⟨m + 1, r, pre ++ [dig n r], by omega, by go_num, Lib.hid (by have := HP.out; simpa [beB] using this), Lib.hid (by have := O4.out; rwa [List.append_assoc] at this), HK4, b4⟩
      case measure => simp [intOf]; omega


theorem refBigK_c2 {w : World} {base : Nat} {v : Value} {l : List UInt8} (h : OB w base v l) (hB : base ≤ w.heap.size) (hl : l.length ≤ 70368744177664) (n k : Nat) (hn : n < 18446744073709551616) (hk : k ≤ 8) (ni ki : Int) (hni : ni = (n : Int)) (hki : ki = (k : Int)) :
    Calls Tryd.prog 20 #[v, .int .u64 ni, .int .i64 ki] w fun e w' => ∃ v', e = .returned v' ∧ OB w' base v' (l ++ beB n k) ∧ Below base w w' ∧ KeepsT w w' := by
  subst hni hki
  exact refBigK_c h hB hl n hn k hk
end Go.Proofs.YteigbejidfkhpaaDoor

/- The reference's sameness: floats, values, lists of properties. -/
namespace Go.Proofs.YteigbejidfkhpaaDoor
open Go Go.RowKit Go.Sort
set_option linter.unusedSimpArgs false
set_option linter.unusedVariables false

theorem str_ne {a b : ByteArray} (h : a ≠ b) : (a.toList == b.toList) = false := by
  refine beq_eq_false_iff_ne.2 fun e => h ?_
  rw [ByteArray.toList_eq, ByteArray.toList_eq] at e
  exact ba_ext e

set_option maxRecDepth 100000 in
theorem rawSame_c {w : World} (r r' : Nat) :
    Calls Tryd.prog 22 #[.float .f64 r, .float .f64 r'] w fun e w' => e = .returned (.bool (decide (r = r'))) ∧ w = w' := by
  have q := bits64_run
  by_cases h : r = r'
  · subst h
    rw [decide_eq_true rfl]
    go_enter Tryd.func22, Tryd.ntmps22
    go_wp2_with fail
    go_ret
    exact ⟨rfl, rfl⟩
  · have hb : ((r : Int) == (r' : Int)) = false := beq_eq_false_iff_ne.2 (by omega)
    rw [decide_eq_false h]
    clear h
    go_enter Tryd.func22, Tryd.ntmps22
    go_wp2_with fail
    go_ret
    exact ⟨rfl, rfl⟩

def valSame (k n : Int) (t : ByteArray) (r : Nat) (k' n' : Int) (t' : ByteArray) (r' : Nat) : Bool := decide (k = k' ∧ n = n' ∧ t = t' ∧ r = r')
set_option maxRecDepth 100000 in
set_option maxHeartbeats 1000000 in
theorem valSame_c {w : World} (k n : Int) (t : ByteArray) (r : Nat) (k' n' : Int) (t' : ByteArray) (r' : Nat) :
    Calls Tryd.prog 40 #[.agg #[.int .i64 k, .int .i64 n, .string t, .float .f64 r], .agg #[.int .i64 k', .int .i64 n', .string t', .float .f64 r']] w fun e w' => e = .returned (.bool (valSame k n t r k' n' t' r')) ∧ Below w.heap.size w w' := by
  have bW := ((Below.refl w.heap.size w).alloc (Nat.le_refl _) (.cells #[.int .i64 k, .int .i64 n, .string t, .float .f64 r] 46)).alloc (by show _ ≤ (w.heap.push _).size; simp) (.cells #[.int .i64 k', .int .i64 n', .string t', .float .f64 r'] 46)
  by_cases hk : k = k'
  · subst hk
    by_cases hn : n = n'
    · subst hn
      by_cases ht : t = t'
      · subst ht
        have e : valSame k n t r k n t r' = decide (r = r') := by unfold valSame; simp
        rw [e]
        clear e
        go_enter Tryd.func40, Tryd.ntmps40
        go_wp2_with fail
        refine (rawSame_c r r').mono ?_
        rintro e w1 ⟨rfl, rfl⟩
        go_wp2_with fail
        go_ret
        exact ⟨rfl, bW⟩
      · have e : valSame k n t r k n t' r' = false := by unfold valSame; simp [ht]
        have ht' := str_ne ht
        rw [e]
        clear e ht
        go_enter Tryd.func40, Tryd.ntmps40
        go_wp2_with fail
        go_ret
        exact ⟨rfl, bW⟩
    · have e : valSame k n t r k n' t' r' = false := by unfold valSame; simp [hn]
      have hn' : (n == n') = false := beq_eq_false_iff_ne.2 hn
      rw [e]
      clear e hn
      go_enter Tryd.func40, Tryd.ntmps40
      go_wp2_with fail
      go_ret
      exact ⟨rfl, bW⟩
  · have e : valSame k n t r k' n' t' r' = false := by unfold valSame; simp [hk]
    have hk' : (k == k') = false := beq_eq_false_iff_ne.2 hk
    rw [e]
    clear e hk
    go_enter Tryd.func40, Tryd.ntmps40
    go_wp2_with fail
    go_ret
    exact ⟨rfl, bW⟩
end Go.Proofs.YteigbejidfkhpaaDoor

/- The reference's floats: IsNaN, Canon; names. -/
namespace Go.Proofs.YteigbejidfkhpaaDoor
open Go Go.RowKit
set_option linter.unusedSimpArgs false
set_option linter.unusedVariables false

theorem nan_rung (r : Nat) : nanB r = decide (2047 * 2 ^ 52 < r % 2 ^ 63) := by
  show ((Ieee.double.read r).order (Ieee.double.read r) != some .eq) = _
  unfold Ieee.Format.read
  dsimp only
  rw [FloatL.D_sgn, FloatL.D_inf, FloatL.D_bin]
  by_cases h1 : r % 2 ^ 63 < 2 ^ 52
  · rw [if_pos h1, decide_eq_false (by omega)]
    simp [Ieee.Datum.order]
  · rw [if_neg h1]
    by_cases h2 : r % 2 ^ 63 < 2047 * 2 ^ 52
    · rw [if_pos h2, decide_eq_false (by omega)]
      simp [Ieee.Datum.order]
    · rw [if_neg h2]
      by_cases h3 : r % 2 ^ 63 = 2047 * 2 ^ 52
      · rw [if_pos h3, decide_eq_false (by omega)]
        simp [Ieee.Datum.order]
      · rw [if_neg h3, decide_eq_true (by omega)]
        rfl
theorem nan_bits (r : Nat) : nanB r = (decide (r / 2 ^ 52 % 2048 = 2047) && decide (r % 2 ^ 52 ≠ 0)) := by
  rw [nan_rung]
  by_cases h : 2047 * 2 ^ 52 < r % 2 ^ 63
  · rw [decide_eq_true h, decide_eq_true (by omega), decide_eq_true (by omega)]
    rfl
  · rw [decide_eq_false h]
    by_cases h1 : r / 2 ^ 52 % 2048 = 2047
    · rw [decide_eq_true h1, decide_eq_false (by omega)]
      rfl
    · rw [decide_eq_false h1]
      rfl
theorem and_mask (n k : Nat) (hn : n < 2 ^ 64) (hk : k ≤ 64) : bits BinOp.and IntKind.u64 (n : Int) ((2 ^ k - 1 : Nat) : Int) = ((n % 2 ^ k : Nat) : Int) := by
  have e64 : IntKind.u64.bits = 64 := rfl
  have hm : (BitVec.ofInt IntKind.u64.bits (n : Int) &&& BitVec.ofInt IntKind.u64.bits ((2 ^ k - 1 : Nat) : Int)).toNat = n % 2 ^ k := by
    have h2 : 2 ^ k ≤ 2 ^ 64 := Nat.pow_le_pow_right (by omega) hk
    have h3 : 0 < 2 ^ k := Nat.two_pow_pos k
    rw [BitVec.toNat_and, BitVec.ofInt_natCast, BitVec.ofInt_natCast, BitVec.toNat_ofNat, BitVec.toNat_ofNat, e64, Nat.mod_eq_of_lt hn, Nat.mod_eq_of_lt (by omega), Nat.and_two_pow_sub_one_eq_mod]
  show IntKind.u64.wrap (((BitVec.ofInt IntKind.u64.bits (n : Int) &&& BitVec.ofInt IntKind.u64.bits ((2 ^ k - 1 : Nat) : Int)).toNat : Nat) : Int) = _
  rw [hm]
  have h4 : n % 2 ^ k ≤ n := Nat.mod_le _ _
  show ((n % 2 ^ k : Nat) : Int) % 18446744073709551616 = _
  omega
set_option maxRecDepth 100000 in
set_option maxHeartbeats 1000000 in
theorem bits_c {w : World} (r : Nat) : Calls Tryd.prog 35 #[.float .f64 r] w fun e w' => e = .returned (.int .u64 r) ∧ w = w' := by
  have q := bits64_run
  go_enter Tryd.func35, Tryd.ntmps35
  go_wp2_with fail
  go_ret
  exact ⟨rfl, rfl⟩
set_option maxRecDepth 100000 in
set_option maxHeartbeats 1000000 in
theorem isNaN_c {w : World} (r : Nat) (hr : r < 18446744073709551616) : Calls Tryd.prog 58 #[.float .f64 r] w fun e w' => e = .returned (.bool (nanB r)) ∧ w = w' := by
  have a1 : bits BinOp.and IntKind.u64 ((r : Int) / 4503599627370496) 2047 = ((r / 4503599627370496 % 2048 : Nat) : Int) := and_mask (r / 4503599627370496) 11 (by omega) (by omega)
  have a2 : bits BinOp.and IntKind.u64 (r : Int) 4503599627370495 = ((r % 4503599627370496 : Nat) : Int) := and_mask r 52 hr (by omega)
  have hb := nan_bits r
  rw [show (2 ^ 52 : Nat) = 4503599627370496 from rfl] at hb
  obtain ⟨x, hx⟩ : ∃ x, x = r / 4503599627370496 % 2048 := ⟨_, rfl⟩
  obtain ⟨y, hy⟩ : ∃ y, y = r % 4503599627370496 := ⟨_, rfl⟩
  rw [← hx] at a1 hb
  rw [← hy] at a2 hb
  rw [hb]
  clear hx hy hb
  by_cases h1 : x = 2047
  · subst h1
    by_cases h2 : y = 0
    · subst h2
      go_enter Tryd.func58, Tryd.ntmps58
      go_wp2_with fail
      refine (bits_c r).mono ?_
      rintro e w1 ⟨rfl, rfl⟩
      go_wp2_with fail
      go_ret
      exact ⟨by first | rfl | (simp; done), rfl⟩
    · have hyb : ((y : Int) == 0) = false := beq_eq_false_iff_ne.2 (by omega)
      have hyc : ((y : Int) != 0) = true := bne_iff_ne.2 (by omega)
      have e : (decide (2047 = 2047) && decide (y ≠ 0)) = true := by rw [decide_eq_true h2]; rfl
      rw [e]
      clear e h2
      go_enter Tryd.func58, Tryd.ntmps58
      go_wp2_with fail
      refine (bits_c r).mono ?_
      rintro e w1 ⟨rfl, rfl⟩
      go_wp2_with fail
      go_ret
      exact ⟨by first | rfl | (simp; done), rfl⟩
  · have hxb : ((x : Int) == 2047) = false := beq_eq_false_iff_ne.2 (by omega)
    have e : (decide (x = 2047) && decide (y ≠ 0)) = false := by rw [decide_eq_false h1]; rfl
    rw [e]
    clear e h1
    go_enter Tryd.func58, Tryd.ntmps58
    go_wp2_with fail
    refine (bits_c r).mono ?_
    rintro e w1 ⟨rfl, rfl⟩
    go_wp2_with fail
    go_ret
    exact ⟨by first | rfl | (simp; done), rfl⟩
set_option maxRecDepth 100000 in
set_option maxHeartbeats 1000000 in
theorem refCanon_c {w : World} (r : Nat) (hr : r < 18446744073709551616) : Calls Tryd.prog 70 #[.float .f64 r] w fun e w' => e = .returned (.float .f64 (canonR r)) ∧ w = w' := by
  have h := isNaN_c (w := w) r hr
  clear hr
  cases hn : nanB r with
  | true =>
    have e : canonR r = 9221120237041090561 := by unfold canonR; rw [hn]; rfl
    rw [e]
    rw [hn] at h
    clear e hn
    go_enter Tryd.func70, Tryd.ntmps70
    go_wp2_with fail
    refine h.mono ?_
    rintro e w1 ⟨rfl, rfl⟩
    go_wp2_with fail
    refine (from_c 9221120237041090561).mono ?_
    rintro e w1 ⟨rfl, rfl⟩
    go_wp2_with fail
    go_ret
    exact ⟨rfl, rfl⟩
  | false =>
    have e : canonR r = r := by unfold canonR; rw [hn]; rfl
    rw [e]
    rw [hn] at h
    clear e hn
    go_enter Tryd.func70, Tryd.ntmps70
    go_wp2_with fail
    refine h.mono ?_
    rintro e w1 ⟨rfl, rfl⟩
    go_wp2_with fail
    go_ret
    exact ⟨rfl, rfl⟩
end Go.Proofs.YteigbejidfkhpaaDoor

/- The reference's names. -/
namespace Go.Proofs.YteigbejidfkhpaaDoor
open Go Go.RowKit
set_option linter.unusedSimpArgs false
set_option linter.unusedVariables false

theorem dw_nil (p : UInt8 → Bool) : ∀ l : List UInt8, l.all p = true → l.dropWhile p = []
  | [], _ => rfl
  | a :: r, h => by
    rw [List.all_cons, Bool.and_eq_true] at h
    rw [List.dropWhile_cons_of_pos h.1]
    exact dw_nil p r h.2
theorem dw_some (p : UInt8 → Bool) : ∀ l : List UInt8, l.all p = false → ∃ c r, l.dropWhile p = c :: r ∧ p c = false
  | [], h => by cases h
  | a :: r, h => by
    cases ha : p a with
    | true =>
      rw [List.dropWhile_cons_of_pos ha]
      rw [List.all_cons, ha, Bool.true_and] at h
      exact dw_some p r h
    | false => exact ⟨a, r, List.dropWhile_cons_of_neg (by rw [ha]; decide), ha⟩
theorem trim_all (l cs : List UInt8) : (Lib.trimS l cs).isEmpty = l.all (cs.contains ·) := by
  unfold Lib.trimS Lib.trimLeftS Lib.trimRightS
  cases h : l.all (cs.contains ·) with
  | true =>
    rw [dw_nil _ l.reverse (by rw [List.all_reverse]; exact h)]
    rfl
  | false =>
    obtain ⟨c, r, h1, h2⟩ := dw_some (cs.contains ·) l.reverse (by rw [List.all_reverse]; exact h)
    rw [h1]
    obtain ⟨d, q, h3, _⟩ := dw_some (cs.contains ·) (c :: r).reverse (by rw [List.all_reverse, List.all_cons, h2]; rfl)
    rw [h3]
    rfl
def letC (c : UInt8) : Bool := letters.data.toList.contains c
theorem let_all : (List.range 256).all (fun n => letC (UInt8.ofNat n) == ((decide (97 ≤ n) && decide (n ≤ 122)) || (decide (48 ≤ n) && decide (n ≤ 57)) || decide (n = 45) || decide (n = 95))) = true := by decide +kernel
theorem let_eq (c : UInt8) : letC c = ((decide (97 ≤ c.toNat) && decide (c.toNat ≤ 122)) || (decide (48 ≤ c.toNat) && decide (c.toNat ≤ 57)) || decide (c.toNat = 45) || decide (c.toNat = 95)) := by
  have h := List.all_eq_true.1 let_all c.toNat (List.mem_range.2 (UInt8.toNat_lt c))
  rw [UInt8.ofNat_toNat] at h
  exact eq_of_beq h
theorem let_yes {c : UInt8} (h : letC c = true) : (97 ≤ c.toNat ∧ c.toNat ≤ 122) ∨ (48 ≤ c.toNat ∧ c.toNat ≤ 57) ∨ c.toNat = 45 ∨ c.toNat = 95 := by
  rw [let_eq] at h
  simp only [Bool.or_eq_true, Bool.and_eq_true, decide_eq_true_eq] at h
  omega
theorem let_no {c : UInt8} (h : letC c = false) : c.toNat < 45 ∨ (45 < c.toNat ∧ c.toNat < 48) ∨ (57 < c.toNat ∧ c.toNat < 95) ∨ c.toNat = 96 ∨ 122 < c.toNat := by
  rw [let_eq] at h
  simp only [Bool.or_eq_false_iff, Bool.and_eq_false_iff, decide_eq_false_iff_not] at h
  omega
theorem name_all (s : ByteArray) : nameB s = (decide (0 < s.size) && decide (s.size ≤ 16) && s.data.toList.all letC) := by
  unfold nameB
  rw [trim_all]
  rfl

set_option maxRecDepth 100000 in
set_option maxHeartbeats 2000000 in
theorem refName_c {w : World} (s : ByteArray) (hs : s.size ≤ 140737488351232) :
    Calls Tryd.prog 56 #[.string s] w fun e w' => e = .returned (.bool (nameB s)) ∧ w = w' := by
  have hna := name_all s
  obtain ⟨b, hb⟩ : ∃ b, b = nameB s := ⟨_, rfl⟩
  rw [← hb] at hna ⊢
  have HNA := Lib.hid hna
  have hs' : (s.size : Int) ≤ 140737488351232 := by omega
  clear hna hb hs
  go_enter Tryd.func56, Tryd.ntmps56
  go_wp2_with fail
  go_loop [3] (fun i => ∃ k : Nat, k ≤ s.size ∧ i = .int .i64 k ∧ Hid ((s.data.toList.take k).all letC = true)) (fun i => s.size - (intOf i).toNat)
  case atStart => exact ⟨0, Nat.zero_le _, rfl, Lib.hid rfl⟩
  case round =>
    obtain ⟨k, hk, rfl, HA⟩ := hrel
    by_cases hlt : k < s.size
    · have hlt' : (k : Int) < s.size := by omega
      cases hl : letC s[k] with
      | true =>
        have HA2 := Lib.hid (show (s.data.toList.take (k + 1)).all letC = true by rw [List.take_add_one, ba_at s k hlt, List.all_append, HA.out]; simp [hl])
        have hy := let_yes hl
        have HLT := Lib.hid hlt
        clear HA hl
        rcases hy with ⟨c0, c1⟩ | ⟨c0, c1⟩ | c0 | c0
        · have c0' : (97 : Int) ≤ s[k].toNat := by omega
          have c1' : (s[k].toNat : Int) ≤ 122 := by omega
          clear c0 c1
          go_wp2_with fail
          go_round
          case rel => exact ⟨k + 1, by omega, by go_num, HA2⟩
          case measure => have := HLT.out; simp [intOf]; omega
        · have c0' : (48 : Int) ≤ s[k].toNat := by omega
          have c1' : (s[k].toNat : Int) ≤ 57 := by omega
          have c2' : (s[k].toNat : Int) < 97 := by omega
          clear c0 c1
          go_wp2_with fail
          go_round
          case rel => exact ⟨k + 1, by omega, by go_num, HA2⟩
          case measure => have := HLT.out; simp [intOf]; omega
        · have c0' : (s[k].toNat : Int) = 45 := by omega
          clear c0
          go_wp2_with fail
          go_round
          case rel => exact ⟨k + 1, by omega, by go_num, HA2⟩
          case measure => have := HLT.out; simp [intOf]; omega
        · have b95 : ((s[k].toNat : Int) == 95) = true := beq_iff_eq.2 (by omega)
          have b45 : ((s[k].toNat : Int) == 45) = false := beq_eq_false_iff_ne.2 (by omega)
          have c0' : (s[k].toNat : Int) = 95 := by omega
          have c1' : (s[k].toNat : Int) < 97 := by omega
          have c2' : (48 : Int) ≤ s[k].toNat := by omega
          have c4' : (57 : Int) < s[k].toNat := by omega
          have d57 : decide ((s[k].toNat : Int) ≤ 57) = false := decide_eq_false (by omega)
          clear c0
          go_wp2_with fail
          · exfalso
            rename_i h _ _
            simp at h
            exact h.2 c0'
          go_round
          case rel => exact ⟨k + 1, by omega, by go_num, HA2⟩
          case measure => have := HLT.out; simp [intOf]; omega
      | false =>
        have hbf : b = false := by
          rw [HNA.out, show s.data.toList.all letC = false from ?_, Bool.and_false]
          rw [← Bool.not_eq_true, List.all_eq_true]
          intro h
          have := h s[k] (List.mem_of_getElem? (ba_at s k hlt))
          rw [hl] at this
          cases this
        have hy := let_no hl
        subst hbf
        clear HA hl HNA
        have e45 : (s[k].toNat : Int) ≠ 45 := by omega
        have e95 : (s[k].toNat : Int) ≠ 95 := by omega
        have b45 : ((s[k].toNat : Int) == 45) = false := beq_eq_false_iff_ne.2 e45
        have b95 : ((s[k].toNat : Int) == 95) = false := beq_eq_false_iff_ne.2 e95
        clear e45 e95
        rcases hy with c0 | ⟨c0, c1⟩ | ⟨c0, c1⟩ | c0 | c0
        · have c0' : (s[k].toNat : Int) < 48 := by omega
          have c2' : (s[k].toNat : Int) < 97 := by omega
          clear c0
          go_wp2_with fail
          go_ret
          exact ⟨rfl, rfl⟩
        · have c0' : (s[k].toNat : Int) < 48 := by omega
          have c2' : (s[k].toNat : Int) < 97 := by omega
          clear c0 c1
          go_wp2_with fail
          go_ret
          exact ⟨rfl, rfl⟩
        · have c0' : (57 : Int) < s[k].toNat := by omega
          have d57 : decide ((s[k].toNat : Int) ≤ 57) = false := decide_eq_false (by omega)
          have c1' : (s[k].toNat : Int) < 97 := by omega
          have c2' : (48 : Int) ≤ s[k].toNat := by omega
          clear c0 c1
          go_wp2_with fail
          go_ret
          exact ⟨rfl, rfl⟩
        · have c0' : (s[k].toNat : Int) = 96 := by omega
          clear c0 b45 b95
          go_wp2_with fail
          go_ret
          exact ⟨rfl, rfl⟩
        · have c0' : (122 : Int) < s[k].toNat := by omega
          have c2' : (48 : Int) ≤ s[k].toNat := by omega
          have c3' : (97 : Int) ≤ s[k].toNat := by omega
          have c4' : (57 : Int) < s[k].toNat := by omega
          have d57 : decide ((s[k].toNat : Int) ≤ 57) = false := decide_eq_false (by omega)
          have d122 : decide ((s[k].toNat : Int) ≤ 122) = false := decide_eq_false (by omega)
          clear c0
          go_wp2_with fail
          go_ret
          exact ⟨rfl, rfl⟩
    · have hd : s.data.toList.take k = s.data.toList := List.take_of_length_le (by rw [ba_size]; omega)
      rw [hd] at HA
      have hb2 : b = (decide (0 < s.size) && decide (s.size ≤ 16)) := by rw [HNA.out, HA.out, Bool.and_true]
      have hge : (s.size : Int) ≤ k := by omega
      clear HNA HA hd hlt
      by_cases h0 : 0 < s.size
      · by_cases h1 : s.size ≤ 16
        · obtain rfl : b = true := by rw [hb2, decide_eq_true h0, decide_eq_true h1]; rfl
          have h0' : (1 : Int) ≤ s.size := by omega
          have h1' : (s.size : Int) ≤ 16 := by omega
          clear hb2 h0 h1
          go_wp2_with fail
          go_ret
          exact ⟨by first | rfl | (show Ending.returned (Value.bool (decide ((s.size : Int) ≤ 16))) = _; rw [decide_eq_true h1']) | (show Ending.returned (Value.bool (decide ((s.size : Int) ≤ 16))) = _; rw [decide_eq_false (by omega)]), rfl⟩
        · obtain rfl : b = false := by rw [hb2, decide_eq_false h1, Bool.and_false]
          have h1' : (16 : Int) < s.size := by omega
          clear hb2 h0 h1
          go_wp2_with fail
          go_ret
          exact ⟨by first | rfl | (show Ending.returned (Value.bool (decide ((s.size : Int) ≤ 16))) = _; rw [decide_eq_true h1']) | (show Ending.returned (Value.bool (decide ((s.size : Int) ≤ 16))) = _; rw [decide_eq_false (by omega)]), rfl⟩
      · obtain rfl : b = false := by rw [hb2, decide_eq_false h0, Bool.false_and]
        have h1' : (s.size : Int) < 1 := by omega
        clear hb2 h0
        go_wp2_with fail
        go_ret
        exact ⟨by first | rfl | (show Ending.returned (Value.bool (decide ((s.size : Int) ≤ 16))) = _; rw [decide_eq_true h1']) | (show Ending.returned (Value.bool (decide ((s.size : Int) ≤ 16))) = _; rw [decide_eq_false (by omega)]), rfl⟩
end Go.Proofs.YteigbejidfkhpaaDoor

/- The reference's Good. -/
namespace Go.Proofs.YteigbejidfkhpaaDoor
open Go Go.RowKit
set_option linter.unusedSimpArgs false
set_option linter.unusedVariables false

theorem refCanon_q {w : World} (r : Nat) (hr : r < 18446744073709551616) : Calls Tryd.prog 70 #[.float .f64 r] w fun e w' => e = .returned (.float .f64 (canonR r)) ∧ w' = w := (refCanon_c r hr).mono fun e w' ⟨a, b⟩ => ⟨a, b.symm⟩
theorem rawSame_q' {w : World} (r r' : Nat) : Calls Tryd.prog 22 #[.float .f64 r, .float .f64 r'] w fun e w' => e = .returned (.bool (decide (r = r'))) ∧ w' = w := (rawSame_c r r').mono fun e w' ⟨a, b⟩ => ⟨a, b.symm⟩

set_option maxRecDepth 100000 in
set_option maxHeartbeats 4000000 in
theorem refGood_c {w : World} (k n : Int) (t : ByteArray) (r : Nat) (hr64 : r < 18446744073709551616) :
    Calls Tryd.prog 57 #[.agg #[.int .i64 k, .int .i64 n, .string t, .float .f64 r]] w fun e w' => e = .returned (.bool (goodB k n t r)) ∧ Below w.heap.size w w' := by
  have bW := (Below.refl w.heap.size w).alloc (Nat.le_refl _) (.cells #[.int .i64 k, .int .i64 n, .string t, .float .f64 r] 46)
  have HR := Lib.hid hr64
  clear hr64
  have ht : (t = ByteArray.empty ∧ t.size = 0) ∨ (t.toList.isEmpty = false ∧ t.size ≠ 0) := by
    by_cases h : t.size = 0
    · exact .inl ⟨ba_nil h, h⟩
    · exact .inr ⟨ne_nil t (by omega), h⟩
  have hr : (r = 0) ∨ (r ≠ 0 ∧ ((r : Int) == 0) = false) := by by_cases h : r = 0; exact .inl h; exact .inr ⟨h, beq_eq_false_iff_ne.2 (by omega)⟩
  by_cases h1 : k = 1
  · subst h1
    rcases ht with ⟨rfl, hz⟩ | ⟨hE, hz⟩
    · rcases hr with rfl | ⟨hr, hrb⟩
      · skip
        have e : goodB 1 n ByteArray.empty 0 = true := by unfold goodB; simp
        rw [e]
        clear e
        go_enter Tryd.func57, Tryd.ntmps57
        go_wp2_with fail
        refine (bits_c _).mono ?_
        rintro e w1 ⟨rfl, rfl⟩
        go_wp2_with fail
        go_ret
        exact ⟨by first | rfl | (simp; done) | (simp; omega), bW⟩
      · skip
        have e : goodB 1 n ByteArray.empty r = false := by unfold goodB; simp [hr]
        rw [e]
        clear e
        go_enter Tryd.func57, Tryd.ntmps57
        go_wp2_with fail
        refine (bits_c _).mono ?_
        rintro e w1 ⟨rfl, rfl⟩
        go_wp2_with fail
        go_ret
        exact ⟨by first | rfl | (simp; done) | (simp; omega), bW⟩
    · skip
      have e : goodB 1 n t r = false := by unfold goodB; simp [hz]
      rw [e]
      clear e
      go_enter Tryd.func57, Tryd.ntmps57
      go_wp2_with fail
      refine (bits_c _).mono ?_
      rintro e w1 ⟨rfl, rfl⟩
      go_wp2_with fail
      go_ret
      exact ⟨by first | rfl | (simp; done) | (simp; omega), bW⟩
  have k1 : (k == 1) = false := beq_eq_false_iff_ne.2 h1
  by_cases h2 : k = 2
  · subst h2
    rcases ht with ⟨rfl, hz⟩ | ⟨hE, hz⟩
    · rcases hr with rfl | ⟨hr, hrb⟩
      · by_cases n0 : n < 0
        · skip
          have e : goodB 2 n ByteArray.empty 0 = false := by unfold goodB; simp; omega
          rw [e]
          clear e
          go_enter Tryd.func57, Tryd.ntmps57
          go_wp2_with fail
          refine (bits_c _).mono ?_
          rintro e w1 ⟨rfl, rfl⟩
          go_wp2_with fail
          go_ret
          exact ⟨by first | rfl | (simp; done) | (simp; omega), bW⟩
        by_cases n1 : 1 < n
        · have n0b : 0 ≤ n := by omega
          have e : goodB 2 n ByteArray.empty 0 = false := by unfold goodB; simp; omega
          rw [e]
          clear e
          go_enter Tryd.func57, Tryd.ntmps57
          go_wp2_with fail
          refine (bits_c _).mono ?_
          rintro e w1 ⟨rfl, rfl⟩
          go_wp2_with fail
          go_ret
          exact ⟨by first | rfl | (simp; done) | (simp; omega), bW⟩
        have n0b : 0 ≤ n := by omega
        have n1b : n ≤ 1 := by omega
        have e : goodB 2 n ByteArray.empty 0 = true := by unfold goodB; simp; omega
        rw [e]
        clear e n0 n1
        go_enter Tryd.func57, Tryd.ntmps57
        go_wp2_with fail
        refine (bits_c _).mono ?_
        rintro e w1 ⟨rfl, rfl⟩
        go_wp2_with fail
        go_ret
        exact ⟨by first | rfl | (simp; done) | (simp; omega), bW⟩
      · skip
        have e : goodB 2 n ByteArray.empty r = false := by unfold goodB; simp [hr]
        rw [e]
        clear e
        go_enter Tryd.func57, Tryd.ntmps57
        go_wp2_with fail
        refine (bits_c _).mono ?_
        rintro e w1 ⟨rfl, rfl⟩
        go_wp2_with fail
        go_ret
        exact ⟨by first | rfl | (simp; done) | (simp; omega), bW⟩
    · skip
      have e : goodB 2 n t r = false := by unfold goodB; simp [hz]
      rw [e]
      clear e
      go_enter Tryd.func57, Tryd.ntmps57
      go_wp2_with fail
      refine (bits_c _).mono ?_
      rintro e w1 ⟨rfl, rfl⟩
      go_wp2_with fail
      go_ret
      exact ⟨by first | rfl | (simp; done) | (simp; omega), bW⟩
  have k2 : (k == 2) = false := beq_eq_false_iff_ne.2 h2
  by_cases h3 : k = 3
  · subst h3
    by_cases n0 : n = 0
    · subst n0
      rcases hr with rfl | ⟨hr, hrb⟩
      · by_cases t0 : t.size ≤ 256
        · have t0I : (t.size : Int) ≤ 256 := by omega
          have e : goodB 3 0 t 0 = true := by unfold goodB; simp; omega
          rw [e]
          clear e ht
          go_enter Tryd.func57, Tryd.ntmps57
          go_wp2_with fail
          refine (bits_c _).mono ?_
          rintro e w1 ⟨rfl, rfl⟩
          go_wp2_with fail
          go_ret
          exact ⟨by first | rfl | (simp; done) | (simp; omega), bW⟩
        · have t0I : (256 : Int) < t.size := by omega
          have e : goodB 3 0 t 0 = false := by unfold goodB; simp; omega
          rw [e]
          clear e ht t0
          go_enter Tryd.func57, Tryd.ntmps57
          go_wp2_with fail
          refine (bits_c _).mono ?_
          rintro e w1 ⟨rfl, rfl⟩
          go_wp2_with fail
          go_ret
          exact ⟨by first | rfl | (simp; done) | (simp; omega), bW⟩
      · skip
        have e : goodB 3 0 t r = false := by unfold goodB; simp [hr]
        rw [e]
        clear e ht
        go_enter Tryd.func57, Tryd.ntmps57
        go_wp2_with fail
        refine (bits_c _).mono ?_
        rintro e w1 ⟨rfl, rfl⟩
        go_wp2_with fail
        go_ret
        exact ⟨by first | rfl | (simp; done) | (simp; omega), bW⟩
    · have n0b : (n == 0) = false := beq_eq_false_iff_ne.2 n0
      have e : goodB 3 n t r = false := by unfold goodB; simp [n0]
      rw [e]
      clear e ht
      go_enter Tryd.func57, Tryd.ntmps57
      go_wp2_with fail
      refine (bits_c _).mono ?_
      rintro e w1 ⟨rfl, rfl⟩
      go_wp2_with fail
      go_ret
      exact ⟨by first | rfl | (simp; done) | (simp; omega), bW⟩
  have k3 : (k == 3) = false := beq_eq_false_iff_ne.2 h3
  by_cases h4 : k = 4
  · subst h4
    by_cases n0 : n = 0
    · subst n0
      rcases ht with ⟨rfl, hz⟩ | ⟨hE, hz⟩
      · by_cases hc : r = canonR r
        · have hd : decide (r = canonR r) = true := decide_eq_true hc
          have e : goodB 4 0 ByteArray.empty r = true := by unfold goodB; simp; exact hc
          rw [e]
          clear e hc hr
          go_enter Tryd.func57, Tryd.ntmps57
          go_wp2_with fail
          refine (bits_c _).mono ?_
          rintro e w1 ⟨rfl, rfl⟩
          go_wp2_with fail
          go_quiet ((first | (go_at_call 22; with_reducible exact Calls.quiet_of_same (rawSame_q' _ _)) | (go_at_call 70; with_reducible exact Calls.quiet_of_same (refCanon_q _ HR.out))))
          go_wp2_with fail
          go_ret
          exact ⟨by first | rfl | (simp; done) | (simp; omega), bW.trans ((below_drewN _ _).mono bW.size)⟩
        · have hd : decide (r = canonR r) = false := decide_eq_false hc
          have e : goodB 4 0 ByteArray.empty r = false := by unfold goodB; simp; exact hc
          rw [e]
          clear e hc hr
          go_enter Tryd.func57, Tryd.ntmps57
          go_wp2_with fail
          refine (bits_c _).mono ?_
          rintro e w1 ⟨rfl, rfl⟩
          go_wp2_with fail
          go_quiet ((first | (go_at_call 22; with_reducible exact Calls.quiet_of_same (rawSame_q' _ _)) | (go_at_call 70; with_reducible exact Calls.quiet_of_same (refCanon_q _ HR.out))))
          go_wp2_with fail
          go_ret
          exact ⟨by first | rfl | (simp; done) | (simp; omega), bW.trans ((below_drewN _ _).mono bW.size)⟩
      · skip
        have e : goodB 4 0 t r = false := by unfold goodB; simp [hz]
        rw [e]
        clear e hr
        go_enter Tryd.func57, Tryd.ntmps57
        go_wp2_with fail
        refine (bits_c _).mono ?_
        rintro e w1 ⟨rfl, rfl⟩
        go_wp2_with fail
        go_quiet ((first | (go_at_call 22; with_reducible exact Calls.quiet_of_same (rawSame_q' _ _)) | (go_at_call 70; with_reducible exact Calls.quiet_of_same (refCanon_q _ HR.out))))
        go_wp2_with fail
        go_ret
        exact ⟨by first | rfl | (simp; done) | (simp; omega), bW.trans ((below_drewN _ _).mono bW.size)⟩
    · have n0b : (n == 0) = false := beq_eq_false_iff_ne.2 n0
      have e : goodB 4 n t r = false := by unfold goodB; simp [n0]
      rw [e]
      clear e ht hr
      go_enter Tryd.func57, Tryd.ntmps57
      go_wp2_with fail
      refine (bits_c _).mono ?_
      rintro e w1 ⟨rfl, rfl⟩
      go_wp2_with fail
      go_quiet ((first | (go_at_call 22; with_reducible exact Calls.quiet_of_same (rawSame_q' _ _)) | (go_at_call 70; with_reducible exact Calls.quiet_of_same (refCanon_q _ HR.out))))
      go_wp2_with fail
      go_ret
      exact ⟨by first | rfl | (simp; done) | (simp; omega), bW.trans ((below_drewN _ _).mono bW.size)⟩
  have k4 : (k == 4) = false := beq_eq_false_iff_ne.2 h4
  have e : goodB k n t r = false := by unfold goodB; simp [h1, h2, h3, h4]
  rw [e]
  clear e ht hr
  go_enter Tryd.func57, Tryd.ntmps57
  go_wp2_with fail
  refine (bits_c _).mono ?_
  rintro e w1 ⟨rfl, rfl⟩
  go_wp2_with fail
  go_quiet ((first | (go_at_call 22; with_reducible exact Calls.quiet_of_same (rawSame_q' _ _)) | (go_at_call 70; with_reducible exact Calls.quiet_of_same (refCanon_q _ HR.out))))
  go_wp2_with fail
  go_ret
  exact ⟨by first | rfl | (simp; done) | (simp; omega), bW.trans ((below_drewN _ _).mono bW.size)⟩
end Go.Proofs.YteigbejidfkhpaaDoor

/- Layer 15: the reader's values. -/
namespace Go.Proofs.YteigbejidfkhpaaDoor
open Go Go.RowKit
set_option linter.unusedSimpArgs false
set_option linter.unusedVariables false

def widR (n : Nat) : Nat := match widenE n with | some v => canonR v | none => 9221120237041090561
theorem from32_run (w : World) (n : Int) : (callFunc 83 #[.int .u32 n]).run Tryd.prog w = .ok (.value (.float .f32 n.toNat)) w := by
  rw [run_callFunc_extern (e := Extern.MathFloatBits.float32frombits) Tryd.func83 (by kernel_rfl) (by kernel_rfl) (by kernel_rfl) (by kernel_rfl)]
  rfl
theorem canon_c' {w : World} (r : Nat) (hr : nanB r = true) :
    Calls Tryd.prog 66 #[.float .f64 r] w fun e w' => e = .returned (.float .f64 9221120237041090561) ∧ w = w' := by
  have h := canon_c (w := w) r
  rw [show canonR r = 9221120237041090561 by unfold canonR; rw [hr]; rfl] at h
  exact h
theorem to64_any (n : Nat) (w : World) : ∃ (b : Nat) (w1 : World), (convert 95 41 (.float .f32 n)).run Tryd.prog w = .ok (.float .f64 b) w1 ∧ (w1 = w ∨ w1 = w.drew) ∧ canonR b = widR n := by
  unfold widR widenE
  cases h : Ieee.single.read n with
  | number s m e => exact ⟨_, _, to64_num h w, .inl rfl, rfl⟩
  | infinity s => exact ⟨_, _, to64_inf h w, .inl rfl, rfl⟩
  | nan s t =>
    obtain ⟨b, h1, h2⟩ := to64_nan h w
    refine ⟨b, _, h1, .inr rfl, ?_⟩
    have hn : nanB b = true := by
      unfold nanB
      rw [show FloatKind.f64.format = Ieee.double from rfl, h2 b]
      rfl
    unfold canonR
    rw [hn]
    rfl

set_option maxRecDepth 100000 in
theorem widen_c {w : World} (n : Nat) (ni : Int) (hni : ni = n) :
    Calls Tryd.prog 71 #[.int .u32 ni] w fun e w' => e = .returned (.float .f64 (widR n)) ∧ Below w.heap.size w w' := by
  subst hni
  obtain ⟨b, w1, hc, hw, hb⟩ := to64_any n w
  have q := from32_run
  have HB := Lib.hid hb
  have hW := Lib.hid (show Below w.heap.size w w1 by rcases hw with rfl | rfl; exact Below.refl _ _; exact (Below.refl _ _).drew)
  clear hb hw
  go_enter Tryd.func71, Tryd.ntmps71
  go_wp2_with fail
  refine (canon_c b).mono ?_
  rintro e w2 ⟨rfl, rfl⟩
  go_wp2_with fail
  go_ret
  exact ⟨by first | rfl | (rw [HB.out]; rfl), hW.out⟩

structure Vl where
  k : Int
  n : Int
  t : ByteArray
  r : Nat
def Vl.val (v : Vl) : Value := .agg #[.int .i64 v.k, .int .i64 v.n, .string v.t, .float .f64 v.r]
def sgn (b : Nat) (n : Nat) : Int := if n < 2 ^ (b - 1) then n else (n : Int) - 2 ^ b
/-- The next value, behind its letter. -/
def valQ (x r : ByteArray) : Option (Vl × ByteArray) :=
  if x = ⟨#[116]⟩ then (numP 1 r).map fun q => (⟨2, q.1, ByteArray.empty, 0⟩, q.2)
  else if x = ⟨#[98]⟩ then (numP 1 r).map fun q => (⟨1, sgn 8 q.1, ByteArray.empty, 0⟩, q.2)
  else if x = ⟨#[115]⟩ then (numP 2 r).map fun q => (⟨1, sgn 16 q.1, ByteArray.empty, 0⟩, q.2)
  else if x = ⟨#[73]⟩ then (numP 4 r).map fun q => (⟨1, sgn 32 q.1, ByteArray.empty, 0⟩, q.2)
  else if x = ⟨#[108]⟩ then (numP 8 r).map fun q => (⟨1, sgn 64 q.1, ByteArray.empty, 0⟩, q.2)
  else if x = ⟨#[102]⟩ then (numP 4 r).map fun q => (⟨4, 0, ByteArray.empty, widR q.1⟩, q.2)
  else if x = ⟨#[100]⟩ then (numP 8 r).map fun q => (⟨4, 0, ByteArray.empty, canonR q.1⟩, q.2)
  else if x = ⟨#[83]⟩ then (longP r).map fun q => (⟨3, 0, q.1, 0⟩, q.2)
  else none
def valP (s : ByteArray) : Option (Vl × ByteArray) := (takeP 1 s).bind fun p => valQ p.1 p.2
theorem sg8 (n : Nat) (hn : n < 256 ^ 1) : ∃ z : Int, IntKind.i8.wrap (n : Int) = z ∧ z = sgn 8 n ∧ -9223372036854775808 ≤ z ∧ z ≤ 9223372036854775807 := by
  refine ⟨_, rfl, ?_⟩
  have hn' : n < 256 := hn
  unfold sgn
  have hw : IntKind.i8.wrap (n : Int) = ((n : Int) + 128) % 256 - 128 := by
    simp [IntKind.wrap, IntKind.bits, IntKind.signed]
    split <;> omega
  rw [hw]
  split
  · rename_i h
    have h' : n < 128 := h
    omega
  · rename_i h
    have h' : ¬ n < 128 := h
    show _ = (n : Int) - 256 ∧ _
    omega
theorem sg16 (n : Nat) (hn : n < 256 ^ 2) : ∃ z : Int, IntKind.i16.wrap (n : Int) = z ∧ z = sgn 16 n ∧ -9223372036854775808 ≤ z ∧ z ≤ 9223372036854775807 := by
  refine ⟨_, rfl, ?_⟩
  have hn' : n < 65536 := hn
  unfold sgn
  have hw : IntKind.i16.wrap (n : Int) = ((n : Int) + 32768) % 65536 - 32768 := by
    simp [IntKind.wrap, IntKind.bits, IntKind.signed]
    split <;> omega
  rw [hw]
  split
  · rename_i h
    have h' : n < 32768 := h
    omega
  · rename_i h
    have h' : ¬ n < 32768 := h
    show _ = (n : Int) - 65536 ∧ _
    omega
theorem sg32 (n : Nat) (hn : n < 256 ^ 4) : ∃ z : Int, IntKind.i32.wrap (n : Int) = z ∧ z = sgn 32 n ∧ -9223372036854775808 ≤ z ∧ z ≤ 9223372036854775807 := by
  refine ⟨_, rfl, ?_⟩
  have hn' : n < 4294967296 := hn
  unfold sgn
  have hw : IntKind.i32.wrap (n : Int) = ((n : Int) + 2147483648) % 4294967296 - 2147483648 := by
    simp [IntKind.wrap, IntKind.bits, IntKind.signed]
    split <;> omega
  rw [hw]
  split
  · rename_i h
    have h' : n < 2147483648 := h
    omega
  · rename_i h
    have h' : ¬ n < 2147483648 := h
    show _ = (n : Int) - 4294967296 ∧ _
    omega
theorem sg64 (n : Nat) (hn : n < 256 ^ 8) : ∃ z : Int, IntKind.i64.wrap (n : Int) = z ∧ z = sgn 64 n ∧ -9223372036854775808 ≤ z ∧ z ≤ 9223372036854775807 := by
  refine ⟨_, rfl, ?_⟩
  have hn' : n < 18446744073709551616 := hn
  unfold sgn
  have hw : IntKind.i64.wrap (n : Int) = ((n : Int) + 9223372036854775808) % 18446744073709551616 - 9223372036854775808 := by
    simp [IntKind.wrap, IntKind.bits, IntKind.signed]
    split <;> omega
  rw [hw]
  split
  · rename_i h
    have h' : n < 9223372036854775808 := h
    omega
  · rename_i h
    have h' : ¬ n < 9223372036854775808 := h
    show _ = (n : Int) - 18446744073709551616 ∧ _
    omega
theorem results_row1 {P : Program} {fn : Func} {p : Tmp} {ty : TypeId} (h : fn.results = #[.cell p ty]) (tmps : Array Value) (w : World) (g : Nat) (t : TypeId) (cs : Array Value) (fr : Nat × Nat) (d : TypeDesc)
    (hp : tmps.getD p undef = .pointer (some ⟨g, 0, none⟩)) (hg : w.heap[g]? = some (.cells cs t fr))
    (hu : P.underlying ty = some d) (hd : (match d with | .struct _ | .array _ _ => true | _ => false) = true) (hi : (P.info? ty).map (·.size) = some cs.size) :
    (results fn tmps).run P w = .ok (.agg cs) w := by
  have hp' : tmps[p]?.getD undef = .pointer (some ⟨g, 0, none⟩) := by simpa using hp
  simp [results, h, hp', asAddr, run_loadVar_row w g t ty cs fr d hg hu hd hi]
theorem value_end {fn : Func} (h : fn.results = #[.cell 2 46]) {R : Ending → World → Prop} {a : Act} {w : World} {g : Nat} {t : TypeId} {c0 c1 c2 c3 : Value} {fr : Nat × Nat}
    (hp : a.tmps.getD 2 undef = .pointer (some ⟨g, 0, none⟩)) (hg : w.heap[g]? = some (.cells #[c0, c1, c2, c3] t fr)) (hd : a.defers = [])
    (hR : R (.returned (.agg #[c0, c1, c2, c3])) w) : bodyPost Tryd.prog fn R .ret a w :=
  bodyPost_ret (results_row1 h _ _ _ _ _ _ _ hp hg Tryd.underlying46 rfl (by kernel_rfl)) hd hR

theorem str_bne {a : ByteArray} {l : List UInt8} (h : ¬ a = ⟨l.toArray⟩) : (a.toList == l) = false := by
  refine beq_eq_false_iff_ne.2 fun e => h ?_
  rw [ByteArray.toList_eq] at e
  exact ByteArray.ext (Array.toList_inj.1 (by simpa using e))

/-- The world behind the stores of a value's four cells. -/
abbrev set4w (w : World) (g : Nat) (a b c d : Value) : World := (((w.setCell ⟨g, 0, none⟩ a).setCell ⟨g, 1, none⟩ b).setCell ⟨g, 2, none⟩ c).setCell ⟨g, 3, none⟩ d
theorem cells4_at {w : World} {g : Nat} {t : TypeId} {c0 c1 c2 c3 : Value} {fr : Nat × Nat} (h : w.heap[g]? = some (.cells #[c0, c1, c2, c3] t fr)) (a b c d : Value) : (set4w w g a b c d).heap[g]? = some (.cells #[a, b, c, d] t fr) := by
  simp [World.setCell, Array.getElem?_modify, h]
theorem grown_new {w wk : World} {g : Option Nat} (h : w.grownBy wk g) {n : Nat} (hn : w.heap.size ≤ n) (j : Nat) (u : Value) : w.grownBy (wk.setCell ⟨n, j, none⟩ u) g :=
  ⟨h.os, h.tape, h.output, by simp [World.setCell]; exact h.size, fun k hk hne => (Below.heap_setCell wk ⟨n, j, none⟩ u k (fun e => by have e' : k = n := e; omega)).trans (h.block k hk hne)⟩
theorem grown4 {w w0 wk : World} {g : Nat} (b : Below w.heap.size w w0) (h : w0.grownBy wk (some g)) (x y z u : Value) : w.grownBy (set4w wk w.heap.size x y z u) (some g) :=
  grown_new (grown_new (grown_new (grown_new ((grownBy_below b _).trans h) (Nat.le_refl _) 0 x) (Nat.le_refl _) 1 y) (Nat.le_refl _) 2 z) (Nat.le_refl _) 3 u
theorem rd_other {w : World} {g n : Nat} {s : ByteArray} (h : RD w g s) (hn : g ≠ n) (j : Nat) (u : Value) : RD (w.setCell ⟨n, j, none⟩ u) g s :=
  (Below.heap_setCell w ⟨n, j, none⟩ u g hn).trans h
theorem rd4 {w : World} {g n : Nat} {s : ByteArray} (hn : g < n) (h : RD w g s) (x y z u : Value) : RD (set4w w n x y z u) g s :=
  rd_other (rd_other (rd_other (rd_other h (by omega) 0 x) (by omega) 1 y) (by omega) 2 z) (by omega) 3 u
set_option maxRecDepth 1000000 in
set_option maxHeartbeats 8000000 in
theorem rdValue_c {w : World} {g : Nat} {s : ByteArray} (h : RD w g s) (hs : s.size ≤ 140737488355328) :
    Calls Tryd.prog 60 #[.pointer (some ⟨g, 0, none⟩)] w (PR w g Vl.val (valP s)) := by
  have bA : Below w.heap.size w (w.alloc (.cells #[.int .i64 0, .int .i64 0, .string ByteArray.empty, .float .f64 0] 46)) := (Below.refl _ _).alloc (Nat.le_refl _) _
  have hT := rdTake_c (rd_below h bA) 1 1 rfl
  have q32 := from32_run
  have q64 := from64_run
  have qs := store_float (P := Tryd.prog)
  cases ho : takeP 1 s with
  | none =>
    have HT := Lib.hid (pr_no hT ho)
    have HV := Lib.hid (show valP s = none by unfold valP; rw [ho]; rfl)
    have BA := Lib.hid bA
    clear ho hT h bA
    go_enter Tryd.func60, Tryd.ntmps60
    go_wp2_with fail
    refine (HT.out).mono ?_
    rintro e w1 ⟨rfl, g1⟩
    go_wp2_with fail
    exact ⟨rfl, pr_none HV.out ((grownBy_below BA.out _).trans g1) rfl⟩
  | some p =>
    obtain ⟨x, r⟩ := p
    have HT := Lib.hid (pr_yes hT ho)
    have hr : r.size ≤ 140737488355328 := by have := (takeP_size ho).2; omega
    have hV : valP s = valQ x r := by unfold valP; rw [ho]; rfl
    have BA := Lib.hid bA
    have HG := Lib.hid (rd_lt h)
    clear ho hT h bA
    have hnew : ∀ w1 : World, (w.alloc (.cells #[.int .i64 0, .int .i64 0, .string ByteArray.empty, .float .f64 0] 46)).grownBy w1 (some g) → w1.heap[w.heap.size]? = some (.cells #[.int .i64 0, .int .i64 0, .string ByteArray.empty, .float .f64 0] 46 (0, 0)) := fun w1 h1 => by
      rw [h1.block w.heap.size (by simp) (fun e => by injection e with e; have := HG.out; omega)]
      exact heap_alloc_new w _
    have HNW := Lib.hid hnew
    clear hnew
    unfold valQ at hV
    by_cases c0 : x = ⟨#[116]⟩
    · rw [if_pos c0] at hV
      subst c0
      have HV := Lib.hid hV
      clear hV
      go_enter Tryd.func60, Tryd.ntmps60
      go_wp2_with fail
      refine (HT.out).mono ?_
      rintro e w1 ⟨rfl, r1, g1⟩
      have hN := rdNumber_c r1 1 (by omega) 1 rfl
      have G1 := Lib.hid g1
      clear r1 g1
      cases ho : numP 1 r with
      | none =>
        have HN := Lib.hid (pr_no hN ho)
        have HO := Lib.hid ho
        clear hN ho
        go_wp2_with fail
        refine (HN.out).mono ?_
        rintro e w2 ⟨rfl, g2⟩
        go_wp2_with fail
        exact ⟨rfl, pr_none (HV.out.trans (by rw [HO.out]; rfl)) ((grownBy_below BA.out _).trans (G1.out.trans g2)) rfl⟩
      | some q =>
        obtain ⟨n, r'⟩ := q
        have HN := Lib.hid (pr_yes hN ho)
        have hn := numP_lt ho
        have hnI : (n : Int) < 256 := by omega
        have HO := Lib.hid ho
        clear hN ho hn
        go_wp2_with fail
        refine (HN.out).mono ?_
        rintro e w2 ⟨rfl, r2, g2⟩
        have hb := HNW.out _ (G1.out.trans g2)
        have R2 := Lib.hid r2
        have G2 := Lib.hid g2
        have HB := Lib.hid hb
        clear r2 g2 hb
        have q0 : w2.cell? ⟨w.heap.size, 0, none⟩ = some (.int .i64 0) := by simp [World.cell?, HB.out]
        have q1 : w2.cell? ⟨w.heap.size, 1, none⟩ = some (.int .i64 0) := by simp [World.cell?, HB.out]
        have q2 : w2.cell? ⟨w.heap.size, 2, none⟩ = some (.string ByteArray.empty) := by simp [World.cell?, HB.out]
        have q3 : w2.cell? ⟨w.heap.size, 3, none⟩ = some (.float .f64 0) := by simp [World.cell?, HB.out]
        have f0 : w2.frozen? ⟨w.heap.size, 0, none⟩ = false := by simp [World.frozen?, HB.out]
        have f1 : w2.frozen? ⟨w.heap.size, 1, none⟩ = false := by simp [World.frozen?, HB.out]
        have f2 : w2.frozen? ⟨w.heap.size, 2, none⟩ = false := by simp [World.frozen?, HB.out]
        have f3 : w2.frozen? ⟨w.heap.size, 3, none⟩ = false := by simp [World.frozen?, HB.out]
        go_wp2_with fail
        refine value_end rfl rfl (cells4_at HB.out _ _ _ _) rfl ?_
        exact pr_some (HV.out.trans (by rw [HO.out]; rfl)) (grown4 BA.out (G1.out.trans G2.out) _ _ _ _) rfl (rd4 HG.out R2.out _ _ _ _)
    rw [if_neg c0] at hV
    have b0 : (x.toList == [116]) = false := str_bne (l := [116]) c0
    by_cases c1 : x = ⟨#[98]⟩
    · rw [if_pos c1] at hV
      subst c1
      have HV := Lib.hid hV
      clear hV b0
      go_enter Tryd.func60, Tryd.ntmps60
      go_wp2_with fail
      refine (HT.out).mono ?_
      rintro e w1 ⟨rfl, r1, g1⟩
      have hN := rdNumber_c r1 1 (by omega) 1 rfl
      have G1 := Lib.hid g1
      clear r1 g1
      cases ho : numP 1 r with
      | none =>
        have HN := Lib.hid (pr_no hN ho)
        have HO := Lib.hid ho
        clear hN ho
        go_wp2_with fail
        refine (HN.out).mono ?_
        rintro e w2 ⟨rfl, g2⟩
        go_wp2_with fail
        exact ⟨rfl, pr_none (HV.out.trans (by rw [HO.out]; rfl)) ((grownBy_below BA.out _).trans (G1.out.trans g2)) rfl⟩
      | some q =>
        obtain ⟨n, r'⟩ := q
        have HN := Lib.hid (pr_yes hN ho)
        have hn := numP_lt ho
        obtain ⟨z, hz, hz1, hz2⟩ := sg8 n hn
        have hnI : (n : Int) < 256 := by omega
        have HZ := Lib.hid hz1
        have hz3 : -9223372036854775808 ≤ z := hz2.1
        have hz4 : z ≤ 9223372036854775807 := hz2.2
        have hz5 : IntKind.i64.wrap z = z := IntWalk.i64_in _ (by omega)
        clear hz1 hz2
        have HO := Lib.hid ho
        clear hN ho hn
        go_wp2_with fail
        refine (HN.out).mono ?_
        rintro e w2 ⟨rfl, r2, g2⟩
        have hb := HNW.out _ (G1.out.trans g2)
        have R2 := Lib.hid r2
        have G2 := Lib.hid g2
        have HB := Lib.hid hb
        clear r2 g2 hb
        have q0 : w2.cell? ⟨w.heap.size, 0, none⟩ = some (.int .i64 0) := by simp [World.cell?, HB.out]
        have q1 : w2.cell? ⟨w.heap.size, 1, none⟩ = some (.int .i64 0) := by simp [World.cell?, HB.out]
        have q2 : w2.cell? ⟨w.heap.size, 2, none⟩ = some (.string ByteArray.empty) := by simp [World.cell?, HB.out]
        have q3 : w2.cell? ⟨w.heap.size, 3, none⟩ = some (.float .f64 0) := by simp [World.cell?, HB.out]
        have f0 : w2.frozen? ⟨w.heap.size, 0, none⟩ = false := by simp [World.frozen?, HB.out]
        have f1 : w2.frozen? ⟨w.heap.size, 1, none⟩ = false := by simp [World.frozen?, HB.out]
        have f2 : w2.frozen? ⟨w.heap.size, 2, none⟩ = false := by simp [World.frozen?, HB.out]
        have f3 : w2.frozen? ⟨w.heap.size, 3, none⟩ = false := by simp [World.frozen?, HB.out]
        go_wp2_with fail
        refine value_end rfl rfl (cells4_at HB.out _ _ _ _) rfl ?_
        exact pr_some (HV.out.trans (by rw [HO.out]; rfl)) (grown4 BA.out (G1.out.trans G2.out) _ _ _ _) (by rw [HZ.out]; rfl) (rd4 HG.out R2.out _ _ _ _)
    rw [if_neg c1] at hV
    have b1 : (x.toList == [98]) = false := str_bne (l := [98]) c1
    by_cases c2 : x = ⟨#[115]⟩
    · rw [if_pos c2] at hV
      subst c2
      have HV := Lib.hid hV
      clear hV b0 b1
      go_enter Tryd.func60, Tryd.ntmps60
      go_wp2_with fail
      refine (HT.out).mono ?_
      rintro e w1 ⟨rfl, r1, g1⟩
      have hN := rdNumber_c r1 2 (by omega) 2 rfl
      have G1 := Lib.hid g1
      clear r1 g1
      cases ho : numP 2 r with
      | none =>
        have HN := Lib.hid (pr_no hN ho)
        have HO := Lib.hid ho
        clear hN ho
        go_wp2_with fail
        refine (HN.out).mono ?_
        rintro e w2 ⟨rfl, g2⟩
        go_wp2_with fail
        exact ⟨rfl, pr_none (HV.out.trans (by rw [HO.out]; rfl)) ((grownBy_below BA.out _).trans (G1.out.trans g2)) rfl⟩
      | some q =>
        obtain ⟨n, r'⟩ := q
        have HN := Lib.hid (pr_yes hN ho)
        have hn := numP_lt ho
        obtain ⟨z, hz, hz1, hz2⟩ := sg16 n hn
        have hnI : (n : Int) < 65536 := by omega
        have HZ := Lib.hid hz1
        have hz3 : -9223372036854775808 ≤ z := hz2.1
        have hz4 : z ≤ 9223372036854775807 := hz2.2
        have hz5 : IntKind.i64.wrap z = z := IntWalk.i64_in _ (by omega)
        clear hz1 hz2
        have HO := Lib.hid ho
        clear hN ho hn
        go_wp2_with fail
        refine (HN.out).mono ?_
        rintro e w2 ⟨rfl, r2, g2⟩
        have hb := HNW.out _ (G1.out.trans g2)
        have R2 := Lib.hid r2
        have G2 := Lib.hid g2
        have HB := Lib.hid hb
        clear r2 g2 hb
        have q0 : w2.cell? ⟨w.heap.size, 0, none⟩ = some (.int .i64 0) := by simp [World.cell?, HB.out]
        have q1 : w2.cell? ⟨w.heap.size, 1, none⟩ = some (.int .i64 0) := by simp [World.cell?, HB.out]
        have q2 : w2.cell? ⟨w.heap.size, 2, none⟩ = some (.string ByteArray.empty) := by simp [World.cell?, HB.out]
        have q3 : w2.cell? ⟨w.heap.size, 3, none⟩ = some (.float .f64 0) := by simp [World.cell?, HB.out]
        have f0 : w2.frozen? ⟨w.heap.size, 0, none⟩ = false := by simp [World.frozen?, HB.out]
        have f1 : w2.frozen? ⟨w.heap.size, 1, none⟩ = false := by simp [World.frozen?, HB.out]
        have f2 : w2.frozen? ⟨w.heap.size, 2, none⟩ = false := by simp [World.frozen?, HB.out]
        have f3 : w2.frozen? ⟨w.heap.size, 3, none⟩ = false := by simp [World.frozen?, HB.out]
        go_wp2_with fail
        refine value_end rfl rfl (cells4_at HB.out _ _ _ _) rfl ?_
        exact pr_some (HV.out.trans (by rw [HO.out]; rfl)) (grown4 BA.out (G1.out.trans G2.out) _ _ _ _) (by rw [HZ.out]; rfl) (rd4 HG.out R2.out _ _ _ _)
    rw [if_neg c2] at hV
    have b2 : (x.toList == [115]) = false := str_bne (l := [115]) c2
    by_cases c3 : x = ⟨#[73]⟩
    · rw [if_pos c3] at hV
      subst c3
      have HV := Lib.hid hV
      clear hV b0 b1 b2
      go_enter Tryd.func60, Tryd.ntmps60
      go_wp2_with fail
      refine (HT.out).mono ?_
      rintro e w1 ⟨rfl, r1, g1⟩
      have hN := rdNumber_c r1 4 (by omega) 4 rfl
      have G1 := Lib.hid g1
      clear r1 g1
      cases ho : numP 4 r with
      | none =>
        have HN := Lib.hid (pr_no hN ho)
        have HO := Lib.hid ho
        clear hN ho
        go_wp2_with fail
        refine (HN.out).mono ?_
        rintro e w2 ⟨rfl, g2⟩
        go_wp2_with fail
        exact ⟨rfl, pr_none (HV.out.trans (by rw [HO.out]; rfl)) ((grownBy_below BA.out _).trans (G1.out.trans g2)) rfl⟩
      | some q =>
        obtain ⟨n, r'⟩ := q
        have HN := Lib.hid (pr_yes hN ho)
        have hn := numP_lt ho
        obtain ⟨z, hz, hz1, hz2⟩ := sg32 n hn
        have hnI : (n : Int) < 4294967296 := by omega
        have HZ := Lib.hid hz1
        have hz3 : -9223372036854775808 ≤ z := hz2.1
        have hz4 : z ≤ 9223372036854775807 := hz2.2
        have hz5 : IntKind.i64.wrap z = z := IntWalk.i64_in _ (by omega)
        clear hz1 hz2
        have HO := Lib.hid ho
        clear hN ho hn
        go_wp2_with fail
        refine (HN.out).mono ?_
        rintro e w2 ⟨rfl, r2, g2⟩
        have hb := HNW.out _ (G1.out.trans g2)
        have R2 := Lib.hid r2
        have G2 := Lib.hid g2
        have HB := Lib.hid hb
        clear r2 g2 hb
        have q0 : w2.cell? ⟨w.heap.size, 0, none⟩ = some (.int .i64 0) := by simp [World.cell?, HB.out]
        have q1 : w2.cell? ⟨w.heap.size, 1, none⟩ = some (.int .i64 0) := by simp [World.cell?, HB.out]
        have q2 : w2.cell? ⟨w.heap.size, 2, none⟩ = some (.string ByteArray.empty) := by simp [World.cell?, HB.out]
        have q3 : w2.cell? ⟨w.heap.size, 3, none⟩ = some (.float .f64 0) := by simp [World.cell?, HB.out]
        have f0 : w2.frozen? ⟨w.heap.size, 0, none⟩ = false := by simp [World.frozen?, HB.out]
        have f1 : w2.frozen? ⟨w.heap.size, 1, none⟩ = false := by simp [World.frozen?, HB.out]
        have f2 : w2.frozen? ⟨w.heap.size, 2, none⟩ = false := by simp [World.frozen?, HB.out]
        have f3 : w2.frozen? ⟨w.heap.size, 3, none⟩ = false := by simp [World.frozen?, HB.out]
        go_wp2_with fail
        refine value_end rfl rfl (cells4_at HB.out _ _ _ _) rfl ?_
        exact pr_some (HV.out.trans (by rw [HO.out]; rfl)) (grown4 BA.out (G1.out.trans G2.out) _ _ _ _) (by rw [HZ.out]; rfl) (rd4 HG.out R2.out _ _ _ _)
    rw [if_neg c3] at hV
    have b3 : (x.toList == [73]) = false := str_bne (l := [73]) c3
    by_cases c4 : x = ⟨#[108]⟩
    · rw [if_pos c4] at hV
      subst c4
      have HV := Lib.hid hV
      clear hV b0 b1 b2 b3
      go_enter Tryd.func60, Tryd.ntmps60
      go_wp2_with fail
      refine (HT.out).mono ?_
      rintro e w1 ⟨rfl, r1, g1⟩
      have hN := rdNumber_c r1 8 (by omega) 8 rfl
      have G1 := Lib.hid g1
      clear r1 g1
      cases ho : numP 8 r with
      | none =>
        have HN := Lib.hid (pr_no hN ho)
        have HO := Lib.hid ho
        clear hN ho
        go_wp2_with fail
        refine (HN.out).mono ?_
        rintro e w2 ⟨rfl, g2⟩
        go_wp2_with fail
        exact ⟨rfl, pr_none (HV.out.trans (by rw [HO.out]; rfl)) ((grownBy_below BA.out _).trans (G1.out.trans g2)) rfl⟩
      | some q =>
        obtain ⟨n, r'⟩ := q
        have HN := Lib.hid (pr_yes hN ho)
        have hn := numP_lt ho
        obtain ⟨z, hz, hz1, hz2⟩ := sg64 n hn
        have HZ := Lib.hid hz1
        have hz3 : -9223372036854775808 ≤ z := hz2.1
        have hz4 : z ≤ 9223372036854775807 := hz2.2
        have hz5 : IntKind.i64.wrap z = z := IntWalk.i64_in _ (by omega)
        clear hz1 hz2
        have HO := Lib.hid ho
        clear hN ho hn
        go_wp2_with fail
        refine (HN.out).mono ?_
        rintro e w2 ⟨rfl, r2, g2⟩
        have hb := HNW.out _ (G1.out.trans g2)
        have R2 := Lib.hid r2
        have G2 := Lib.hid g2
        have HB := Lib.hid hb
        clear r2 g2 hb
        have q0 : w2.cell? ⟨w.heap.size, 0, none⟩ = some (.int .i64 0) := by simp [World.cell?, HB.out]
        have q1 : w2.cell? ⟨w.heap.size, 1, none⟩ = some (.int .i64 0) := by simp [World.cell?, HB.out]
        have q2 : w2.cell? ⟨w.heap.size, 2, none⟩ = some (.string ByteArray.empty) := by simp [World.cell?, HB.out]
        have q3 : w2.cell? ⟨w.heap.size, 3, none⟩ = some (.float .f64 0) := by simp [World.cell?, HB.out]
        have f0 : w2.frozen? ⟨w.heap.size, 0, none⟩ = false := by simp [World.frozen?, HB.out]
        have f1 : w2.frozen? ⟨w.heap.size, 1, none⟩ = false := by simp [World.frozen?, HB.out]
        have f2 : w2.frozen? ⟨w.heap.size, 2, none⟩ = false := by simp [World.frozen?, HB.out]
        have f3 : w2.frozen? ⟨w.heap.size, 3, none⟩ = false := by simp [World.frozen?, HB.out]
        go_wp2_with fail
        refine value_end rfl rfl (cells4_at HB.out _ _ _ _) rfl ?_
        exact pr_some (HV.out.trans (by rw [HO.out]; rfl)) (grown4 BA.out (G1.out.trans G2.out) _ _ _ _) (by rw [HZ.out]; rfl) (rd4 HG.out R2.out _ _ _ _)
    rw [if_neg c4] at hV
    have b4 : (x.toList == [108]) = false := str_bne (l := [108]) c4
    by_cases c5 : x = ⟨#[102]⟩
    · rw [if_pos c5] at hV
      subst c5
      have HV := Lib.hid hV
      clear hV b0 b1 b2 b3 b4
      go_enter Tryd.func60, Tryd.ntmps60
      go_wp2_with fail
      refine (HT.out).mono ?_
      rintro e w1 ⟨rfl, r1, g1⟩
      have hN := rdNumber_c r1 4 (by omega) 4 rfl
      have G1 := Lib.hid g1
      clear r1 g1
      cases ho : numP 4 r with
      | none =>
        have HN := Lib.hid (pr_no hN ho)
        have HO := Lib.hid ho
        clear hN ho
        go_wp2_with fail
        refine (HN.out).mono ?_
        rintro e w2 ⟨rfl, g2⟩
        go_wp2_with fail
        exact ⟨rfl, pr_none (HV.out.trans (by rw [HO.out]; rfl)) ((grownBy_below BA.out _).trans (G1.out.trans g2)) rfl⟩
      | some q =>
        obtain ⟨n, r'⟩ := q
        have HN := Lib.hid (pr_yes hN ho)
        have hn := numP_lt ho
        have hnI : (n : Int) < 4294967296 := by omega
        have HO := Lib.hid ho
        clear hN ho hn
        go_wp2_with fail
        refine (HN.out).mono ?_
        rintro e w2 ⟨rfl, r2, g2⟩
        have hb := HNW.out _ (G1.out.trans g2)
        have R2 := Lib.hid r2
        have G2 := Lib.hid g2
        have HB := Lib.hid hb
        clear r2 g2 hb
        go_wp2_with fail
        refine (widen_c n _ (by first | rfl | exact IntWalk.u32_in _ (by omega))).mono ?_
        rintro e w3 ⟨rfl, b3⟩
        have R3 := Lib.hid (rd_below R2.out b3)
        have G3 := Lib.hid (G2.out.trans (grownBy_below b3 _))
        have hb3 := HNW.out _ (G1.out.trans G3.out)
        have HB3 := Lib.hid hb3
        clear b3 hb3
        have q0 : w3.cell? ⟨w.heap.size, 0, none⟩ = some (.int .i64 0) := by simp [World.cell?, HB3.out]
        have q1 : w3.cell? ⟨w.heap.size, 1, none⟩ = some (.int .i64 0) := by simp [World.cell?, HB3.out]
        have q2 : w3.cell? ⟨w.heap.size, 2, none⟩ = some (.string ByteArray.empty) := by simp [World.cell?, HB3.out]
        have q3 : w3.cell? ⟨w.heap.size, 3, none⟩ = some (.float .f64 0) := by simp [World.cell?, HB3.out]
        have f0 : w3.frozen? ⟨w.heap.size, 0, none⟩ = false := by simp [World.frozen?, HB3.out]
        have f1 : w3.frozen? ⟨w.heap.size, 1, none⟩ = false := by simp [World.frozen?, HB3.out]
        have f2 : w3.frozen? ⟨w.heap.size, 2, none⟩ = false := by simp [World.frozen?, HB3.out]
        have f3 : w3.frozen? ⟨w.heap.size, 3, none⟩ = false := by simp [World.frozen?, HB3.out]
        go_wp2_with fail
        refine value_end rfl rfl (cells4_at HB3.out _ _ _ _) rfl ?_
        exact pr_some (HV.out.trans (by rw [HO.out]; rfl)) (grown4 BA.out (G1.out.trans G3.out) _ _ _ _) rfl (rd4 HG.out R3.out _ _ _ _)
    rw [if_neg c5] at hV
    have b5 : (x.toList == [102]) = false := str_bne (l := [102]) c5
    by_cases c6 : x = ⟨#[100]⟩
    · rw [if_pos c6] at hV
      subst c6
      have HV := Lib.hid hV
      clear hV b0 b1 b2 b3 b4 b5
      go_enter Tryd.func60, Tryd.ntmps60
      go_wp2_with fail
      refine (HT.out).mono ?_
      rintro e w1 ⟨rfl, r1, g1⟩
      have hN := rdNumber_c r1 8 (by omega) 8 rfl
      have G1 := Lib.hid g1
      clear r1 g1
      cases ho : numP 8 r with
      | none =>
        have HN := Lib.hid (pr_no hN ho)
        have HO := Lib.hid ho
        clear hN ho
        go_wp2_with fail
        refine (HN.out).mono ?_
        rintro e w2 ⟨rfl, g2⟩
        go_wp2_with fail
        exact ⟨rfl, pr_none (HV.out.trans (by rw [HO.out]; rfl)) ((grownBy_below BA.out _).trans (G1.out.trans g2)) rfl⟩
      | some q =>
        obtain ⟨n, r'⟩ := q
        have HN := Lib.hid (pr_yes hN ho)
        have hn := numP_lt ho
        have HO := Lib.hid ho
        clear hN ho hn
        go_wp2_with fail
        refine (HN.out).mono ?_
        rintro e w2 ⟨rfl, r2, g2⟩
        have hb := HNW.out _ (G1.out.trans g2)
        have R2 := Lib.hid r2
        have G2 := Lib.hid g2
        have HB := Lib.hid hb
        clear r2 g2 hb
        go_wp2_with fail
        refine (canon_c n).mono ?_
        rintro e w3 ⟨rfl, rfl⟩
        have q0 : w2.cell? ⟨w.heap.size, 0, none⟩ = some (.int .i64 0) := by simp [World.cell?, HB.out]
        have q1 : w2.cell? ⟨w.heap.size, 1, none⟩ = some (.int .i64 0) := by simp [World.cell?, HB.out]
        have q2 : w2.cell? ⟨w.heap.size, 2, none⟩ = some (.string ByteArray.empty) := by simp [World.cell?, HB.out]
        have q3 : w2.cell? ⟨w.heap.size, 3, none⟩ = some (.float .f64 0) := by simp [World.cell?, HB.out]
        have f0 : w2.frozen? ⟨w.heap.size, 0, none⟩ = false := by simp [World.frozen?, HB.out]
        have f1 : w2.frozen? ⟨w.heap.size, 1, none⟩ = false := by simp [World.frozen?, HB.out]
        have f2 : w2.frozen? ⟨w.heap.size, 2, none⟩ = false := by simp [World.frozen?, HB.out]
        have f3 : w2.frozen? ⟨w.heap.size, 3, none⟩ = false := by simp [World.frozen?, HB.out]
        go_wp2_with fail
        refine value_end rfl rfl (cells4_at HB.out _ _ _ _) rfl ?_
        exact pr_some (HV.out.trans (by rw [HO.out]; rfl)) (grown4 BA.out (G1.out.trans G2.out) _ _ _ _) rfl (rd4 HG.out R2.out _ _ _ _)
    rw [if_neg c6] at hV
    have b6 : (x.toList == [100]) = false := str_bne (l := [100]) c6
    by_cases c7 : x = ⟨#[83]⟩
    · rw [if_pos c7] at hV
      subst c7
      have HV := Lib.hid hV
      clear hV b0 b1 b2 b3 b4 b5 b6
      go_enter Tryd.func60, Tryd.ntmps60
      go_wp2_with fail
      refine (HT.out).mono ?_
      rintro e w1 ⟨rfl, r1, g1⟩
      have hN := rdLong_c r1 hr
      have G1 := Lib.hid g1
      clear r1 g1
      cases ho : longP r with
      | none =>
        have HN := Lib.hid (pr_no hN ho)
        have HO := Lib.hid ho
        clear hN ho
        go_wp2_with fail
        refine (HN.out).mono ?_
        rintro e w2 ⟨rfl, g2⟩
        go_wp2_with fail
        exact ⟨rfl, pr_none (HV.out.trans (by rw [HO.out]; rfl)) ((grownBy_below BA.out _).trans (G1.out.trans g2)) rfl⟩
      | some q =>
        obtain ⟨n, r'⟩ := q
        have HN := Lib.hid (pr_yes hN ho)
        have HO := Lib.hid ho
        clear hN ho
        go_wp2_with fail
        refine (HN.out).mono ?_
        rintro e w2 ⟨rfl, r2, g2⟩
        have hb := HNW.out _ (G1.out.trans g2)
        have R2 := Lib.hid r2
        have G2 := Lib.hid g2
        have HB := Lib.hid hb
        clear r2 g2 hb
        have q0 : w2.cell? ⟨w.heap.size, 0, none⟩ = some (.int .i64 0) := by simp [World.cell?, HB.out]
        have q1 : w2.cell? ⟨w.heap.size, 1, none⟩ = some (.int .i64 0) := by simp [World.cell?, HB.out]
        have q2 : w2.cell? ⟨w.heap.size, 2, none⟩ = some (.string ByteArray.empty) := by simp [World.cell?, HB.out]
        have q3 : w2.cell? ⟨w.heap.size, 3, none⟩ = some (.float .f64 0) := by simp [World.cell?, HB.out]
        have f0 : w2.frozen? ⟨w.heap.size, 0, none⟩ = false := by simp [World.frozen?, HB.out]
        have f1 : w2.frozen? ⟨w.heap.size, 1, none⟩ = false := by simp [World.frozen?, HB.out]
        have f2 : w2.frozen? ⟨w.heap.size, 2, none⟩ = false := by simp [World.frozen?, HB.out]
        have f3 : w2.frozen? ⟨w.heap.size, 3, none⟩ = false := by simp [World.frozen?, HB.out]
        go_wp2_with fail
        refine value_end rfl rfl (cells4_at HB.out _ _ _ _) rfl ?_
        exact pr_some (HV.out.trans (by rw [HO.out]; rfl)) (grown4 BA.out (G1.out.trans G2.out) _ _ _ _) rfl (rd4 HG.out R2.out _ _ _ _)
    rw [if_neg c7] at hV
    have b7 : (x.toList == [83]) = false := str_bne (l := [83]) c7
    have HV := Lib.hid hV
    clear hV c0 c1 c2 c3 c4 c5 c6 c7
    go_enter Tryd.func60, Tryd.ntmps60
    go_wp2_with fail
    refine (HT.out).mono ?_
    rintro e w1 ⟨rfl, r1, g1⟩
    go_wp2_with fail
    exact ⟨rfl, pr_none HV.out ((grownBy_below BA.out _).trans g1) rfl⟩
end Go.Proofs.YteigbejidfkhpaaDoor

/- Stable sorting of properties by their names: the comparison; exchanges of ranges. -/
namespace Go.Proofs.YteigbejidfkhpaaDoor
open Go Go.Proofs Go.RowKit Go.Lib Go.Sort Go.Shelf
set_option linter.unusedSimpArgs false
set_option linter.unusedVariables false

instance : Inhabited Prp := ⟨⟨ByteArray.empty, 0, 0, ByteArray.empty, 0⟩⟩
def cfP (x y : Prp) : Int := Lib.compareBytes x.nm.data.toList y.nm.data.toList

set_option maxRecDepth 100000 in
theorem cmpP_c {w : World} (x y : Prp) : Calls Tryd.prog 62 #[.agg #[.string x.nm, .int .i64 x.k, .int .i64 x.n, .string x.t, .float .f64 x.r], .agg #[.string y.nm, .int .i64 y.k, .int .i64 y.n, .string y.t, .float .f64 y.r]] w fun e w' => e = .returned (.int .i64 (cfP x y)) ∧ ∃ q os', w' = grow (w.drewN q) os' := by
  go_enter Tryd.func62, Tryd.ntmps62
  go_wp2_with fail
  refine (Tryd.strings_Compare x.nm y.nm _).mono ?_
  rintro e w' ⟨rfl, rfl⟩
  go_wp2_with fail
  go_ret
  refine ⟨rfl, 0, #[.cells #[.string x.nm, .int .i64 x.k, .int .i64 x.n, .string x.t, .float .f64 x.r] 48] ++ #[.cells #[.string y.nm, .int .i64 y.k, .int .i64 y.n, .string y.t, .float .f64 y.r] 48], ?_⟩
  rw [alloc_eq_grow, alloc_eq_grow, grow_grow]
  rfl
theorem cmpLays (k blk off size : Nat) (w : World) : CmpLays Tryd.prog 62 #[] Prp.cells k cfP blk off size w := fun m os dk _ x y => cmpP_c x y

/-- Some permutation of what the row held. -/
def SWP (k : Nat) (w0 : World) (blk off : Nat) (d : Array Prp) (W : World) : Prop := ∃ dk : Array Prp, dk.size = d.size ∧ PermIn 0 d.size d dk ∧ SWK Prp.cells k w0 blk off dk W
theorem SWP.refl {k : Nat} {w0 W : World} {blk off : Nat} {d : Array Prp} (h : SWK Prp.cells k w0 blk off d W) : SWP k w0 blk off d W := ⟨d, rfl, permIn_refl _ _ _, h⟩
theorem SWP.of {k : Nat} {w0 W : World} {blk off : Nat} {d d' : Array Prp} (hp : PermIn 0 d.size d d') (h : SWP k w0 blk off d' W) : SWP k w0 blk off d W := by
  obtain ⟨dk, h1, h2, h3⟩ := h
  have hs : d'.size = d.size := hp.1
  exact ⟨dk, by omega, permIn_trans d d' dk 0 d.size hp (by rw [← hs]; exact h2), h3⟩

set_option maxHeartbeats 4000000 in
set_option maxRecDepth 1000000 in
theorem swapRange_c {k : Nat} (aE : ∀ w, (isAgg 48).run Tryd.prog w = .ok true w) (zE : ∀ w, (Go.sizeOf 48).run Tryd.prog w = .ok k w) {w0 w : World} {blk off cap a b n : Nat} {d0 d : Array Prp} {fv : Value} (R : RowK Prp.cells k w0 blk off d0) (hs : d0.size = d.size) (S : SWK Prp.cells k w0 blk off d w) (ha : a + n ≤ d.size) (hb : b + n ≤ d.size) (hsz : d.size < 4611686018427387904) :
    Calls Tryd.prog 96 #[.slice (some ⟨blk, off, none⟩) d.size cap, .int .i64 a, .int .i64 b, .int .i64 n, fv] w fun e w' => e = .returned (.tuple #[]) ∧ SWP k w0 blk off d w' := by
  have mixed : Tryd.prog.follows .mixedOrders = true := by kernel_rfl
  have S0 : Aside (SWK Prp.cells k w0 blk off d w) := S
  clear S
  go_enter Tryd.func96, Tryd.ntmps96
  go_wp2
  go_loopg [10] n (fun kx s10 wr => ∃ (i : Nat) (dk : Array Prp), s10 = .int .i64 i ∧ i ≤ n ∧ n - i ≤ kx ∧ dk.size = d.size ∧ Aside (PermIn 0 d.size d dk) ∧ Aside (SWK Prp.cells k w0 blk off dk wr))
  case atStart => exact ⟨0, d, rfl, Nat.zero_le _, Nat.le_refl _, rfl, permIn_refl _ _ _, S0⟩
  case round =>
    clear S0
    obtain ⟨i, dk, rfl, hi, hkx, hds, HP, S1⟩ := hrel
    by_cases hlt : i < n
    · have hltz : (i : Int) < (n : Int) := by omega
      go_wp2_with fail
      have ea : ((a : Int) + (i : Int)).toNat = a + i := by omega
      have pa : (0 : Int) ≤ (a : Int) + (i : Int) := by omega
      have ba : (a : Int) + (i : Int) < (d.size : Int) := by omega
      have ra : IntKind.i64.wrap ((a : Int) + (i : Int)) = (a : Int) + (i : Int) := by rw [IntKind.wrap_i64]; omega
      have eb : ((b : Int) + (i : Int)).toNat = b + i := by omega
      have pb : (0 : Int) ≤ (b : Int) + (i : Int) := by omega
      have bb : (b : Int) + (i : Int) < (d.size : Int) := by omega
      have rb : IntKind.i64.wrap ((b : Int) + (i : Int)) = (b : Int) + (i : Int) := by rw [IntKind.wrap_i64]; omega
      have S2 : Aside (SWK Prp.cells k w0 blk off (swp dk (a + i) (b + i)) ((wr.drew.setCells blk (off + (a + i) * k) (Prp.cells dk[b + i]!)).setCells blk (off + (b + i) * k) (Prp.cells dk[a + i]!))) := S1.out.swapped R (a + i) (b + i) (by omega) (by omega)
      have l1 := S1.out.ld1 R (by omega) Tryd.prog (a + i) (by omega)
      have l2 := S1.out.ld1 R (by omega) Tryd.prog (b + i) (by omega)
      have s1 := S1.out.st1 R (by omega) Tryd.prog (a + i) (by omega) dk[b + i]!
      have s2 := S1.out.st2 R (by omega) Tryd.prog (a + i) (b + i) (by omega) (by omega) dk[b + i]! dk[a + i]!
      have n1 : (Prp.cells dk[a + i]!).length = k := R.hk _
      have n2 : (Prp.cells dk[b + i]!).length = k := R.hk _
      generalize Prp.cells dk[a + i]! = cI at S2 l1 s2 n1
      generalize Prp.cells dk[b + i]! = cJ at S2 l2 s1 s2 n2
      clear S1
      go_wp2_with fail
      go_big_region_o
      clear l1 l2 s1 s2
      generalize (wr.drew.setCells blk (off + (a + i) * k) cJ).setCells blk (off + (b + i) * k) cI = w2 at S2 ⊢
      go_wp2
      go_roundg (n - (i + 1))
      case measure => omega
      case rel => exact ⟨i + 1, swp dk (a + i) (b + i), by simp, by omega, Nat.le_refl _, by rw [size_swp]; exact hds, permIn_trans d dk _ 0 d.size HP.out (by rw [← hds]; exact swp_permIn dk 0 dk.size (a + i) (b + i) (Nat.zero_le _) (by omega) (Nat.zero_le _) (by omega) (Nat.le_refl _)), S2⟩
    · have hnot : ¬ (i : Int) < (n : Int) := by omega
      go_wp2
      go_end0
      exact ⟨rfl, dk, hds, HP.out, S1.out⟩
end Go.Proofs.YteigbejidfkhpaaDoor

/- Stable sorting of properties by their names: rotations; the merge. -/
namespace Go.Proofs.YteigbejidfkhpaaDoor
open Go Go.Proofs Go.RowKit Go.Lib Go.Sort Go.Shelf
set_option linter.unusedSimpArgs false
set_option linter.unusedVariables false

theorem swapRange_c2 {k : Nat} (aE : ∀ w, (isAgg 48).run Tryd.prog w = .ok true w) (zE : ∀ w, (Go.sizeOf 48).run Tryd.prog w = .ok k w) {w0 w : World} {blk off cap a b n : Nat} {d0 d dk : Array Prp} {fv : Value} {ai bi ni : Int} (hai : ai = a) (hbi : bi = b) (hni : ni = n) (R : RowK Prp.cells k w0 blk off d0) (hs : d0.size = d.size) (hd : dk.size = d.size) (HP : PermIn 0 d.size d dk) (S : SWK Prp.cells k w0 blk off dk w) (ha : a + n ≤ d.size) (hb : b + n ≤ d.size) (hsz : d.size < 4611686018427387904) :
    Calls Tryd.prog 96 #[.slice (some ⟨blk, off, none⟩) d.size cap, .int .i64 ai, .int .i64 bi, .int .i64 ni, fv] w fun e w' => e = .returned (.tuple #[]) ∧ SWP k w0 blk off d w' := by
  subst hai hbi hni
  have h := swapRange_c (cap := cap) (fv := fv) aE zE R (hs.trans hd.symm) S (by omega) (by omega) (by omega) (a := a) (b := b) (n := n)
  rw [hd] at h
  exact h.mono fun e w' ⟨h1, h2⟩ => ⟨h1, h2.of HP⟩

set_option maxHeartbeats 4000000 in
set_option maxRecDepth 1000000 in
theorem rotate_c {k : Nat} (aE : ∀ w, (isAgg 48).run Tryd.prog w = .ok true w) (zE : ∀ w, (Go.sizeOf 48).run Tryd.prog w = .ok k w) {w0 w : World} {blk off cap a m b : Nat} {d0 d : Array Prp} {fv : Value} {ai mi bi : Int} (hai : ai = a) (hmi : mi = m) (hbi : bi = b) (R : RowK Prp.cells k w0 blk off d0) (hs : d0.size = d.size) (S : SWP k w0 blk off d w) (ham : a < m) (hmb : m < b) (hb : b ≤ d.size) (hsz : d.size < 4611686018427387904) :
    Calls Tryd.prog 92 #[.slice (some ⟨blk, off, none⟩) d.size cap, .int .i64 ai, .int .i64 mi, .int .i64 bi, fv] w fun e w' => e = .returned (.tuple #[]) ∧ SWP k w0 blk off d w' := by
  subst hai hmi hbi
  have S0 : Aside (SWP k w0 blk off d w) := S
  have hmz : (m : Int) ≤ 4611686018427387904 := by omega
  have hbz : (b : Int) ≤ 4611686018427387904 := by omega
  have ham1 : (a : Int) < m := by omega
  have hmb1 : (m : Int) < b := by omega
  clear S
  go_enter Tryd.func92, Tryd.ntmps92
  go_wp2
  go_loopg [10, 11] (b - a) (fun kx s10 s11 wr => ∃ (i j : Nat), s10 = .int .i64 i ∧ s11 = .int .i64 j ∧ 1 ≤ i ∧ a + i ≤ m ∧ 1 ≤ j ∧ m + j ≤ b ∧ i + j ≤ kx ∧ Aside (SWP k w0 blk off d wr))
  case atStart => exact ⟨m - a, b - m, by congr 1; omega, by congr 1; omega, by omega, by omega, by omega, by omega, by omega, S0⟩
  case round =>
    clear S0
    obtain ⟨i, j, rfl, rfl, hi1, hi2, hj1, hj2, hkx, S1⟩ := hrel
    by_cases heq : i = j
    · subst heq
      go_wp2_with fail
      obtain ⟨dk, hd, HP, S2⟩ := S1.out
      refine (swapRange_c2 (a := m - i) (b := m) (n := i) aE zE (by omega) rfl rfl R hs hd HP S2 (by omega) (by omega) hsz).mono ?_
      rintro e w' ⟨rfl, S3⟩
      have S3' : Aside (SWP k w0 blk off d w') := S3
      clear S3 S2 HP hd
      go_wp2_with fail
      go_end0
      exact ⟨rfl, S3'.out⟩
    · have hne : ((i : Int) == (j : Int)) = false := beq_eq_false_iff_ne.2 (by omega)
      have hne2 : ((i : Int) != (j : Int)) = true := by simp; omega
      have hne3 : (i == j) = false := beq_eq_false_iff_ne.2 heq
      have hne4 : (i != j) = true := by simp; omega
      by_cases hlt : j < i
      · have hltz : (j : Int) < (i : Int) := by omega
        clear heq
        go_wp2_with fail
        obtain ⟨dk, hd, HP, S2⟩ := S1.out
        refine (swapRange_c2 (a := m - i) (b := m) (n := j) aE zE (by omega) rfl rfl R hs hd HP S2 (by omega) (by omega) hsz).mono ?_
        rintro e w' ⟨rfl, S3⟩
        have S3' : Aside (SWP k w0 blk off d w') := S3
        clear S3 S2 HP hd
        go_wp2_with fail
        go_roundg (i - j + j)
        case measure => omega
        case rel => exact ⟨i - j, j, by congr 1; omega, rfl, by omega, by omega, by omega, by omega, by omega, S3'⟩
      · have hltz : ¬ (j : Int) < (i : Int) := by omega
        have hlt2 : (i : Int) < j := by omega
        clear heq
        go_wp2_with fail
        obtain ⟨dk, hd, HP, S2⟩ := S1.out
        refine (swapRange_c2 (a := m - i) (b := m + j - i) (n := i) aE zE (by omega) (by omega) rfl R hs hd HP S2 (by omega) (by omega) hsz).mono ?_
        rintro e w' ⟨rfl, S3⟩
        have S3' : Aside (SWP k w0 blk off d w') := S3
        clear S3 S2 HP hd
        go_wp2_with fail
        go_roundg (i + (j - i))
        case measure => omega
        case rel => exact ⟨i, j - i, rfl, by congr 1; omega, by omega, by omega, by omega, by omega, by omega, S3'⟩

set_option maxHeartbeats 8000000 in
set_option maxRecDepth 1000000 in
theorem symMerge_first {k : Nat} (aE : ∀ w, (isAgg 48).run Tryd.prog w = .ok true w) (zE : ∀ w, (Go.sizeOf 48).run Tryd.prog w = .ok k w) {w0 w : World} {blk off cap a m b : Nat} {d0 d : Array Prp} (R : RowK Prp.cells k w0 blk off d0) (hs : d0.size = d.size) (S : SWP k w0 blk off d w) (ham : a < m) (hmb : m < b) (hb : b ≤ d.size) (hsz : d.size < 4611686018427387904) (h1 : m = a + 1) :
    Calls Tryd.prog 85 #[.slice (some ⟨blk, off, none⟩) d.size cap, .int .i64 a, .int .i64 m, .int .i64 b, .func (.func 62) #[] #[]] w fun e w' => e = .returned (.tuple #[]) ∧ SWP k w0 blk off d w' := by
  have mixed : Tryd.prog.follows .mixedOrders = true := by kernel_rfl
  have S0 : Aside (SWP k w0 blk off d w) := S
  have hmz : (m : Int) ≤ 4611686018427387904 := by omega
  have hbz : (b : Int) ≤ 4611686018427387904 := by omega
  have ham1 : (a : Int) < m := by omega
  have hmb1 : (m : Int) < b := by omega
  clear S
  have hone : ((m : Int) - a == 1) = true := beq_iff_eq.2 (by omega)
  have h1p : m ≤ a + 1 := by omega
  clear h1
  go_enter Tryd.func85, Tryd.ntmps85
  go_wp2_with fail
  go_loopg [10, 11] (b - a) (fun kx s10 s11 wr => ∃ (i j : Nat), s10 = .int .i64 i ∧ s11 = .int .i64 j ∧ m ≤ i ∧ i ≤ j ∧ j ≤ b ∧ j - i ≤ kx ∧ Aside (SWP k w0 blk off d wr))
  case atStart => exact ⟨m, b, rfl, rfl, Nat.le_refl _, by omega, Nat.le_refl _, by omega, S0⟩
  case round =>
    clear S0
    obtain ⟨i, j, rfl, rfl, hi1, hi2, hj2, hkx, S0⟩ := hrel
    obtain ⟨dk, hds, HP', S1'⟩ := S0.out
    have HP : Aside (PermIn 0 d.size d dk) := HP'
    have S1 : Aside (SWK Prp.cells k w0 blk off dk wr) := S1'
    clear HP' S1' S0
    by_cases hlt : i < j
    · have hltz : (i : Int) < (j : Int) := by omega
      have hiz : (i : Int) ≤ 4611686018427387904 := by omega
      have hjz : (j : Int) ≤ 4611686018427387904 := by omega
      go_wp2_with fail
      obtain ⟨h, hh⟩ : ∃ h : Nat, h = (i + j) / 2 := ⟨_, rfl⟩
      rw [show ((i : Int) + (j : Int)) / 2 = (h : Int) by omega]
      have hh1 : i ≤ h := by omega
      have hh2 : h < j := by omega
      clear hh
      have ei : ((h : Int)).toNat = h := by omega
      have pi : (0 : Int) ≤ (h : Int) := by omega
      have bi : (h : Int) < (d.size : Int) := by omega
      have ri : IntKind.i64.wrap ((h : Int)) = (h : Int) := by rw [IntKind.wrap_i64]; omega
      have ej : ((a : Int)).toNat = a := by omega
      have pj : (0 : Int) ≤ (a : Int) := by omega
      have bj : (a : Int) < (d.size : Int) := by omega
      have rj : IntKind.i64.wrap ((a : Int)) = (a : Int) := by rw [IntKind.wrap_i64]; omega
      obtain ⟨x, hx⟩ : ∃ x, x = dk[h]! := ⟨_, rfl⟩
      obtain ⟨y, hy⟩ : ∃ x, x = dk[a]! := ⟨_, rfl⟩
      have l1 := S1.out.ld R (by omega) Tryd.prog (h) (by omega)
      have l2 := S1.out.ld R (by omega) Tryd.prog (a) (by omega)
      rw [← hx] at l1
      rw [← hy] at l2
      have hc := S1.out.cmp (cmpLays k blk off d.size w0) hds x y
      clear hx hy
      by_cases hv : cfP x y < 0
      · have hd : decide (cfP x y < 0) = true := decide_eq_true hv
        go_wp2_with fail
        go_quiet_grown (first | (go_at_call 62; refine Calls.grown_of (hc _ _)))
        have S2 : Aside (SWK Prp.cells k w0 blk off dk (grow (wr.drewN nq) osq)) := S1.out.grown nq osq
        clear l1 l2 hc S1
        generalize grow (wr.drewN nq) osq = w2 at S2 ⊢
        clear nq osq
        go_wp2
        go_roundg (j - (h + 1))
        case measure => omega
        case rel => exact ⟨h + 1, j, by go_num, rfl, by omega, by omega, hj2, Nat.le_refl _, ⟨dk, hds, HP.out, S2.out⟩⟩
      · have hd : decide (cfP x y < 0) = false := decide_eq_false hv
        go_wp2_with fail
        go_quiet_grown (first | (go_at_call 62; refine Calls.grown_of (hc _ _)))
        have S2 : Aside (SWK Prp.cells k w0 blk off dk (grow (wr.drewN nq) osq)) := S1.out.grown nq osq
        clear l1 l2 hc S1
        generalize grow (wr.drewN nq) osq = w2 at S2 ⊢
        clear nq osq
        go_wp2
        go_roundg (h - i)
        case measure => omega
        case rel => exact ⟨i, h, rfl, rfl, hi1, by omega, by omega, Nat.le_refl _, ⟨dk, hds, HP.out, S2.out⟩⟩
    · have hltz : ¬ (i : Int) < (j : Int) := by omega
      have hiz : (i : Int) ≤ 4611686018427387904 := by omega
      have hi0 : (1 : Int) ≤ i := by omega
      go_wp2_with fail
      go_loopg [13] (b - a) (fun kx s13 wr => ∃ (q : Nat) (dk : Array Prp), s13 = .int .i64 q ∧ a ≤ q ∧ q ≤ i - 1 ∧ i - q ≤ kx + 1 ∧ dk.size = d.size ∧ Aside (PermIn 0 d.size d dk) ∧ Aside (SWK Prp.cells k w0 blk off dk wr))
      case atStart => exact ⟨a, dk, rfl, Nat.le_refl _, by omega, by omega, hds, HP, S1⟩
      case round =>
        clear HP S1 hds dk
        obtain ⟨q, dk, rfl, hq1, hq2, hkx2, hds, HP, S1⟩ := hrel
        by_cases hlt2 : q < i - 1
        · have hltz2 : (q : Int) < (i : Int) - 1 := by omega
          have hltz3 : (q : Int) + 1 < (i : Int) := by omega
          have ei : ((q : Int)).toNat = q := by omega
          have pi : (0 : Int) ≤ (q : Int) := by omega
          have bi : (q : Int) < (d.size : Int) := by omega
          have ri : IntKind.i64.wrap ((q : Int)) = (q : Int) := by rw [IntKind.wrap_i64]; omega
          have ej : ((q : Int) + 1).toNat = q + 1 := by omega
          have pj : (0 : Int) ≤ (q : Int) + 1 := by omega
          have bj : (q : Int) + 1 < (d.size : Int) := by omega
          have rj : IntKind.i64.wrap ((q : Int) + 1) = (q : Int) + 1 := by rw [IntKind.wrap_i64]; omega
          have S2 : Aside (SWK Prp.cells k w0 blk off (swp dk (q) (q + 1)) ((wr.drew.setCells blk (off + (q) * k) (Prp.cells dk[q + 1]!)).setCells blk (off + (q + 1) * k) (Prp.cells dk[q]!))) := S1.out.swapped R (q) (q + 1) (by omega) (by omega)
          have l1 := S1.out.ld1 R (by omega) Tryd.prog (q) (by omega)
          have l2 := S1.out.ld1 R (by omega) Tryd.prog (q + 1) (by omega)
          have s1 := S1.out.st1 R (by omega) Tryd.prog (q) (by omega) dk[q + 1]!
          have s2 := S1.out.st2 R (by omega) Tryd.prog (q) (q + 1) (by omega) (by omega) dk[q + 1]! dk[q]!
          have n1 : (Prp.cells dk[q]!).length = k := R.hk _
          have n2 : (Prp.cells dk[q + 1]!).length = k := R.hk _
          generalize Prp.cells dk[q]! = cI at S2 l1 s2 n1
          generalize Prp.cells dk[q + 1]! = cJ at S2 l2 s1 s2 n2
          clear S1
          go_wp2_with fail
          go_big_region_o
          clear l1 l2 s1 s2
          generalize (wr.drew.setCells blk (off + (q) * k) cJ).setCells blk (off + (q + 1) * k) cI = w2 at S2 ⊢
          go_wp2
          go_roundg (i - (q + 1) - 1)
          case measure => omega
          case rel => exact ⟨q + 1, swp dk q (q + 1), by go_num, by omega, by omega, by omega, by rw [size_swp]; exact hds, permIn_trans d dk _ 0 d.size HP.out (by rw [← hds]; exact swp_permIn dk 0 dk.size (q) (q + 1) (Nat.zero_le _) (by omega) (Nat.zero_le _) (by omega) (Nat.le_refl _)), S2⟩
        · have hltz2 : ¬ (q : Int) < (i : Int) - 1 := by omega
          have hltz3 : ¬ (q : Int) + 1 < (i : Int) := by omega
          go_wp2
          first | go_end0 | refine bodyPost_ret (results_none rfl _ _ _) rfl ?_
          exact ⟨rfl, dk, hds, HP.out, S1.out⟩
end Go.Proofs.YteigbejidfkhpaaDoor

/- Stable sorting of properties by their names: the merge, going on. -/
namespace Go.Proofs.YteigbejidfkhpaaDoor
open Go Go.Proofs Go.RowKit Go.Lib Go.Sort Go.Shelf
set_option linter.unusedSimpArgs false
set_option linter.unusedVariables false

set_option maxHeartbeats 8000000 in
set_option maxRecDepth 1000000 in
theorem symMerge_last {k : Nat} (aE : ∀ w, (isAgg 48).run Tryd.prog w = .ok true w) (zE : ∀ w, (Go.sizeOf 48).run Tryd.prog w = .ok k w) {w0 w : World} {blk off cap a m b : Nat} {d0 d : Array Prp} (R : RowK Prp.cells k w0 blk off d0) (hs : d0.size = d.size) (S : SWP k w0 blk off d w) (ham : a < m) (hmb : m < b) (hb : b ≤ d.size) (hsz : d.size < 4611686018427387904) (h0 : ¬ m = a + 1) (h1 : b = m + 1) :
    Calls Tryd.prog 85 #[.slice (some ⟨blk, off, none⟩) d.size cap, .int .i64 a, .int .i64 m, .int .i64 b, .func (.func 62) #[] #[]] w fun e w' => e = .returned (.tuple #[]) ∧ SWP k w0 blk off d w' := by
  have mixed : Tryd.prog.follows .mixedOrders = true := by kernel_rfl
  have S0 : Aside (SWP k w0 blk off d w) := S
  have hmz : (m : Int) ≤ 4611686018427387904 := by omega
  have hbz : (b : Int) ≤ 4611686018427387904 := by omega
  have ham1 : (a : Int) < m := by omega
  have hmb1 : (m : Int) < b := by omega
  clear S
  have hnone : ((m : Int) - a == 1) = false := beq_eq_false_iff_ne.2 (by omega)
  have hone : ((b : Int) - m == 1) = true := beq_iff_eq.2 (by omega)
  have h1p : b ≤ m + 1 := by omega
  clear h1 h0
  go_enter Tryd.func85, Tryd.ntmps85
  go_wp2_with fail
  go_loopg [14, 15] (b - a) (fun kx s10 s11 wr => ∃ (i j : Nat), s10 = .int .i64 i ∧ s11 = .int .i64 j ∧ a ≤ i ∧ i ≤ j ∧ j ≤ m ∧ j - i ≤ kx ∧ Aside (SWP k w0 blk off d wr))
  case atStart => exact ⟨a, m, rfl, rfl, Nat.le_refl _, by omega, Nat.le_refl _, by omega, S0⟩
  case round =>
    clear S0
    obtain ⟨i, j, rfl, rfl, hi1, hi2, hj2, hkx, S0⟩ := hrel
    obtain ⟨dk, hds, HP', S1'⟩ := S0.out
    have HP : Aside (PermIn 0 d.size d dk) := HP'
    have S1 : Aside (SWK Prp.cells k w0 blk off dk wr) := S1'
    clear HP' S1' S0
    by_cases hlt : i < j
    · have hltz : (i : Int) < (j : Int) := by omega
      have hiz : (i : Int) ≤ 4611686018427387904 := by omega
      have hjz : (j : Int) ≤ 4611686018427387904 := by omega
      go_wp2_with fail
      obtain ⟨h, hh⟩ : ∃ h : Nat, h = (i + j) / 2 := ⟨_, rfl⟩
      rw [show ((i : Int) + (j : Int)) / 2 = (h : Int) by omega]
      have hh1 : i ≤ h := by omega
      have hh2 : h < j := by omega
      clear hh
      have ei : ((m : Int)).toNat = m := by omega
      have pi : (0 : Int) ≤ (m : Int) := by omega
      have bi : (m : Int) < (d.size : Int) := by omega
      have ri : IntKind.i64.wrap ((m : Int)) = (m : Int) := by rw [IntKind.wrap_i64]; omega
      have ej : ((h : Int)).toNat = h := by omega
      have pj : (0 : Int) ≤ (h : Int) := by omega
      have bj : (h : Int) < (d.size : Int) := by omega
      have rj : IntKind.i64.wrap ((h : Int)) = (h : Int) := by rw [IntKind.wrap_i64]; omega
      obtain ⟨x, hx⟩ : ∃ x, x = dk[m]! := ⟨_, rfl⟩
      obtain ⟨y, hy⟩ : ∃ x, x = dk[h]! := ⟨_, rfl⟩
      have l1 := S1.out.ld R (by omega) Tryd.prog (m) (by omega)
      have l2 := S1.out.ld R (by omega) Tryd.prog (h) (by omega)
      rw [← hx] at l1
      rw [← hy] at l2
      have hc := S1.out.cmp (cmpLays k blk off d.size w0) hds x y
      clear hx hy
      by_cases hv : cfP x y < 0
      · have hd : decide (cfP x y < 0) = true := decide_eq_true hv
        go_wp2_with fail
        go_quiet_grown (first | (go_at_call 62; refine Calls.grown_of (hc _ _)))
        have S2 : Aside (SWK Prp.cells k w0 blk off dk (grow (wr.drewN nq) osq)) := S1.out.grown nq osq
        clear l1 l2 hc S1
        generalize grow (wr.drewN nq) osq = w2 at S2 ⊢
        clear nq osq
        go_wp2
        go_roundg (h - i)
        case measure => omega
        case rel => exact ⟨i, h, rfl, rfl, hi1, by omega, by omega, Nat.le_refl _, ⟨dk, hds, HP.out, S2.out⟩⟩
      · have hd : decide (cfP x y < 0) = false := decide_eq_false hv
        go_wp2_with fail
        go_quiet_grown (first | (go_at_call 62; refine Calls.grown_of (hc _ _)))
        have S2 : Aside (SWK Prp.cells k w0 blk off dk (grow (wr.drewN nq) osq)) := S1.out.grown nq osq
        clear l1 l2 hc S1
        generalize grow (wr.drewN nq) osq = w2 at S2 ⊢
        clear nq osq
        go_wp2
        go_roundg (j - (h + 1))
        case measure => omega
        case rel => exact ⟨h + 1, j, by go_num, rfl, by omega, by omega, hj2, Nat.le_refl _, ⟨dk, hds, HP.out, S2.out⟩⟩
    · have hltz : ¬ (i : Int) < (j : Int) := by omega
      have hiz : (i : Int) ≤ 4611686018427387904 := by omega
      have hi0 : (0 : Int) ≤ i := by omega
      go_wp2_with fail
      go_loopg [17] (b - a) (fun kx s13 wr => ∃ (q : Nat) (dk : Array Prp), s13 = .int .i64 q ∧ i ≤ q ∧ q ≤ m ∧ q - i ≤ kx ∧ dk.size = d.size ∧ Aside (PermIn 0 d.size d dk) ∧ Aside (SWK Prp.cells k w0 blk off dk wr))
      case atStart => exact ⟨m, dk, rfl, by omega, Nat.le_refl _, by omega, hds, HP, S1⟩
      case round =>
        clear HP S1 hds dk
        obtain ⟨q, dk, rfl, hq1, hq2, hkx2, hds, HP, S1⟩ := hrel
        by_cases hlt2 : i < q
        · have hltz2 : (i : Int) < (q : Int) := by omega
          obtain ⟨p, rfl⟩ : ∃ p, q = p + 1 := ⟨q - 1, by omega⟩
          have hltz3 : (i : Int) < (p : Int) + 1 := by omega
          have hwp : IntKind.i64.wrap (p : Int) = (p : Int) := by rw [IntKind.wrap_i64]; omega
          have ei : ((p : Int) + 1).toNat = p + 1 := by omega
          have pi : (0 : Int) ≤ (p : Int) + 1 := by omega
          have bi : (p : Int) + 1 < (d.size : Int) := by omega
          have ri : IntKind.i64.wrap ((p : Int) + 1) = (p : Int) + 1 := by rw [IntKind.wrap_i64]; omega
          have ej : ((p : Int)).toNat = p := by omega
          have pj : (0 : Int) ≤ (p : Int) := by omega
          have bj : (p : Int) < (d.size : Int) := by omega
          have rj : IntKind.i64.wrap ((p : Int)) = (p : Int) := by rw [IntKind.wrap_i64]; omega
          have S2 : Aside (SWK Prp.cells k w0 blk off (swp dk (p + 1) (p)) ((wr.drew.setCells blk (off + (p + 1) * k) (Prp.cells dk[p]!)).setCells blk (off + (p) * k) (Prp.cells dk[p + 1]!))) := S1.out.swapped R (p + 1) (p) (by omega) (by omega)
          have l1 := S1.out.ld1 R (by omega) Tryd.prog (p + 1) (by omega)
          have l2 := S1.out.ld1 R (by omega) Tryd.prog (p) (by omega)
          have s1 := S1.out.st1 R (by omega) Tryd.prog (p + 1) (by omega) dk[p]!
          have s2 := S1.out.st2 R (by omega) Tryd.prog (p + 1) (p) (by omega) (by omega) dk[p]! dk[p + 1]!
          have n1 : (Prp.cells dk[p + 1]!).length = k := R.hk _
          have n2 : (Prp.cells dk[p]!).length = k := R.hk _
          generalize Prp.cells dk[p + 1]! = cI at S2 l1 s2 n1
          generalize Prp.cells dk[p]! = cJ at S2 l2 s1 s2 n2
          clear S1
          go_wp2_with fail
          go_big_region_o
          clear l1 l2 s1 s2
          generalize (wr.drew.setCells blk (off + (p + 1) * k) cJ).setCells blk (off + (p) * k) cI = w2 at S2 ⊢
          go_wp2
          go_roundg (p - i)
          case measure => omega
          case rel => exact ⟨p, swp dk (p + 1) p, by go_num, by omega, by omega, by omega, by rw [size_swp]; exact hds, permIn_trans d dk _ 0 d.size HP.out (by rw [← hds]; exact swp_permIn dk 0 dk.size (p + 1) (p) (Nat.zero_le _) (by omega) (Nat.zero_le _) (by omega) (Nat.le_refl _)), S2⟩
        · have hltz2 : ¬ (i : Int) < (q : Int) := by omega
          go_wp2
          first | go_end0 | refine bodyPost_ret (results_none rfl _ _ _) rfl ?_
          exact ⟨rfl, dk, hds, HP.out, S1.out⟩
end Go.Proofs.YteigbejidfkhpaaDoor

/- Stable sorting of properties by their names: the merge, whole. -/
namespace Go.Proofs.YteigbejidfkhpaaDoor
open Go Go.Proofs Go.RowKit Go.Lib Go.Sort Go.Shelf
set_option linter.unusedSimpArgs false
set_option linter.unusedVariables false

set_option maxHeartbeats 8000000 in
set_option maxRecDepth 1000000 in
theorem symMerge_gen {k : Nat} (aE : ∀ w, (isAgg 48).run Tryd.prog w = .ok true w) (zE : ∀ w, (Go.sizeOf 48).run Tryd.prog w = .ok k w) {w0 w : World} {blk off cap a m b : Nat} {d0 d : Array Prp} (R : RowK Prp.cells k w0 blk off d0) (hs : d0.size = d.size) (S : SWP k w0 blk off d w) (ham : a < m) (hmb : m < b) (hb : b ≤ d.size) (hsz : d.size < 4611686018427387904) (h0 : ¬ m = a + 1) (h1 : ¬ b = m + 1) (ih : ∀ (a' m' b' : Nat) (w' : World), b' - a' < b - a → a' < m' → m' < b' → b' ≤ d.size → SWP k w0 blk off d w' → Calls Tryd.prog 85 #[.slice (some ⟨blk, off, none⟩) d.size cap, .int .i64 a', .int .i64 m', .int .i64 b', .func (.func 62) #[] #[]] w' fun e w'' => e = .returned (.tuple #[]) ∧ SWP k w0 blk off d w'') :
    Calls Tryd.prog 85 #[.slice (some ⟨blk, off, none⟩) d.size cap, .int .i64 a, .int .i64 m, .int .i64 b, .func (.func 62) #[] #[]] w fun e w' => e = .returned (.tuple #[]) ∧ SWP k w0 blk off d w' := by
  have mixed : Tryd.prog.follows .mixedOrders = true := by kernel_rfl
  have S0 : Aside (SWP k w0 blk off d w) := S
  have hmz : (m : Int) ≤ 4611686018427387904 := by omega
  have hbz : (b : Int) ≤ 4611686018427387904 := by omega
  have ham1 : (a : Int) < m := by omega
  have hmb1 : (m : Int) < b := by omega
  clear S
  have hn1 : ((m : Int) - a == 1) = false := beq_eq_false_iff_ne.2 (by omega)
  have hn2 : ((b : Int) - m == 1) = false := beq_eq_false_iff_ne.2 (by omega)
  have IH := Lib.hid ih
  have haz : (0 : Int) ≤ a := by omega
  have h0' : a + 2 ≤ m := by omega
  have h1' : m + 2 ≤ b := by omega
  clear ih h0 h1
  go_enter Tryd.func85, Tryd.ntmps85
  go_upto_region 25 with fail
  obtain ⟨md, hmd⟩ : ∃ h : Nat, h = (a + b) / 2 := ⟨_, rfl⟩
  rw [show ((a : Int) + (b : Int)) / 2 = (md : Int) by omega]
  have hmd1 : 2 * md ≤ a + b := by omega
  have hmd2 : a + b ≤ 2 * md + 1 := by omega
  have hmdz : (md : Int) ≤ 4611686018427387904 := by omega
  have hmd0 : (0 : Int) ≤ md := by omega
  clear hmd
  by_cases hmm : md < m
  · have hmz2 : (md : Int) < m := by omega
    have hstz : (md : Int) + m - b = ((md + m - b : Nat) : Int) := by omega
    go_wp2_with fail
    clear hstz hmz2
    go_loopg [20, 21] (b - a) (fun kx s20 s21 wr => ∃ (s t : Nat), s20 = .int .i64 s ∧ s21 = .int .i64 t ∧ a ≤ s ∧ s ≤ t ∧ t ≤ md ∧ t ≤ m ∧ md + m ≤ b + s ∧ t - s ≤ kx ∧ Aside (SWP k w0 blk off d wr))
    case atStart => exact ⟨md + m - b, md, rfl, rfl, by omega, by omega, by omega, by omega, by omega, by omega, S0⟩
    case round =>
      clear S0
      obtain ⟨i, j, rfl, rfl, hi1, hi2, hj1, hj2, hj3, hkx, S0⟩ := hrel
      by_cases hlt : i < j
      · obtain ⟨dk, hds, HP', S1'⟩ := S0.out
        have HP : Aside (PermIn 0 d.size d dk) := HP'
        have S1 : Aside (SWK Prp.cells k w0 blk off dk wr) := S1'
        clear HP' S1' S0
        have hltz : (i : Int) < (j : Int) := by omega
        have hiz : (i : Int) ≤ 4611686018427387904 := by omega
        have hjz : (j : Int) ≤ 4611686018427387904 := by omega
        go_wp2_with fail
        obtain ⟨h, hh⟩ : ∃ h : Nat, h = (i + j) / 2 := ⟨_, rfl⟩
        rw [show ((i : Int) + (j : Int)) / 2 = (h : Int) by omega]
        have hh1 : i ≤ h := by omega
        have hh2 : h < j := by omega
        clear hh
        obtain ⟨q, hq⟩ : ∃ q : Nat, q = md + m - 1 - h := ⟨_, rfl⟩
        have hqz : (md : Int) + m - 1 - h = (q : Int) := by omega
        have hq1 : q + 1 + h ≤ md + m := by omega
        have hq2 : md + m ≤ q + 1 + h := by omega
        clear hq
        have hqw : IntKind.i64.wrap ((md : Int) + m - 1 - h) = (q : Int) := by rw [IntKind.wrap_i64]; omega
        have ei : ((q : Int)).toNat = q := by omega
        have pi : (0 : Int) ≤ (q : Int) := by omega
        have bi : (q : Int) < (d.size : Int) := by omega
        have ri : IntKind.i64.wrap ((q : Int)) = (q : Int) := by rw [IntKind.wrap_i64]; omega
        have ej : ((h : Int)).toNat = h := by omega
        have pj : (0 : Int) ≤ (h : Int) := by omega
        have bj : (h : Int) < (d.size : Int) := by omega
        have rj : IntKind.i64.wrap ((h : Int)) = (h : Int) := by rw [IntKind.wrap_i64]; omega
        obtain ⟨x, hx⟩ : ∃ x, x = dk[q]! := ⟨_, rfl⟩
        obtain ⟨y, hy⟩ : ∃ x, x = dk[h]! := ⟨_, rfl⟩
        have l1 := S1.out.ld R (by omega) Tryd.prog (q) (by omega)
        have l2 := S1.out.ld R (by omega) Tryd.prog (h) (by omega)
        rw [← hx] at l1
        rw [← hy] at l2
        have hc := S1.out.cmp (cmpLays k blk off d.size w0) hds x y
        clear hx hy
        by_cases hv : cfP x y < 0
        · have hd : decide (cfP x y < 0) = true := decide_eq_true hv
          go_wp2_with fail
          go_quiet_grown (first | (go_at_call 62; refine Calls.grown_of (hc _ _)))
          have S2 : Aside (SWK Prp.cells k w0 blk off dk (grow (wr.drewN nq) osq)) := S1.out.grown nq osq
          clear l1 l2 hc S1
          generalize grow (wr.drewN nq) osq = w2 at S2 ⊢
          clear nq osq
          clear hqz hqw
          go_wp2
          go_roundg (h - i)
          case measure => omega
          case rel => exact ⟨i, h, rfl, rfl, hi1, by omega, by omega, by omega, by omega, Nat.le_refl _, ⟨dk, hds, HP.out, S2.out⟩⟩
        · have hd : decide (cfP x y < 0) = false := decide_eq_false hv
          go_wp2_with fail
          go_quiet_grown (first | (go_at_call 62; refine Calls.grown_of (hc _ _)))
          have S2 : Aside (SWK Prp.cells k w0 blk off dk (grow (wr.drewN nq) osq)) := S1.out.grown nq osq
          clear l1 l2 hc S1
          generalize grow (wr.drewN nq) osq = w2 at S2 ⊢
          clear nq osq
          clear hqz hqw
          go_wp2
          go_roundg (j - (h + 1))
          case measure => omega
          case rel => exact ⟨h + 1, j, by go_num, rfl, by omega, by omega, by omega, by omega, by omega, Nat.le_refl _, ⟨dk, hds, HP.out, S2.out⟩⟩
      · have hltz : ¬ (i : Int) < (j : Int) := by omega
        have hiz : (i : Int) ≤ 4611686018427387904 := by omega
        go_upto_region 39 with fail
        obtain ⟨en, hen⟩ : ∃ q : Nat, q = md + m - i := ⟨_, rfl⟩
        rw [show (md : Int) + m - i = (en : Int) by omega]
        have hen1 : en + i ≤ md + m := by omega
        have hen2 : md + m ≤ en + i := by omega
        clear hen hltz hlt
        go_wp2_with (first
          | (go_at_call 92; refine (rotate_c (a := i) (m := m) (b := en) aE zE rfl rfl rfl R hs S0.out (by omega) (by omega) (by omega) hsz).mono ?_; rintro e w' ⟨rfl, S3⟩; have S0 : Aside (SWP k w0 blk off d w') := S3; clear S3)
          | (go_at_call 85; ((with_reducible refine (IH.out a i md _ ?_ ?_ ?_ ?_ S0.out).mono ?_); (focus omega); (focus omega); (focus omega); (focus omega); rintro e w' ⟨rfl, S3⟩); have S0 : Aside (SWP k w0 blk off d w') := S3; clear S3)
          | (go_at_call 85; ((with_reducible refine (IH.out md en b _ ?_ ?_ ?_ ?_ S0.out).mono ?_); (focus omega); (focus omega); (focus omega); (focus omega); rintro e w' ⟨rfl, S3⟩); have S0 : Aside (SWP k w0 blk off d w') := S3; clear S3))
        all_goals
          first | go_end0 | refine bodyPost_ret (results_none rfl _ _ _) rfl ?_
          exact ⟨rfl, S0.out⟩
  · have hmz2 : ¬ (md : Int) < m := by omega
    go_wp2_with fail
    clear hmz2
    go_loopg [20, 21] (b - a) (fun kx s20 s21 wr => ∃ (s t : Nat), s20 = .int .i64 s ∧ s21 = .int .i64 t ∧ a ≤ s ∧ s ≤ t ∧ t ≤ md ∧ t ≤ m ∧ md + m ≤ b + s ∧ t - s ≤ kx ∧ Aside (SWP k w0 blk off d wr))
    case atStart => exact ⟨a, m, rfl, rfl, by omega, by omega, by omega, by omega, by omega, by omega, S0⟩
    case round =>
      clear S0
      obtain ⟨i, j, rfl, rfl, hi1, hi2, hj1, hj2, hj3, hkx, S0⟩ := hrel
      by_cases hlt : i < j
      · obtain ⟨dk, hds, HP', S1'⟩ := S0.out
        have HP : Aside (PermIn 0 d.size d dk) := HP'
        have S1 : Aside (SWK Prp.cells k w0 blk off dk wr) := S1'
        clear HP' S1' S0
        have hltz : (i : Int) < (j : Int) := by omega
        have hiz : (i : Int) ≤ 4611686018427387904 := by omega
        have hjz : (j : Int) ≤ 4611686018427387904 := by omega
        go_wp2_with fail
        obtain ⟨h, hh⟩ : ∃ h : Nat, h = (i + j) / 2 := ⟨_, rfl⟩
        rw [show ((i : Int) + (j : Int)) / 2 = (h : Int) by omega]
        have hh1 : i ≤ h := by omega
        have hh2 : h < j := by omega
        clear hh
        obtain ⟨q, hq⟩ : ∃ q : Nat, q = md + m - 1 - h := ⟨_, rfl⟩
        have hqz : (md : Int) + m - 1 - h = (q : Int) := by omega
        have hq1 : q + 1 + h ≤ md + m := by omega
        have hq2 : md + m ≤ q + 1 + h := by omega
        clear hq
        have hqw : IntKind.i64.wrap ((md : Int) + m - 1 - h) = (q : Int) := by rw [IntKind.wrap_i64]; omega
        have ei : ((q : Int)).toNat = q := by omega
        have pi : (0 : Int) ≤ (q : Int) := by omega
        have bi : (q : Int) < (d.size : Int) := by omega
        have ri : IntKind.i64.wrap ((q : Int)) = (q : Int) := by rw [IntKind.wrap_i64]; omega
        have ej : ((h : Int)).toNat = h := by omega
        have pj : (0 : Int) ≤ (h : Int) := by omega
        have bj : (h : Int) < (d.size : Int) := by omega
        have rj : IntKind.i64.wrap ((h : Int)) = (h : Int) := by rw [IntKind.wrap_i64]; omega
        obtain ⟨x, hx⟩ : ∃ x, x = dk[q]! := ⟨_, rfl⟩
        obtain ⟨y, hy⟩ : ∃ x, x = dk[h]! := ⟨_, rfl⟩
        have l1 := S1.out.ld R (by omega) Tryd.prog (q) (by omega)
        have l2 := S1.out.ld R (by omega) Tryd.prog (h) (by omega)
        rw [← hx] at l1
        rw [← hy] at l2
        have hc := S1.out.cmp (cmpLays k blk off d.size w0) hds x y
        clear hx hy
        by_cases hv : cfP x y < 0
        · have hd : decide (cfP x y < 0) = true := decide_eq_true hv
          go_wp2_with fail
          go_quiet_grown (first | (go_at_call 62; refine Calls.grown_of (hc _ _)))
          have S2 : Aside (SWK Prp.cells k w0 blk off dk (grow (wr.drewN nq) osq)) := S1.out.grown nq osq
          clear l1 l2 hc S1
          generalize grow (wr.drewN nq) osq = w2 at S2 ⊢
          clear nq osq
          clear hqz hqw
          go_wp2
          go_roundg (h - i)
          case measure => omega
          case rel => exact ⟨i, h, rfl, rfl, hi1, by omega, by omega, by omega, by omega, Nat.le_refl _, ⟨dk, hds, HP.out, S2.out⟩⟩
        · have hd : decide (cfP x y < 0) = false := decide_eq_false hv
          go_wp2_with fail
          go_quiet_grown (first | (go_at_call 62; refine Calls.grown_of (hc _ _)))
          have S2 : Aside (SWK Prp.cells k w0 blk off dk (grow (wr.drewN nq) osq)) := S1.out.grown nq osq
          clear l1 l2 hc S1
          generalize grow (wr.drewN nq) osq = w2 at S2 ⊢
          clear nq osq
          clear hqz hqw
          go_wp2
          go_roundg (j - (h + 1))
          case measure => omega
          case rel => exact ⟨h + 1, j, by go_num, rfl, by omega, by omega, by omega, by omega, by omega, Nat.le_refl _, ⟨dk, hds, HP.out, S2.out⟩⟩
      · have hltz : ¬ (i : Int) < (j : Int) := by omega
        have hiz : (i : Int) ≤ 4611686018427387904 := by omega
        go_upto_region 39 with fail
        obtain ⟨en, hen⟩ : ∃ q : Nat, q = md + m - i := ⟨_, rfl⟩
        rw [show (md : Int) + m - i = (en : Int) by omega]
        have hen1 : en + i ≤ md + m := by omega
        have hen2 : md + m ≤ en + i := by omega
        clear hen hltz hlt
        go_wp2_with (first
          | (go_at_call 92; refine (rotate_c (a := i) (m := m) (b := en) aE zE rfl rfl rfl R hs S0.out (by omega) (by omega) (by omega) hsz).mono ?_; rintro e w' ⟨rfl, S3⟩; have S0 : Aside (SWP k w0 blk off d w') := S3; clear S3)
          | (go_at_call 85; ((with_reducible refine (IH.out a i md _ ?_ ?_ ?_ ?_ S0.out).mono ?_); (focus omega); (focus omega); (focus omega); (focus omega); rintro e w' ⟨rfl, S3⟩); have S0 : Aside (SWP k w0 blk off d w') := S3; clear S3)
          | (go_at_call 85; ((with_reducible refine (IH.out md en b _ ?_ ?_ ?_ ?_ S0.out).mono ?_); (focus omega); (focus omega); (focus omega); (focus omega); rintro e w' ⟨rfl, S3⟩); have S0 : Aside (SWP k w0 blk off d w') := S3; clear S3))
        all_goals
          first | go_end0 | refine bodyPost_ret (results_none rfl _ _ _) rfl ?_
          exact ⟨rfl, S0.out⟩
end Go.Proofs.YteigbejidfkhpaaDoor

/- Stable sorting of properties by their names: the order; the whole. -/
namespace Go.Proofs.YteigbejidfkhpaaDoor
open Go Go.Proofs Go.RowKit Go.Lib Go.Sort Go.Shelf
set_option linter.unusedSimpArgs false
set_option linter.unusedVariables false

theorem cmpB_neg : ∀ (x y : List UInt8), Lib.compareBytes x y < 0 ↔ x < y
  | [], [] => by simp [Lib.compareBytes]
  | [], _ :: _ => by simp [Lib.compareBytes]
  | _ :: _, [] => by simp [Lib.compareBytes]
  | a :: l, b :: m => by
    unfold Lib.compareBytes
    rw [List.cons_lt_cons_iff, ← cmpB_neg l m]
    by_cases h1 : a < b
    · simp [h1]
    · rw [if_neg h1]
      by_cases h2 : b < a
      · rw [if_pos h2]
        have : ¬ a = b := fun e => by subst e; exact h1 h2
        simp [h1, this]
      · rw [if_neg h2]
        have h3 : a = b := by
          apply UInt8.toNat_inj.1
          rw [UInt8.lt_iff_toNat_lt] at h1 h2
          omega
        simp [h1, h3]
theorem ltP_iff (x y : Prp) : ltOf cfP x y = true ↔ x.nm.data.toList < y.nm.data.toList := by
  unfold ltOf cfP
  rw [decide_eq_true_eq, cmpB_neg]
theorem ltP_no (x y : Prp) : ltOf cfP x y = false ↔ ¬ x.nm.data.toList < y.nm.data.toList := by
  rw [← ltP_iff, Bool.not_eq_true]
theorem ltP_swo : SWO (ltOf cfP) where
  irrefl x := by rw [ltP_no]; exact List.lt_irrefl _
  trans x y z h1 h2 := by
    rw [ltP_iff] at h1 h2 ⊢
    exact List.lt_trans h1 h2
  ntrans x y z h1 h2 := by
    rw [ltP_no] at h1 h2 ⊢
    rw [List.not_lt] at h1 h2 ⊢
    exact List.le_trans h2 h1

theorem symMerge_c {k : Nat} (aE : ∀ w, (isAgg 48).run Tryd.prog w = .ok true w) (zE : ∀ w, (Go.sizeOf 48).run Tryd.prog w = .ok k w) {w0 : World} {blk off cap : Nat} {d0 d : Array Prp} (R : RowK Prp.cells k w0 blk off d0) (hs : d0.size = d.size) (hsz : d.size < 4611686018427387904) :
    ∀ (N a m b : Nat) (w : World), b - a < N → a < m → m < b → b ≤ d.size → SWP k w0 blk off d w →
      Calls Tryd.prog 85 #[.slice (some ⟨blk, off, none⟩) d.size cap, .int .i64 a, .int .i64 m, .int .i64 b, .func (.func 62) #[] #[]] w fun e w' => e = .returned (.tuple #[]) ∧ SWP k w0 blk off d w'
  | 0, _, _, _, _, h, _, _, _, _ => absurd h (Nat.not_lt_zero _)
  | N + 1, a, m, b, w, h, h1, h2, h3, S => by
    by_cases c1 : m = a + 1
    · exact symMerge_first aE zE R hs S h1 h2 h3 hsz c1
    · by_cases c2 : b = m + 1
      · exact symMerge_last aE zE R hs S h1 h2 h3 hsz c1 c2
      · exact symMerge_gen aE zE R hs S h1 h2 h3 hsz c1 c2 (fun a' m' b' w' g0 g1 g2 g3 S' => symMerge_c aE zE R hs hsz N a' m' b' w' (by omega) g1 g2 g3 S')

def renI : Go.Shelf.Ren := ⟨fun | 20 => 84 | n => n, fun | 0 => 0 | 3 => 3 | 4 => 4 | 22 => 24 | 24 => 48 | 25 => 91 | n => n, fun n => n⟩
theorem laysI : SlLaysF0.n20 Tryd.prog renI := {
  mixed := by kernel_rfl
  f20 := ⟨Tryd.f84.name, by decide, Tryd.func84.trans (congrArg some (by kernel_rfl))⟩
  t0 := Tryd.underlying0
  a0 := Tryd.isAgg0
  z0 := Tryd.sizeOf0
  v0 := Tryd.zeroValue0
  t3 := Tryd.underlying3
  a3 := Tryd.isAgg3
  z3 := Tryd.sizeOf3
  v3 := Tryd.zeroValue3
  t4 := Tryd.underlying4
  a4 := Tryd.isAgg4
  z4 := Tryd.sizeOf4
  v4 := Tryd.zeroValue4
  t22 := Tryd.underlying24
  a22 := Tryd.isAgg24
  z22 := Tryd.sizeOf24
  v22 := Tryd.zeroValue24
  t25 := Tryd.underlying91
  a25 := Tryd.isAgg91
  z25 := Tryd.sizeOf91
  v25 := Tryd.zeroValue91 }

theorem insertion_c {w0 w : World} {blk off cap a b : Nat} {d0 d : Array Prp} {ai bi : Int} (hai : ai = a) (hbi : bi = b) (R : RowK Prp.cells 5 w0 blk off d0) (hs : d0.size = d.size) (S : SWK Prp.cells 5 w0 blk off d w) (hab : a ≤ b) (hb : b ≤ d.size) (hsz : d.size < 4611686018427387904) :
    Calls Tryd.prog 84 #[.slice (some ⟨blk, off, none⟩) d.size cap, .int .i64 ai, .int .i64 bi, .func (.func 62) #[] #[]] w fun e w' => e = .returned (.tuple #[]) ∧ SWK Prp.cells 5 w0 blk off (Sort.insertionSort (ltOf cfP) d a b) w' := by
  subst hai hbi
  have hs' : (Sort.insertionSort (ltOf cfP) d a b).size = d.size := (insertionSort_holds ltP_swo d a b hab hb).1.1
  refine (AnyQ.insertionSortCmpFunc laysI 5 Tryd.isAgg48 Tryd.sizeOf48 Prp.cells R.hk R.h1 cfP 62 #[] blk off cap a b d w (fun args w => enters_of Tryd.func62 (by kernel_rfl) rfl args w) (cmpLays 5 blk off d.size w) (S.holds R.hblk R.hH hs.symm) (S.lt R.hblk) hab hb hsz).mono ?_
  rintro e w' ⟨rfl, n, os, rfl⟩
  exact ⟨rfl, S.on R.hblk n _ os hs'⟩
end Go.Proofs.YteigbejidfkhpaaDoor

/- Stable sorting of properties by their names: the whole. -/
namespace Go.Proofs.YteigbejidfkhpaaDoor
open Go Go.Proofs Go.RowKit Go.Lib Go.Sort Go.Shelf
set_option linter.unusedSimpArgs false
set_option linter.unusedVariables false

/-- What the sort leaves: a permutation; of fewer than 20, what the insertion sort makes. -/
def SoPost (w0 : World) (blk off : Nat) (d : Array Prp) (e : Ending) (w' : World) : Prop :=
  e = .returned (.tuple #[]) ∧ ∃ dk : Array Prp, dk.size = d.size ∧ PermIn 0 d.size d dk ∧ (d.size < 20 → dk = Sort.insertionSort (ltOf cfP) d 0 d.size) ∧ SWK Prp.cells 5 w0 blk off dk w'

theorem ins_swp {w0 W : World} {blk off a b : Nat} {d dk : Array Prp} (hd : dk.size = d.size) (HP : PermIn 0 d.size d dk) (hab : a ≤ b) (hb : b ≤ d.size) (S : SWK Prp.cells 5 w0 blk off (Sort.insertionSort (ltOf cfP) dk a b) W) : SWP 5 w0 blk off d W := by
  have h := (insertionSort_holds ltP_swo dk a b hab (by omega)).1
  have h1 := h.1
  refine ⟨_, by omega, permIn_trans d dk _ 0 d.size HP (permIn_mono dk _ a b 0 d.size (Nat.zero_le _) hb (by omega) h), S⟩

set_option maxHeartbeats 4000000 in
set_option maxRecDepth 1000000 in
theorem stable_small {w : World} {blk off cap : Nat} {d : Array Prp} (R : RowK Prp.cells 5 w blk off d) (hsm : d.size < 20) :
    Calls Tryd.prog 72 #[.slice (some ⟨blk, off, none⟩) d.size cap, .int .i64 d.size, .func (.func 62) #[] #[]] w (SoPost w blk off d) := by
  have hI := Lib.hid (insertion_c (w := w) (cap := cap) (a := 0) (b := d.size) (ai := 0) (bi := d.size) rfl rfl R rfl (SWK.start R.hH) (Nat.zero_le _) (Nat.le_refl _) (by omega))
  have h1 : ¬ (20 : Int) ≤ d.size := by omega
  have h2 : ¬ (20 : Int) < d.size := by omega
  have HS := Lib.hid hsm
  clear hsm
  go_enter Tryd.func72, Tryd.ntmps72
  go_wp2
  refine wp_loop_rounds 1 ?_
  rw [rounds_succ]
  go_wp2_with (go_at_call 84; refine (hI.out).mono ?_; rintro e w1 ⟨rfl, S1⟩)
  refine wp_loop_rounds 1 ?_
  rw [rounds_succ]
  go_wp2
  go_end0
  have h := (insertionSort_holds ltP_swo d 0 d.size (Nat.zero_le _) (Nat.le_refl _)).1
  exact ⟨rfl, _, h.1, h, fun _ => rfl, S1⟩

set_option maxHeartbeats 4000000 in
set_option maxRecDepth 1000000 in
theorem stable_big {w : World} {blk off cap : Nat} {d : Array Prp} (R : RowK Prp.cells 5 w blk off d) (hsm : 20 ≤ d.size) (hsz : d.size < 1152921504606846976) :
    Calls Tryd.prog 72 #[.slice (some ⟨blk, off, none⟩) d.size cap, .int .i64 d.size, .func (.func 62) #[] #[]] w (SoPost w blk off d) := by
  have S0 : Aside (SWP 5 w blk off d w) := SWP.refl (SWK.start R.hH)
  have SY := Lib.hid (fun a m b w' => symMerge_c (cap := cap) Tryd.isAgg48 Tryd.sizeOf48 R rfl (by omega) (b - a + 1) a m b w' (Nat.lt_succ_self _))
  have hz : (d.size : Int) ≤ 1152921504606846976 := by omega
  have hz2 : (20 : Int) ≤ d.size := by omega
  go_enter Tryd.func72, Tryd.ntmps72
  go_wp2
  go_loopg [7, 8] d.size (fun kx s7 s8 wr => ∃ a : Nat, s7 = .int .i64 a ∧ s8 = .int .i64 ((a : Int) + 20) ∧ a ≤ d.size ∧ d.size - a ≤ kx ∧ Aside (SWP 5 w blk off d wr))
  case atStart => exact ⟨0, rfl, rfl, Nat.zero_le _, Nat.le_refl _, S0⟩
  case round =>
    clear S0
    obtain ⟨a, rfl, rfl, ha, hkx, S0⟩ := hrel
    have ha0 : (0 : Int) ≤ a := by omega
    have ha1 : (a : Int) ≤ 1152921504606846976 := by omega
    by_cases hlt : a + 20 ≤ d.size
    · have hltz : (a : Int) + 20 ≤ (d.size : Int) := by omega
      go_wp2_with fail
      obtain ⟨dk, hd, HP, S1⟩ := S0.out
      have hI := insertion_c (w := wr) (cap := cap) (a := a) (b := a + 20) (ai := a) (bi := (a : Int) + 20) rfl (by omega) R hd.symm S1 (by omega) (by omega) (by omega)
      rw [hd] at hI
      refine hI.mono ?_
      rintro e w1 ⟨rfl, S2⟩
      have S3 : Aside (SWP 5 w blk off d w1) := ins_swp hd HP (by omega) hlt S2
      clear S2 hI S1 HP hd S0
      go_wp2
      go_roundg (d.size - (a + 20))
      case measure => omega
      case rel => exact ⟨a + 20, by go_num, by congr 1, hlt, Nat.le_refl _, S3⟩
    · have hltz : ¬ (a : Int) + 20 ≤ (d.size : Int) := by omega
      go_wp2_with fail
      obtain ⟨dk, hd, HP, S1⟩ := S0.out
      have hI := insertion_c (w := wr) (cap := cap) (a := a) (b := d.size) (ai := a) (bi := d.size) rfl rfl R hd.symm S1 ha (by omega) (by omega)
      rw [hd] at hI
      refine hI.mono ?_
      rintro e w1 ⟨rfl, S2⟩
      have S3 : Aside (SWP 5 w blk off d w1) := ins_swp hd HP ha (Nat.le_refl _) S2
      clear S2 hI S1 HP hd S0 hltz hlt ha0 ha1 hkx
      go_wp2_with fail
      go_loopg [6, 7, 8, 9] d.size (fun kx s6 _s7 _s8 _s9 wr => ∃ bs : Nat, s6 = .int .i64 bs ∧ 20 ≤ bs ∧ bs ≤ 2305843009213693952 ∧ d.size - bs ≤ kx ∧ Aside (SWP 5 w blk off d wr))
      case atStart => exact ⟨20, rfl, by omega, by omega, by omega, S3⟩
      case round =>
        clear S3
        obtain ⟨bs, rfl, hb1, hb2, hkx, S3⟩ := hrel
        have hb1z : (20 : Int) ≤ bs := by omega
        by_cases hlt : bs < d.size
        · have hltz : (bs : Int) < d.size := by omega
          have hbz : (bs : Int) ≤ 1152921504606846976 := by omega
          go_wp2_with fail
          go_loopg [7, 8] d.size (fun ky s7 s8 wr => ∃ a : Nat, s7 = .int .i64 a ∧ s8 = .int .i64 ((a : Int) + 2 * bs) ∧ a ≤ d.size ∧ d.size - a ≤ ky ∧ Aside (SWP 5 w blk off d wr))
          case atStart => exact ⟨0, rfl, by congr 1; omega, Nat.zero_le _, Nat.le_refl _, S3⟩
          case round =>
            clear S3
            obtain ⟨a, rfl, rfl, ha, hky, S0⟩ := hrel
            have ha0 : (0 : Int) ≤ a := by omega
            have ha1 : (a : Int) ≤ 1152921504606846976 := by omega
            by_cases hlt2 : a + 2 * bs ≤ d.size
            · have hltz2 : (a : Int) + 2 * bs ≤ (d.size : Int) := by omega
              go_wp2_with fail
              have hs := SY.out a (a + bs) (a + 2 * bs) _ (by omega) (by omega) hlt2 S0.out
              rw [show (((a + bs : Nat)) : Int) = (a : Int) + bs by omega, show (((a + 2 * bs : Nat)) : Int) = (a : Int) + 2 * bs by omega] at hs
              refine hs.mono ?_
              rintro e w2 ⟨rfl, S2⟩
              have S3 : Aside (SWP 5 w blk off d w2) := S2
              clear S2 S0 hs
              go_wp2
              go_roundg (d.size - (a + 2 * bs))
              case measure => omega
              case rel => exact ⟨a + 2 * bs, by congr 1, by congr 1, hlt2, Nat.le_refl _, S3⟩
            · have hltz2 : ¬ (a : Int) + 2 * bs ≤ (d.size : Int) := by omega
              by_cases hlt3 : a + bs < d.size
              · have hltz3 : (a : Int) + bs < (d.size : Int) := by omega
                go_wp2_with fail
                have hs := SY.out a (a + bs) d.size _ (by omega) hlt3 (Nat.le_refl _) S0.out
                rw [show (((a + bs : Nat)) : Int) = (a : Int) + bs by omega] at hs
                refine hs.mono ?_
                rintro e w2 ⟨rfl, S2⟩
                have S3 : Aside (SWP 5 w blk off d w2) := S2
                clear S2 S0 hs
                go_wp2
                go_roundg (d.size - 2 * bs)
                case measure => omega
                case rel => exact ⟨bs * 2, by congr 1, by omega, by omega, by omega, S3⟩
              · have hltz3 : ¬ (a : Int) + bs < (d.size : Int) := by omega
                go_wp2_with fail
                go_roundg (d.size - 2 * bs)
                case measure => omega
                case rel => exact ⟨bs * 2, by congr 1, by omega, by omega, by omega, S0⟩
        · have hltz : ¬ (bs : Int) < d.size := by omega
          go_wp2
          go_end0
          obtain ⟨dk, hd, HP, S1⟩ := S3.out
          exact ⟨rfl, dk, hd, HP, fun h => by omega, S1⟩

theorem stable_c {w : World} {blk off cap : Nat} {d : Array Prp} (R : RowK Prp.cells 5 w blk off d) (hsz : d.size < 1152921504606846976) :
    Calls Tryd.prog 72 #[.slice (some ⟨blk, off, none⟩) d.size cap, .int .i64 d.size, .func (.func 62) #[] #[]] w (SoPost w blk off d) := by
  by_cases h : d.size < 20
  · exact stable_small R h
  · exact stable_big R (by omega) hsz

set_option maxRecDepth 100000 in
theorem sortStable_c {w : World} {blk off cap : Nat} {d : Array Prp} (R : RowK Prp.cells 5 w blk off d) (hsz : d.size < 1152921504606846976) :
    Calls Tryd.prog 61 #[.slice (some ⟨blk, off, none⟩) d.size cap, .func (.func 62) #[] #[]] w (SoPost w blk off d) := by
  have hc := Lib.hid (stable_c (cap := cap) R hsz)
  go_enter Tryd.func61, Tryd.ntmps61
  go_wp2_with (go_at_call 72; refine (hc.out).mono ?_; rintro e w1 ⟨rfl, h1⟩)
  go_end0
  exact ⟨rfl, h1⟩

set_option maxRecDepth 100000 in
theorem insertion_nil {w : World} {fv : Value} : Calls Tryd.prog 84 #[.slice none 0 0, .int .i64 0, .int .i64 0, fv] w fun e w' => e = .returned (.tuple #[]) ∧ w = w' := by
  go_enter Tryd.func84, Tryd.ntmps84
  go_wp2
  refine wp_loop_rounds 1 ?_
  rw [rounds_succ]
  go_wp2
  go_end0
  exact ⟨rfl, rfl⟩
set_option maxRecDepth 100000 in
theorem stable_nil {w : World} {fv : Value} : Calls Tryd.prog 72 #[.slice none 0 0, .int .i64 0, fv] w fun e w' => e = .returned (.tuple #[]) ∧ w = w' := by
  have hI := Lib.hid (insertion_nil (w := w) (fv := fv))
  go_enter Tryd.func72, Tryd.ntmps72
  go_wp2
  refine wp_loop_rounds 1 ?_
  rw [rounds_succ]
  go_wp2_with (go_at_call 84; refine (hI.out).mono ?_; rintro e w1 ⟨rfl, rfl⟩)
  refine wp_loop_rounds 1 ?_
  rw [rounds_succ]
  go_wp2
  go_end0
  exact ⟨rfl, rfl⟩
set_option maxRecDepth 100000 in
theorem sortStable_nil {w : World} {fv : Value} :
    Calls Tryd.prog 61 #[.slice none 0 0, fv] w fun e w' => e = .returned (.tuple #[]) ∧ w = w' := by
  have hc := Lib.hid (stable_nil (w := w) (fv := fv))
  go_enter Tryd.func61, Tryd.ntmps61
  go_wp2_with (go_at_call 72; refine (hc.out).mono ?_; rintro e w1 ⟨rfl, rfl⟩)
  go_end0
  exact ⟨rfl, rfl⟩
end Go.Proofs.YteigbejidfkhpaaDoor

/- Layer 15: rows of properties that a call has made; a table's words. -/
namespace Go.Proofs.YteigbejidfkhpaaDoor
open Go Go.Proofs Go.RowKit Go.Sort Go.Shelf
set_option linter.unusedSimpArgs false
set_option linter.unusedVariables false

/-- v is a row of properties in a block of the call's own, from block B on. -/
def OwnP (w : World) (B : Nat) (v : Value) (ps : List Prp) : Prop :=
  (v = .slice none 0 0 ∧ ps = []) ∨ ∃ g cap, v = .slice (some ⟨g, 0, none⟩) ps.length cap ∧ B ≤ g ∧ g < w.heap.size ∧ ps.length ≤ cap ∧ cap ≤ 9223372036854775807 ∧ HoldsK Prp.cells 5 w g 0 ps.toArray

theorem cells_len (p : Prp) : (Prp.cells p).length = 5 := rfl
theorem flatK_at (ps : List Prp) (j : Nat) (u : Value) (h : (ps.flatMap Prp.cells)[j]? = some u) : j < (flatK Prp.cells 5 ps.toArray).size ∧ (flatK Prp.cells 5 ps.toArray)[j]! = u := by
  have hl := flat_len Prp.cells 5 cells_len ps
  have hj : j < ps.length * 5 := by rw [← hl]; exact (List.getElem?_eq_some_iff.1 h).1
  refine ⟨by rw [size_flatK]; simpa using hj, ?_⟩
  rw [get_flatK _ _ _ _ (by simpa using hj)]
  rw [flat_get Prp.cells 5 (by omega) cells_len] at h
  obtain ⟨p, hp, hu⟩ := Option.bind_eq_some_iff.1 h
  have e1 : ps.toArray[j / 5]! = p := by
    rw [getElem!_def]
    simp [hp]
  rw [e1, getElem!_def, hu]
theorem holdsK_rc {w : World} {g cap : Nat} {ps : List Prp} (h : HoldsK Prp.cells 5 w g 0 ps.toArray) (h1 : ps.length ≤ cap) (h2 : cap ≤ 9223372036854775807) : RPr w (.slice (some ⟨g, 0, none⟩) ps.length cap) ps := by
  refine ⟨_, cap, rfl, h1, h2, flat_len Prp.cells 5 cells_len ps, (fun h => by cases h), fun j u hu => ⟨_, rfl, ?_⟩⟩
  obtain ⟨a, b⟩ := flatK_at ps j u hu
  have hc := (h j a).1
  rw [b] at hc
  rw [add_plain]
  rw [Nat.zero_add] at hc
  exact hc
theorem ownP_rpr {w : World} {B : Nat} {v : Value} {ps : List Prp} (h : OwnP w B v ps) : RPr w v ps := by
  rcases h with ⟨rfl, rfl⟩ | ⟨g, cap, rfl, _, _, h1, h2, h3⟩
  · exact own_rc (own_nil w 0 48 5)
  · exact holdsK_rc h3 h1 h2
theorem ownP_below {w w1 : World} {B : Nat} {v : Value} {ps : List Prp} (h : OwnP w B v ps) (b : Go.RowKit.Below w.heap.size w w1) : OwnP w1 B v ps := by
  rcases h with h | ⟨g, cap, rfl, h0, h4, h1, h2, h3⟩
  · exact .inl h
  · refine .inr ⟨g, cap, rfl, h0, Nat.lt_of_lt_of_le h4 b.size, h1, h2, fun j hj => ?_⟩
    obtain ⟨a, c⟩ := h3 j hj
    exact ⟨(b.cell (p := ⟨g, 0 + j, none⟩) h4).trans a, (b.frozen (p := ⟨g, 0 + j, none⟩) h4).trans c⟩
theorem own_holdsK {w : World} {B g n cap : Nat} {ps : List Prp} (h : w.ownsRow B 48 5 (.slice (some ⟨g, 0, none⟩) n cap) n (ps.flatMap Prp.cells)) : HoldsK Prp.cells 5 w g 0 ps.toArray ∧ B ≤ g ∧ g < w.heap.size ∧ ps.length = n ∧ n ≤ cap ∧ cap ≤ 9223372036854775807 := by
  have hl := h.1
  rw [flat_len Prp.cells 5 cells_len] at hl
  have hn : ps.length = n := by omega
  have hcell := fun j u hu => h.cells (g := g) rfl j u hu
  rcases h.2 with ⟨h0, _⟩ | ⟨g', cap', cur, he, hb, hh, h1, h2, h3, h4⟩
  · cases h0
  · injection he with e1 e2 e3
    injection e1 with e1
    injection e1 with e1
    subst e1 e3
    refine ⟨fun j hj => ?_, hb, (Array.getElem?_eq_some_iff.1 hh).1, hn, h1, by simpa [maxLen] using h2⟩
    rw [size_flatK] at hj
    have hj' : j < (ps.flatMap Prp.cells).length := by rw [flat_len Prp.cells 5 cells_len]; simpa using hj
    obtain ⟨_, b⟩ := flatK_at ps j _ (List.getElem?_eq_getElem hj')
    rw [b, Nat.zero_add]
    refine ⟨by have hc := hcell j _ (List.getElem?_eq_getElem hj'); rw [add_plain] at hc; exact hc, ?_⟩
    simp [World.frozen?, hh]
theorem rowK_of {w : World} {g : Nat} {ps : List Prp} (h : HoldsK Prp.cells 5 w g 0 ps.toArray) (hg : g < w.heap.size) : RowK Prp.cells 5 w g 0 ps.toArray :=
  ⟨cells_len, fun p v hv => by
    simp only [Prp.cells, List.mem_cons, List.not_mem_nil, or_false] at hv
    rcases hv with rfl | rfl | rfl | rfl | rfl <;> rfl, h, hg⟩
theorem swk_below {w w1 : World} {g : Nat} {dk : Array Prp} (h : SWK Prp.cells 5 w g 0 dk w1) {B : Nat} (hB : B ≤ g) (hs : B ≤ w.heap.size) : Go.RowKit.Below B w w1 := by
  obtain ⟨n, os, rfl⟩ := h
  refine ⟨rfl, rfl, rfl, size_sortWorldK_c Prp.cells 5 w g 0 n dk os, fun i hi => ?_⟩
  have hi2 : i < w.heap.size := by omega
  have hne : ¬ g = i := by omega
  simp [sortWorldK, grow, putRowK, putRow, mapBlock, Sort.ahead, Array.getElem?_append, Array.getElem?_modify, hi2, hne]
  rw [Array.getElem_modify_of_ne hne]
/-- Properties in the order of their names, as the insertion sort leaves them. -/
def sortP (l : List Prp) : List Prp := (Sort.insertionSort (ltOf cfP) l.toArray 0 l.length).toList
theorem sortP_perm (l : List Prp) : (sortP l).Perm l := by
  have h := (insertionSort_holds ltP_swo l.toArray 0 l.length (Nat.zero_le _) (by simp)).1
  unfold sortP
  generalize Sort.insertionSort (ltOf cfP) l.toArray 0 l.length = D at h ⊢
  have h1 := h.1
  have h2 := h.2.2
  have hs : l.toArray.size = l.length := by simp
  have e1 : D.extract 0 l.length = D := by rw [← hs, ← h1]; simp
  have e2 : l.toArray.extract 0 l.length = l.toArray := by rw [← hs]; simp
  rw [e1, e2] at h2
  exact h2.trans (by simp)
def SortPost (w : World) (B : Nat) (v : Value) (ps : List Prp) (e : Ending) (w' : World) : Prop :=
  e = .returned (.tuple #[]) ∧ ∃ qs : List Prp, OwnP w' B v qs ∧ qs.Perm ps ∧ (ps.length < 20 → qs = sortP ps) ∧ Go.RowKit.Below B w w'
theorem sortOwn_c {w : World} {B : Nat} {v : Value} {ps : List Prp} (hB : B ≤ w.heap.size) (h : OwnP w B v ps) (hsz : ps.length < 1152921504606846976) :
    Calls Tryd.prog 61 #[v, .func (.func 62) #[] #[]] w (SortPost w B v ps) := by
  rcases h with ⟨rfl, rfl⟩ | ⟨g, cap, rfl, h0, h4, h1, h2, h3⟩
  · refine sortStable_nil.mono ?_
    rintro e w' ⟨rfl, rfl⟩
    exact ⟨rfl, [], .inl ⟨rfl, rfl⟩, List.Perm.refl _, fun _ => (List.eq_nil_of_length_eq_zero (sortP_perm []).length_eq).symm, Go.RowKit.Below.refl _ _⟩
  · have R := rowK_of h3 h4
    have hc := sortStable_c (cap := cap) R (by simpa using hsz)
    have hsz' : ps.toArray.size = ps.length := by simp
    rw [hsz'] at hc
    refine hc.mono ?_
    rintro e w' ⟨rfl, dk, hd, hp, hx, hS⟩
    have hl : dk.toList.length = ps.length := by rw [Array.length_toList, hd, hsz']
    refine ⟨rfl, dk.toList, .inr ⟨g, cap, by rw [hl], h0, Nat.lt_of_lt_of_le h4 hS.le, by omega, h2, ?_⟩, ?_, fun hl20 => ?_, swk_below hS h0 hB⟩
    · have := hS.holds R.hblk R.hH hd
      simpa using this
    · have := hp.2.2
      rw [hsz'] at this
      have e1 : dk.extract 0 ps.length = dk := by rw [← hsz', ← hd]; simp
      have e2 : ps.toArray.extract 0 ps.length = ps.toArray := by rw [← hsz']; simp
      rw [e1, e2] at this
      simpa using this
    · rw [hx (by rw [hsz']; exact hl20), hsz']
      rfl

/-- Another block's writes, and a block of another kind. -/
theorem own_lt {w : World} {B e s n : Nat} {v : Value} {xs : List Value} (h : w.ownsRow B e s v n xs) {k : Nat} (hk : v.ownBlock = some k) : k < w.heap.size := by
  rcases h.2 with ⟨rfl, _⟩ | ⟨g, cap, cur, rfl, _, hg, _⟩
  · cases hk
  · injection hk with hk
    have e' : g = k := hk
    subst e'
    exact (Array.getElem?_eq_some_iff.1 hg).1
theorem own_ne {w : World} {B e s n b t : Nat} {v : Value} {xs : List Value} {cs : Array Value} {fr : Nat × Nat} (h : w.ownsRow B e s v n xs) (hb : w.heap[b]? = some (.cells cs t fr)) (ht : t ≠ e) : v.ownBlock ≠ some b := by
  intro e'
  rcases h.2 with ⟨rfl, _⟩ | ⟨g, cap, cur, rfl, _, hg, _⟩
  · cases e'
  · injection e' with e'
    have e2 : g = b := e'
    subst e2
    rw [hb] at hg
    injection hg with hg
    injection hg with _ h2 _
    exact ht h2
theorem info_prop : (Tryd.prog.info? 48).map (fun i => (i.zero, i.size, i.bytes)) = some (some (.agg #[.string ByteArray.empty, .int .i64 0, .int .i64 0, .string ByteArray.empty, .float .f64 0]), 5, 56) := by kernel_rfl
theorem cells_one (l : List Prp) : ∀ y ∈ l.flatMap Prp.cells, y.oneCell' = true := by
  intro y hy
  obtain ⟨p, _, hv⟩ := List.mem_flatMap.1 hy
  simp only [Prp.cells, List.mem_cons, List.not_mem_nil, or_false] at hv
  rcases hv with rfl | rfl | rfl | rfl | rfl <;> rfl

/-- A table: its items, in the order of their names. -/
def itemP (s : ByteArray) : Option (Prp × ByteArray) := (shortP s).bind fun p => (valP p.2).map fun q => (⟨p.1, q.1.k, q.1.n, q.1.t, q.1.r⟩, q.2)
def itemsP : Nat → ByteArray → Option (List Prp)
  | 0, s => if s.size = 0 then some [] else none
  | f + 1, s => if s.size = 0 then some [] else (itemP s).bind fun p => (itemsP f p.2).map (p.1 :: ·)
def tabP (l : List Prp) : Option (List Prp) := if l.length < 20 ∧ validB (sortP l) = true then some (sortP l) else none
def tableP (s : ByteArray) : Option (List Prp × ByteArray) := (longP s).bind fun p => ((itemsP p.1.size p.1).bind tabP).map fun l => (l, p.2)

theorem shortP_size {s x r : ByteArray} (h : shortP s = some (x, r)) : x.size ≤ 255 ∧ r.size + x.size + 1 = s.size := by
  unfold shortP at h
  obtain ⟨p, h1, h2⟩ := Option.bind_eq_some_iff.1 h
  obtain ⟨n, y⟩ := p
  have a := numP_lt h1
  have b := numP_size h1
  obtain ⟨c, d⟩ := takeP_size h2
  simp only [Nat.pow_one] at a
  dsimp only at c d
  omega
theorem longP_size {s x r : ByteArray} (h : longP s = some (x, r)) : r.size + x.size + 4 = s.size := by
  unfold longP at h
  obtain ⟨p, h1, h2⟩ := Option.bind_eq_some_iff.1 h
  obtain ⟨n, y⟩ := p
  have b := numP_size h1
  obtain ⟨c, d⟩ := takeP_size h2
  dsimp only at c d
  omega
theorem valQ_size {x r r' : ByteArray} {v : Vl} (h : valQ x r = some (v, r')) : r'.size ≤ r.size := by
  unfold valQ at h
  have key : ∀ {k : Nat} {f : Nat → Vl} {a : ByteArray}, (numP k a).map (fun q => (f q.1, q.2)) = some (v, r') → r'.size ≤ a.size := by
    intro k f a h
    obtain ⟨q, h1, h2⟩ := Option.map_eq_some_iff.1 h
    obtain ⟨n, y⟩ := q
    injection h2 with _ h2
    have := numP_size h1
    dsimp only at h2
    rw [← h2]
    omega
  (repeat' split at h)
  · exact key (f := fun n => ⟨2, n, ByteArray.empty, 0⟩) h
  · exact key (f := fun n => ⟨1, sgn 8 n, ByteArray.empty, 0⟩) h
  · exact key (f := fun n => ⟨1, sgn 16 n, ByteArray.empty, 0⟩) h
  · exact key (f := fun n => ⟨1, sgn 32 n, ByteArray.empty, 0⟩) h
  · exact key (f := fun n => ⟨1, sgn 64 n, ByteArray.empty, 0⟩) h
  · exact key (f := fun n => ⟨4, 0, ByteArray.empty, widR n⟩) h
  · exact key (f := fun n => ⟨4, 0, ByteArray.empty, canonR n⟩) h
  · obtain ⟨q, h1, h2⟩ := Option.map_eq_some_iff.1 h
    obtain ⟨n, y⟩ := q
    injection h2 with _ h2
    have := longP_size h1
    dsimp only at h2
    rw [← h2]
    omega
  · cases h
theorem valP_size {s r : ByteArray} {v : Vl} (h : valP s = some (v, r)) : r.size + 1 ≤ s.size := by
  unfold valP at h
  obtain ⟨p, h1, h2⟩ := Option.bind_eq_some_iff.1 h
  obtain ⟨x, y⟩ := p
  have := (takeP_size h1).2
  have := valQ_size h2
  dsimp only at this
  omega
theorem itemP_size {s r : ByteArray} {p : Prp} (h : itemP s = some (p, r)) : r.size + 2 ≤ s.size ∧ p.nm.size ≤ 255 := by
  unfold itemP at h
  obtain ⟨q, h1, h2⟩ := Option.bind_eq_some_iff.1 h
  obtain ⟨x, y⟩ := q
  obtain ⟨q2, h3, h4⟩ := Option.map_eq_some_iff.1 h2
  obtain ⟨v, z⟩ := q2
  injection h4 with h4 h5
  have a := shortP_size h1
  have b := valP_size h3
  dsimp only at b h5
  subst h5 h4
  exact ⟨by omega, a.1⟩
theorem itemsP_more : ∀ (f : Nat) (s : ByteArray) (k : Nat), s.size ≤ f → itemsP (f + k) s = itemsP s.size s
  | f, s, k, h => by
    have key : ∀ (n : Nat) (s : ByteArray) (f f' : Nat), s.size ≤ n → s.size ≤ f → s.size ≤ f' → itemsP f s = itemsP f' s := by
      intro n
      induction n with
      | zero =>
        intro s f f' h1 _ _
        have h0 : s.size = 0 := by omega
        cases f <;> cases f' <;> simp [itemsP, h0]
      | succ n ih =>
        intro s f f' h1 h2 h3
        by_cases h0 : s.size = 0
        · cases f <;> cases f' <;> simp [itemsP, h0]
        · obtain ⟨f, rfl⟩ : ∃ k, f = k + 1 := ⟨f - 1, by omega⟩
          obtain ⟨f', rfl⟩ : ∃ k, f' = k + 1 := ⟨f' - 1, by omega⟩
          simp only [itemsP, if_neg h0]
          cases hi : itemP s with
          | none => rfl
          | some p =>
            obtain ⟨p, r⟩ := p
            have := (itemP_size hi).1
            simp only [Option.bind_some]
            rw [ih r f f' (by omega) (by omega) (by omega)]
    exact key s.size s _ _ (Nat.le_refl _) (by omega) (Nat.le_refl _)
theorem itemsP_nil {s : ByteArray} (h : s.size = 0) : itemsP s.size s = some [] := by
  rw [h]
  simp [itemsP, h]
theorem itemsP_step {s : ByteArray} (h : s.size ≠ 0) : itemsP s.size s = (itemP s).bind fun p => (itemsP p.2.size p.2).map (p.1 :: ·) := by
  obtain ⟨f, hf⟩ : ∃ k, s.size = k + 1 := ⟨s.size - 1, by omega⟩
  rw [hf]
  simp only [itemsP, if_neg h]
  cases hi : itemP s with
  | none => rfl
  | some p =>
    obtain ⟨p, r⟩ := p
    have := (itemP_size hi).1
    simp only [Option.bind_some]
    have e := itemsP_more r.size r (f - r.size) (Nat.le_refl _)
    rw [show r.size + (f - r.size) = f by omega] at e
    rw [e]
end Go.Proofs.YteigbejidfkhpaaDoor
