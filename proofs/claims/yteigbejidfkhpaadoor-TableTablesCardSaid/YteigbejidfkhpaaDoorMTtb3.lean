/- Texts of this claim, joined: TbS, TbL, TbQ, TbR, TbU, Open3, OpenP, TtA. -/
import Derived.Test.YteigbejidfkhpaaDoorMTtb2
import Derived.WalkSmall
import Derived.Lib.OthersKept
import Derived.Deep.RegionHeld3
import Derived.BigQuiet
import Derived.Deep.DeepCutAuto
import Derived.Deep.CutRange
import Derived.Deep.QuietTactic
import Derived.ChangeSame
/- Layer 15: a method's bytes, and the plain law: they tell the method. -/
namespace Go.Proofs.YteigbejidfkhpaaDoor
open Go Go.RowKit
set_option linter.unusedSimpArgs false
set_option linter.unusedVariables false

/-- What a form, letter by letter, makes of numbers, texts and properties (tb: how many tables there were). -/
def encB : List UInt8 → List Int → List ByteArray → Nat → List Prp → Option (List UInt8)
  | [], ns, ts, tb, ps => if ns = [] ∧ ts = [] ∧ (tb = 0 → ps.length = 0) then some [] else none
  | c :: f, ns, ts, tb, ps =>
    if 0 < sizeOf' c.toNat then
      match ns with
      | [] => none
      | n :: ns' => if fitsB n (sizeOf' c.toNat) = true then (encB f ns' ts tb ps).map (beB n.toNat (sizeOf' c.toNat) ++ ·) else none
    else if c = 84 then
      if validB ps = true then (encB f ns ts (tb + 1) ps).map ((beB (propsB ps).length 4 ++ propsB ps) ++ ·) else none
    else
      match ts with
      | [] => none
      | t :: ts' => if t.size ≤ 1024 ∧ (c = 115 → t.size ≤ 255) then (encB f ns ts' tb ps).map ((beB t.size (if c = 115 then 1 else 4) ++ t.data.toList) ++ ·) else none

theorem size_cases (c : Int) : sizeOf' c = 0 ∨ sizeOf' c = 1 ∨ sizeOf' c = 2 ∨ sizeOf' c = 4 ∨ sizeOf' c = 8 := by
  unfold sizeOf'
  (repeat' split) <;> simp

theorem fits_lt {n : Int} {s : Nat} (h : fitsB n s = true) (hn : n ≤ 9223372036854775807) (hs : s = 1 ∨ s = 2 ∨ s = 4 ∨ s = 8) : 0 ≤ n ∧ n.toNat < 256 ^ s := by
  unfold fitsB at h
  simp only [Bool.and_eq_true, Bool.or_eq_true, decide_eq_true_eq] at h
  obtain ⟨h0, h1⟩ := h
  refine ⟨h0, ?_⟩
  rcases hs with rfl | rfl | rfl | rfl
  · have : n < 256 := by rcases h1 with h1 | h1; omega; exact h1
    show _ < 256; omega
  · have : n < 65536 := by rcases h1 with h1 | h1; omega; exact h1
    show _ < 65536; omega
  · have : n < 4294967296 := by rcases h1 with h1 | h1; omega; exact h1
    show _ < 4294967296; omega
  · show _ < 18446744073709551616; omega

theorem encB_inj : ∀ (f : List UInt8) (ns ns' : List Int) (ts ts' : List ByteArray) (tb : Nat) (ps ps' : List Prp) (y : List UInt8),
    (∀ n ∈ ns, n ≤ 9223372036854775807) → (∀ n ∈ ns', n ≤ 9223372036854775807) → (∀ p ∈ ps, p.r < 2 ^ 64 ∧ -9223372036854775808 ≤ p.n ∧ p.n ≤ 9223372036854775807) → (∀ p ∈ ps', p.r < 2 ^ 64 ∧ -9223372036854775808 ≤ p.n ∧ p.n ≤ 9223372036854775807) →
    (0 < tb → ps = ps') → encB f ns ts tb ps = some y → encB f ns' ts' tb ps' = some y → ns = ns' ∧ ts = ts' ∧ ps = ps'
  | [], ns, ns', ts, ts', tb, ps, ps', y, _, _, _, _, ht, h, h' => by
    unfold encB at h h'
    split at h
    · rename_i g
      split at h'
      · rename_i g'
        refine ⟨by rw [g.1, g'.1], by rw [g.2.1, g'.2.1], ?_⟩
        by_cases h0 : tb = 0
        · rw [List.eq_nil_of_length_eq_zero (g.2.2 h0), List.eq_nil_of_length_eq_zero (g'.2.2 h0)]
        · exact ht (by omega)
      · cases h'
    · cases h
  | c :: f, ns, ns', ts, ts', tb, ps, ps', y, hn, hn', hp, hp', ht, h, h' => by
    unfold encB at h h'
    by_cases h0 : 0 < sizeOf' c.toNat
    · rw [if_pos h0] at h h'
      have hs : sizeOf' c.toNat = 1 ∨ sizeOf' c.toNat = 2 ∨ sizeOf' c.toNat = 4 ∨ sizeOf' c.toNat = 8 := by rcases size_cases c.toNat with e | e | e | e | e <;> omega
      cases ns with
      | nil => cases h
      | cons n ns =>
        cases ns' with
        | nil => cases h'
        | cons n' ns' =>
          simp only at h h'
          split at h
          · rename_i g
            split at h'
            · rename_i g'
              obtain ⟨u, hu, hy⟩ := Option.map_eq_some_iff.1 h
              obtain ⟨u', hu', hy'⟩ := Option.map_eq_some_iff.1 h'
              obtain ⟨e, e2⟩ := List.append_inj (hy.trans hy'.symm) (by rw [beB_len, beB_len])
              subst e2
              obtain ⟨a, b⟩ := fits_lt g (hn n (List.mem_cons_self ..)) hs
              obtain ⟨a', b'⟩ := fits_lt g' (hn' n' (List.mem_cons_self ..)) hs
              have := beB_inj b b' e
              obtain ⟨r1, r2, r3⟩ := encB_inj f ns ns' ts ts' tb ps ps' u (fun m hm => hn m (List.mem_cons_of_mem _ hm)) (fun m hm => hn' m (List.mem_cons_of_mem _ hm)) hp hp' ht hu hu'
              exact ⟨by rw [r1, show n = n' by omega], r2, r3⟩
            · cases h'
          · cases h
    · rw [if_neg h0] at h h'
      by_cases h1 : c = 84
      · rw [if_pos h1] at h h'
        split at h
        · rename_i g
          split at h'
          · rename_i g'
            obtain ⟨u, hu, hy⟩ := Option.map_eq_some_iff.1 h
            obtain ⟨u', hu', hy'⟩ := Option.map_eq_some_iff.1 h'
            have e := hy.trans hy'.symm
            rw [List.append_assoc, List.append_assoc] at e
            obtain ⟨e1, e2⟩ := List.append_inj e (by rw [beB_len, beB_len])
            have l1 := propsB_len ps (valid_all g)
            have l2 := propsB_len ps' (valid_all g')
            have m1 := valid_len g
            have m2 := valid_len g'
            have hl := beB_inj (k := 4) (by show _ < 4294967296; omega) (by show _ < 4294967296; omega) e1
            obtain ⟨e3, e4⟩ := List.append_inj e2 hl
            have nm : ∀ (qs : List Prp), (∀ p ∈ qs, p.r < 2 ^ 64 ∧ -9223372036854775808 ≤ p.n ∧ p.n ≤ 9223372036854775807) → validB qs = true → ∀ p ∈ qs, p.nm.size ≤ 16 ∧ p.fit := fun qs hq hv p hp => by
              obtain ⟨v1, v2⟩ := valid_all hv p hp
              obtain ⟨q1, q2, q3⟩ := hq p hp
              unfold nameB at v1
              simp only [Bool.and_eq_true, decide_eq_true_eq] at v1
              exact ⟨v1.1.2, v2, q1, q2, q3⟩
            have hps := propsB_inj ps ps' (nm ps hp g) (nm ps' hp' g') e3
            subst e4
            exact encB_inj f ns ns' ts ts' (tb + 1) ps ps' u hn hn' hp hp' (fun _ => hps) hu hu'
          · cases h'
        · cases h
      · rw [if_neg h1] at h h'
        cases ts with
        | nil => cases h
        | cons t ts =>
          cases ts' with
          | nil => cases h'
          | cons t' ts' =>
            simp only at h h'
            split at h
            · rename_i g
              split at h'
              · rename_i g'
                obtain ⟨u, hu, hy⟩ := Option.map_eq_some_iff.1 h
                obtain ⟨u', hu', hy'⟩ := Option.map_eq_some_iff.1 h'
                have e := hy.trans hy'.symm
                rw [List.append_assoc, List.append_assoc] at e
                obtain ⟨e1, e2⟩ := List.append_inj e (by rw [beB_len, beB_len])
                have hl : t.size = t'.size := by
                  by_cases hc : c = 115
                  · rw [if_pos hc] at e1
                    have q1 := g.2 hc
                    have q2 := g'.2 hc
                    exact beB_inj (k := 1) (by show _ < 256; omega) (by show _ < 256; omega) e1
                  · rw [if_neg hc] at e1
                    have q1 := g.1
                    have q2 := g'.1
                    exact beB_inj (k := 4) (by show _ < 4294967296; omega) (by show _ < 4294967296; omega) e1
                obtain ⟨e3, e4⟩ := List.append_inj e2 (by rw [ba_size, ba_size, hl])
                subst e4
                obtain ⟨r1, r2, r3⟩ := encB_inj f ns ns' ts ts' tb ps ps' u hn hn' hp hp' ht hu hu'
                exact ⟨r1, by rw [r2, ba_ext e3], r3⟩
              · cases h'
            · cases h

/-- A method. -/
structure Mth where
  c : Int
  i : Int
  ns : List Int
  ts : List ByteArray
  ps : List Prp
def Mth.fit (m : Mth) : Prop := (∀ n ∈ m.ns, n ≤ 9223372036854775807) ∧ ∀ p ∈ m.ps, p.r < 2 ^ 64 ∧ -9223372036854775808 ≤ p.n ∧ p.n ≤ 9223372036854775807
def Mth.bytes (m : Mth) : Option (List UInt8) := (formCI m.c m.i).bind fun f => (encB f.data.toList m.ns m.ts 0 m.ps).map ((beB m.c.toNat 2 ++ beB m.i.toNat 2) ++ ·)
theorem form_range {c i : Int} {f : ByteArray} (h : formCI c i = some f) : 0 ≤ c ∧ c ≤ 255 ∧ 0 ≤ i ∧ i ≤ 255 := by
  unfold formCI at h
  split at h
  · assumption
  · cases h
theorem bytes_inj {m m' : Mth} {y : List UInt8} (hm : m.fit) (hm' : m'.fit) (h : m.bytes = some y) (h' : m'.bytes = some y) : m = m' := by
  unfold Mth.bytes at h h'
  obtain ⟨f, hf, h⟩ := Option.bind_eq_some_iff.1 h
  obtain ⟨f', hf', h'⟩ := Option.bind_eq_some_iff.1 h'
  obtain ⟨u, hu, hy⟩ := Option.map_eq_some_iff.1 h
  obtain ⟨u', hu', hy'⟩ := Option.map_eq_some_iff.1 h'
  have e := hy.trans hy'.symm
  rw [List.append_assoc, List.append_assoc] at e
  obtain ⟨e1, e2⟩ := List.append_inj e (by rw [beB_len, beB_len])
  obtain ⟨e3, e4⟩ := List.append_inj e2 (by rw [beB_len, beB_len])
  obtain ⟨a1, a2, a3, a4⟩ := form_range hf
  obtain ⟨b1, b2, b3, b4⟩ := form_range hf'
  have c1 := beB_inj (k := 2) (by show _ < 65536; omega) (by show _ < 65536; omega) e1
  have c2 := beB_inj (k := 2) (by show _ < 65536; omega) (by show _ < 65536; omega) e3
  have d1 : m.c = m'.c := by omega
  have d2 : m.i = m'.i := by omega
  rw [d1, d2, hf'] at hf
  injection hf with hf
  subst hf e4
  obtain ⟨r1, r2, r3⟩ := encB_inj _ _ _ _ _ _ _ _ _ hm.1 hm'.1 hm.2 hm'.2 (fun h => by omega) hu hu'
  cases m; cases m'
  simp_all
theorem bytes_head {m : Mth} {y : List UInt8} (h : m.bytes = some y) : ∃ (a b c d : UInt8) (u : List UInt8), y = a :: b :: c :: d :: u ∧ (a.toNat : Int) * 256 + b.toNat = m.c ∧ (c.toNat : Int) * 256 + d.toNat = m.i := by
  unfold Mth.bytes at h
  obtain ⟨f, hf, h⟩ := Option.bind_eq_some_iff.1 h
  obtain ⟨u, hu, hy⟩ := Option.map_eq_some_iff.1 h
  obtain ⟨a1, a2, a3, a4⟩ := form_range hf
  refine ⟨_, _, _, _, u, hy.symm, ?_, ?_⟩
  · rw [dig_nat, dig_nat]; simp only [Nat.pow_zero, Nat.pow_one, Nat.div_one]; omega
  · rw [dig_nat, dig_nat]; simp only [Nat.pow_zero, Nat.pow_one, Nat.div_one]; omega
end Go.Proofs.YteigbejidfkhpaaDoor

/- Layer 15's statements: methods that are too heavy to be played. -/
namespace Go.Proofs.YteigbejidfkhpaaDoor
open Go Go.RowKit
set_option linter.unusedSimpArgs false
set_option linter.unusedVariables false

/-- v reads as the texts ts. -/
def RS (w : World) (v : Value) (ts : List ByteArray) : Prop := RC w v ts.length 1 (ts.map Value.string)
theorem rs_at {w : World} {v : Value} {ts : List ByteArray} (h : RS w v ts) : ∃ A c, v = .slice A ts.length c ∧ ts.length ≤ c ∧ c ≤ 9223372036854775807 ∧ ∀ j y, ts[j]? = some y → ∃ a, A = some a ∧ w.cell? (a.add j) = some (.string y) := by
  obtain ⟨A, c, rfl, h1, h2, h3, h4, h5⟩ := h
  exact ⟨A, c, rfl, h1, h2, fun j y hy => h5 j _ (by rw [List.getElem?_map, hy]; rfl)⟩

def Sm (m : Nat) : Prop := m ≤ 140737488351232
def HvPost (w : World) (ns : List Int) (ts : List ByteArray) (ps : List Prp) (e : Ending) (w' : World) : Prop := ∃ b : Bool, e = .returned (.bool b) ∧ (b = false → ns.length ≤ 16384 ∧ ts.length ≤ 16384 ∧ ps.length ≤ 16384) ∧ Below w.heap.size w w'
theorem kt_lem {n k m t s : Nat} (h1 : t = m + (1 + s)) (h2 : n + k ≤ m) : n + (k + 1) ≤ t := by omega
theorem rc_form {w : World} {v : Value} {n s : Nat} {cs : List Value} (h : RC w v n s cs) : ∃ A c, v = .slice A n c ∧ n ≤ c := by
  obtain ⟨A, c, e, h1, _⟩ := h
  exact ⟨A, c, e, h1⟩
theorem below_alloc1' (w : World) (o : Obj) : Below w.heap.size w (w.alloc o) := (Below.refl _ _).alloc (Nat.le_refl _) o
set_option maxRecDepth 100000 in
set_option maxHeartbeats 600000 in
theorem heavy_c {w : World} {cl ix : Int} {vn vt vp : Value} {ns : List Int} {ts : List ByteArray} {ps : List Prp} (hn : RI w vn ns) (ht : RS w vt ts) (hp : RPr w vp ps) (hnl : ns.length ≤ 140737488351232) (hts : ∀ t ∈ ts, t.size ≤ 140737488351232)
    (hsz : ∀ p ∈ ps, p.nm.size ≤ 140737488351232 ∧ p.t.size ≤ 140737488351232) :
    Calls Tryd.prog 10 #[.agg #[.int .i64 cl, .int .i64 ix, vn, vt, vp]] w (HvPost w ns ts ps) := by
  obtain ⟨An, cn, rfl, hn1⟩ := rc_form hn
  obtain ⟨At, ct, rfl, ht1, ht2, htc⟩ := rs_at ht
  obtain ⟨Ap, cp, rfl, hp1⟩ := rc_form hp
  have HTC := Lib.hid htc
  have HTS := Lib.hid hts
  have HP := Lib.hid hp
  have HSZ := Lib.hid hsz
  have bW := (Below.refl w.heap.size w).alloc (Nat.le_refl _) (.cells #[.int .i64 cl, .int .i64 ix, .slice An ns.length cn, .slice At ts.length ct, .slice Ap ps.length cp] 26)
  have hnl' : Sm ns.length := hnl
  clear hn ht hp htc hts hsz ht2 hnl
  go_enter Tryd.func10, Tryd.ntmps10
  go_wp2_with fail
  go_loop [3, 12, 5] (fun x i _y => ∃ k m : Nat, k ≤ ts.length ∧ i = .int .i64 k ∧ x = .int .i64 m ∧ Sm m ∧ Hid (ns.length + k ≤ m)) (fun _ i _ => ts.length - (intOf i).toNat)
  case atStart => exact ⟨0, ns.length, Nat.zero_le _, rfl, rfl, hnl', Lib.hid (Nat.le_refl _)⟩
  case round =>
    obtain ⟨k, m, hk, rfl, rfl, hm, HKM⟩ := hrel
    by_cases hlt : k < ts.length
    · obtain ⟨y, hy⟩ : ∃ y, ts[k]? = some y := ⟨_, List.getElem?_eq_getElem hlt⟩
      obtain ⟨a, rfl, q0⟩ := HTC.out k y hy
      have hs2 := HTS.out y (List.mem_of_getElem? hy)
      obtain ⟨tot, htot⟩ : ∃ tot : Nat, tot = m + (1 + y.size) := ⟨_, rfl⟩
      have hm' : m ≤ 140737488351232 := hm
      have e1 : IntKind.i64.wrap (1 + (y.size : Int)) = 1 + y.size := IntWalk.i64_in _ (by omega)
      have e3 : IntKind.i64.wrap ((m : Int) + (1 + (y.size : Int))) = m + (1 + y.size) := IntWalk.i64_in _ (by omega)
      have hz1 : (y.size : Int) ≤ 140737488351232 := by omega
      have p0 : (w.alloc (.cells #[.int .i64 cl, .int .i64 ix, .slice An ns.length cn, .slice (some a) ts.length ct, .slice Ap ps.length cp] 26)).cell? (a.add k) = some (.string y) := cell_below (below_alloc1' w _) (World.block_lt_of_cell? w _ q0) q0
      have HTOT := Lib.hid htot
      have HLT := Lib.hid hlt
      have HM := Lib.hid hm
      clear hy q0 hs2 htot hm hm'
      by_cases hg : (16384 : Int) < m + (1 + y.size)
      · go_wp2_with fail
        go_ret
        refine ⟨true, rfl, ?_, bW⟩
        intro h
        cases h
      · have hg' : (m : Int) + (1 + y.size) ≤ 16384 := by omega
        clear hg
        go_wp2_with fail
        have hwk : wrap64 ((k : Int) + 1) = (k : Int) + 1 := by have := HKM.out; unfold wrap64; omega
        have hSm : Sm tot := by have h1 := HTOT.out; show tot ≤ 140737488351232; omega
        have hKt := kt_lem HTOT.out HKM.out
        have hk1 : k + 1 ≤ ts.length := HLT.out
        have hti : (m : Int) + (1 + (y.size : Int)) = ((tot : Nat) : Int) := by rw [HTOT.out]; omega
        rw [hwk, hti]
        refine ⟨⟨k + 1, tot, hk1, rfl, rfl, hSm, Lib.hid hKt⟩, round_lessL HLT.out⟩
    · have hk2 : k = ts.length := by omega
      subst hk2
      clear hlt
      by_cases hg : (16384 : Int) < m
      · clear hm
        go_wp2_with fail
        go_ret
        exact ⟨true, rfl, (fun h => by cases h), bW⟩
      · have hg' : (m : Int) ≤ 16384 := by omega
        have HG := Lib.hid hg'
        have HLG := Lib.hid (long_c (rc_alloc HP.out (.cells #[.int .i64 cl, .int .i64 ix, .slice An ns.length cn, .slice At ts.length ct, .slice Ap ps.length cp] 26)) HSZ.out)
        clear hg hm
        go_wp2_with fail
        refine (HLG.out).mono ?_
        rintro e w2 ⟨b, rfl, hb, b2⟩
        go_wp2_with fail
        go_ret
        have hd : decide ((16384 : Int) < (m : Int)) = false := decide_eq_false (by have h2 := HG.out; omega)
        exact ⟨b, by show Ending.returned (Value.bool (decide ((16384 : Int) < (m : Int)) || b)) = _; rw [hd]; rfl, (fun h => ⟨by have h1 := HKM.out; have h2 := HG.out; omega, by have h1 := HKM.out; have h2 := HG.out; omega, hb h⟩), bW.trans (b2.mono bW.size)⟩
end Go.Proofs.YteigbejidfkhpaaDoor

/- Layer 15: words for table.Encode: a string's iterator beside bytes; tails of slices. -/
namespace Go.Proofs.YteigbejidfkhpaaDoor
open Go Go.RowKit
set_option linter.unusedSimpArgs false
set_option linter.unusedVariables false

/-- Blocks other than bytes stay. -/
def KeepsO (w w' : World) : Prop := ∀ (b : Nat) (o : Obj), (∀ (cs : Array Value) (fr : Nat × Nat), o ≠ .cells cs 5 fr) → w.heap[b]? = some o → w'.heap[b]? = some o
theorem KeepsO.refl (w : World) : KeepsO w w := fun _ _ _ h => h
theorem KeepsO.trans {a b c : World} (h : KeepsO a b) (k : KeepsO b c) : KeepsO a c := fun x o ho hx => k x o ho (h x o ho hx)
theorem keepsO_alloc (w : World) (o : Obj) : KeepsO w (w.alloc o) := fun b o' _ h => by
  rw [heap_alloc_old _ _ (Array.getElem?_eq_some_iff.1 h).1]
  exact h
theorem keepsO_grown {w w1 : World} {base : Nat} {v : Value} {l : List UInt8} (h : OB w base v l) (hg : w.grownBy w1 v.ownBlock) : KeepsO w w1 := fun b o ho hb => by
  rw [hg.block b (Array.getElem?_eq_some_iff.1 hb).1 (fun e => ?_)]
  · exact hb
  · rcases h.2 with ⟨rfl, _⟩ | ⟨g, cap, cur, rfl, _, hgc, _⟩
    · cases e
    · injection e with e
      have e' : b = g := e
      subst e'
      rw [hb] at hgc
      injection hgc with hgc
      exact ho _ _ hgc
theorem keepsO_below {w w1 : World} (h : Below w.heap.size w w1) : KeepsO w w1 := fun b o _ hb => by
  rw [h.block b (Array.getElem?_eq_some_iff.1 hb).1]
  exact hb
theorem iter_keeps {w w1 : World} {b pos : Nat} {s : ByteArray} (h : w.heap[b]? = some (.stringIter s pos)) (k : KeepsO w w1) : w1.heap[b]? = some (.stringIter s pos) := k b _ (fun _ _ e => by cases e) h
/-- Block b is the method. -/
def MB (w : World) (b : Nat) (c i : Int) (vn vt vp : Value) : Prop := w.heap[b]? = some (.cells #[.int .i64 c, .int .i64 i, vn, vt, vp] 26 (0, 0))
theorem mb_keeps {w w1 : World} {b : Nat} {c i : Int} {vn vt vp : Value} (h : MB w b c i vn vt vp) (k : KeepsO w w1) : MB w1 b c i vn vt vp := k b _ (fun _ _ e => by injection e with _ e2 _; exact absurd e2 (by decide)) h
theorem mb_new (w : World) (c i : Int) (vn vt vp : Value) : MB (w.alloc (.cells #[.int .i64 c, .int .i64 i, vn, vt, vp] 26)) w.heap.size c i vn vt vp := heap_alloc_new w _
theorem mb_facts {w : World} {b : Nat} {c i : Int} {vn vt vp : Value} (h : MB w b c i vn vt vp) : w.cell? ⟨b, 0, none⟩ = some (.int .i64 c) ∧ w.cell? ⟨b, 1, none⟩ = some (.int .i64 i) ∧ w.cell? ⟨b, 2, none⟩ = some vn ∧ w.cell? ⟨b, 3, none⟩ = some vt ∧ w.cell? ⟨b, 4, none⟩ = some vp := by
  refine ⟨?_, ?_, ?_, ?_, ?_⟩ <;> simp [World.cell?, show w.heap[b]? = _ from h]

set_option maxRecDepth 100000 in
set_option maxHeartbeats 1000000 in
theorem bigO_c {w : World} {base : Nat} {v : Value} {l : List UInt8} (h : OB w base v l) (hB : base ≤ w.heap.size) (hl : l.length ≤ 70368744177664) (n : Nat) (hn : n < 18446744073709551616) (k : Nat) (hk : k ≤ 8) :
    Calls Tryd.prog 28 #[v, .int .u64 n, .int .i64 k] w fun e w' => ∃ v', e = .returned v' ∧ OB w' base v' (l ++ beB n k) ∧ Below base w w' ∧ KeepsO w w' := by
  have H := Lib.hid h
  clear h
  go_enter Tryd.func28, Tryd.ntmps28
  go_wp2
  go_loopw [0, 7] (fun x i wr => ∃ (r : Nat) (pre : List UInt8), r ≤ k ∧ i = .int .i64 ((r : Int) - 1) ∧ Hid (pre ++ beB n r = beB n k) ∧ Hid (OB wr base x (l ++ pre)) ∧ Hid (KeepsO w wr) ∧ Below base w wr) (fun _ i _ => (intOf i + 1).toNat)
  case atStart => exact ⟨k, [], Nat.le_refl _, rfl, Lib.hid rfl, by simpa [Lib.hid] using H, Lib.hid (KeepsO.refl _), Below.refl _ _⟩
  case round =>
    obtain ⟨r, pre, hr, rfl, HP, O2, HK, b2⟩ := hrel
    cases r with
    | zero =>
      go_wp2
      go_ret
      have := HP.out
      simp only [beB, List.append_nil] at this
      exact ⟨_, rfl, by rw [← this]; exact O2.out, b2, HK.out⟩
    | succ r =>
      have hpl : pre.length ≤ 8 := by
        have := congrArg List.length HP.out
        rw [List.length_append, beB_len, beB_len] at this
        omega
      go_wp2_with (at_builtin; refine app_b (w0 := w) (base := base) (l := l ++ pre) (m := [dig n r]) rfl (.tmp 14) (.tmp 20) rfl rfl rfl (O2.out.alloc _) (rb_dig wr _ _ (dig_val n r)) (b2.alloc (by have := b2.size; omega) _) (by have := b2.size; simp; omega) (by simp; omega) ?_; intro v4 w4 o4 b4 g4 _; have HK4 := Lib.hid ((HK.out.trans (keepsO_alloc _ _)).trans (keepsO_grown (O2.out.alloc _) g4)); have O4 := Lib.hid o4; clear o4 g4)
      go_roundw
      case rel => exact ⟨r, pre ++ [dig n r], by omega, by go_num, Lib.hid (by have := HP.out; simpa [beB] using this), Lib.hid (by have := O4.out; rwa [List.append_assoc] at this), HK4, b4⟩
      case measure => simp [intOf]

theorem bigO_c2 {w : World} {base : Nat} {v : Value} {l : List UInt8} (h : OB w base v l) (hB : base ≤ w.heap.size) (hl : l.length ≤ 70368744177664) (n k : Nat) (hn : n < 18446744073709551616) (hk : k ≤ 8) (ni ki : Int) (hni : ni = (n : Int)) (hki : ki = (k : Int)) :
    Calls Tryd.prog 28 #[v, .int .u64 ni, .int .i64 ki] w fun e w' => ∃ v', e = .returned v' ∧ OB w' base v' (l ++ beB n k) ∧ Below base w w' ∧ KeepsO w w' := by
  subst hni hki
  exact bigO_c h hB hl n hn k hk

theorem ri_head {w : World} {A : Option Addr} {c n : Nat} {x : Int} {ns : List Int} (h : RI w (.slice A n c) (x :: ns)) : ∃ a, A = some a ∧ w.cell? a = some (.int .i64 x) := by
  obtain ⟨A', c', he, h1, h2, h3, h4, h5⟩ := h
  injection he with e1 e2 e3
  subst e1
  obtain ⟨a, ha, hc⟩ := h5 0 (.int .i64 x) (by simp)
  exact ⟨a, ha, by rwa [show a.add 0 = a by unfold Addr.add; simp] at hc⟩
theorem rs_head {w : World} {A : Option Addr} {c n : Nat} {x : ByteArray} {ns : List ByteArray} (h : RS w (.slice A n c) (x :: ns)) : ∃ a, A = some a ∧ w.cell? a = some (.string x) := by
  obtain ⟨A', c', he, h1, h2, h3, h4, h5⟩ := h
  injection he with e1 e2 e3
  subst e1
  obtain ⟨a, ha, hc⟩ := h5 0 (.string x) (by simp)
  exact ⟨a, ha, by rwa [show a.add 0 = a by unfold Addr.add; simp] at hc⟩
theorem info_i64 : (Tryd.prog.info? 3).map (fun i => (i.zero, i.size, i.bytes)) = some (some (.int .i64 0), 1, 8) := by kernel_rfl
theorem info_str : (Tryd.prog.info? 9).map (fun i => (i.zero, i.size, i.bytes)) = some (some (.string ByteArray.empty), 1, 16) := by kernel_rfl
theorem ri_tail {A : Option Addr} {c : Nat} {x : Int} {ns : List Int} (w : World) (h : RI w (.slice A (ns.length + 1) c) (x :: ns)) : ∃ A', (∀ W : World, (Instr.slice 22 (.slice A (ns.length + 1) c) (some (.int .i64 1)) none none).run Tryd.prog W = .ok (.slice A' ns.length (c - 1)) W) ∧ RI w (.slice A' ns.length (c - 1)) ns ∧ ns.length ≤ c - 1 := by
  obtain ⟨i0, hi, hzz⟩ := Option.map_eq_some_iff.1 info_i64
  simp only [Prod.mk.injEq] at hzz
  obtain ⟨hz0, hz1, hz2⟩ := hzz
  have hc : ns.length + 1 ≤ c := by
    obtain ⟨A', c', he, h1, _⟩ := h
    injection he with e1 e2 e3
    subst e3
    simpa using h1
  obtain ⟨A', h1, h2, h3⟩ := rc_drop (P := Tryd.prog) Tryd.underlying22 hi A (ns.length + 1) c hc 1 (by omega) (by omega)
  refine ⟨A', h1, ?_, by omega⟩
  have := h2 w _ (by rw [hz1]; exact h)
  rw [hz1] at this
  exact this
theorem rs_tail {A : Option Addr} {c : Nat} {x : ByteArray} {ns : List ByteArray} (w : World) (h : RS w (.slice A (ns.length + 1) c) (x :: ns)) : ∃ A', (∀ W : World, (Instr.slice 23 (.slice A (ns.length + 1) c) (some (.int .i64 1)) none none).run Tryd.prog W = .ok (.slice A' ns.length (c - 1)) W) ∧ RS w (.slice A' ns.length (c - 1)) ns ∧ ns.length ≤ c - 1 := by
  obtain ⟨i0, hi, hzz⟩ := Option.map_eq_some_iff.1 info_str
  simp only [Prod.mk.injEq] at hzz
  obtain ⟨hz0, hz1, hz2⟩ := hzz
  have hc : ns.length + 1 ≤ c := by
    obtain ⟨A', c', he, h1, _⟩ := h
    injection he with e1 e2 e3
    subst e3
    simpa using h1
  obtain ⟨A', h1, h2, h3⟩ := rc_drop (P := Tryd.prog) Tryd.underlying23 hi A (ns.length + 1) c hc 1 (by omega) (by omega)
  refine ⟨A', h1, ?_, by omega⟩
  have := h2 w _ (by rw [hz1]; exact h)
  rw [hz1] at this
  exact this

theorem own_iterAt {w : World} {B e size n : Nat} {v : Value} {xs : List Value} {k : Nat} {s : ByteArray} {pos : Nat} (h : w.ownsRow B e size v n xs) (hk : w.heap[k]? = some (.stringIter s pos)) (pos' : Nat) : (w.iterAt k s pos').ownsRow B e size v n xs := by
  refine ⟨h.1, ?_⟩
  rcases h.2 with h0 | ⟨g, cap, cur, hv, hb, hg, rest⟩
  · exact .inl h0
  · refine .inr ⟨g, cap, cur, hv, hb, ?_, rest⟩
    rw [Lib.iterAt_other _ _ _ _ _ (fun e => by subst e; rw [hk] at hg; cases hg)]
    exact hg
theorem mb_iterAt {w : World} {b k pos : Nat} {s : ByteArray} {c i : Int} {vn vt vp : Value} (h : MB w b c i vn vt vp) (hk : w.heap[k]? = some (.stringIter s pos)) (pos' : Nat) : MB (w.iterAt k s pos') b c i vn vt vp := by
  unfold MB at h ⊢
  rw [Lib.iterAt_other _ _ _ _ _ (fun e => by subst e; rw [hk] at h; cases h)]
  exact h

theorem ite_some {p : Prop} [Decidable p] {X : Type} {x f : X} {t : Option X} {P : X → Prop} (h : (if p then some x else t) = some f) (hx : P x) (ht : t = some f → P f) : P f := by
  by_cases hp : p
  · rw [if_pos hp] at h
    injection h with h
    rwa [← h]
  · rw [if_neg hp] at h
    exact ht h
def SmallF (f : ByteArray) : Prop := f.size ≤ 6 ∧ f.data.toList.all (fun x => decide (x.toNat < 128)) = true
/-- Every form is short, and ASCII. -/
theorem form_small {c i : Int} {f : ByteArray} (h : formCI c i = some f) : SmallF f := by
  unfold formCI at h
  split at h
  · unfold formOf at h
    repeat (refine ite_some (P := SmallF) h ⟨by decide, by decide⟩ ?_; clear h; intro h)
    cases h
  · cases h

/-- What Encode answers. -/
def EncM (w : World) (total : Option (List UInt8)) (e : Ending) (w' : World) : Prop :=
  Below w.heap.size w w' ∧ match total with
    | some l => ∃ v, e = .returned (.tuple #[v, .int .i64 0]) ∧ OB w' w.heap.size v l
    | none => e = .returned (.tuple #[.slice none 0 0, .int .i64 1])
theorem encM_no {w w' : World} {total : Option (List UInt8)} (h : total = none) (b : Below w.heap.size w w') : EncM w total (.returned (.tuple #[.slice none 0 0, .int .i64 1])) w' := by
  subst h
  exact ⟨b, rfl⟩
theorem encM_yes {w w' : World} {total : Option (List UInt8)} {l : List UInt8} {v : Value} (h : total = some l) (b : Below w.heap.size w w') (o : OB w' w.heap.size v l) : EncM w total (.returned (.tuple #[v, .int .i64 0])) w' := by
  subst h
  exact ⟨b, v, rfl, o⟩
/-- What holds at the head of Encode's loop. -/
structure EI (w wr : World) (c i : Int) (vn vt vp : Value) (IB : Nat) (s : ByteArray) (ps : List Prp) (total : Option (List UInt8)) (pos : Nat) (pre : List UInt8) (ns : List Int) (ts : List ByteArray) (k : Nat) (b n t : Value) : Prop where
  own : OB wr w.heap.size b pre
  mb : MB wr w.heap.size c i vn vt vp
  it : wr.heap[IB]? = some (.stringIter s pos)
  bel : Below w.heap.size w wr
  ri : RI w n ns
  rs : RS w t ts
  len : pre.length ≤ 4 + pos * 5000
  tot : total = (encB (s.data.toList.drop pos) ns ts k ps).map (pre ++ ·)
  big : ∀ x ∈ ns, x ≤ 9223372036854775807
  ln : ns.length ≤ 140737488351232
  lt : ts.length ≤ 140737488351232
theorem drop_at {s : ByteArray} {pos : Nat} (h : pos < s.size) : s.data.toList.drop pos = s[pos] :: s.data.toList.drop (pos + 1) := by
  have h' : pos < s.data.toList.length := by rw [ba_size]; exact h
  rw [List.drop_eq_getElem_cons h']
  congr 1
theorem small_at {s : ByteArray} (h : SmallF s) {pos : Nat} (hp : pos < s.size) : (s[pos]).toNat < 128 := by
  have h2 := List.all_eq_true.1 h.2 s[pos] (List.mem_of_getElem? (ba_at s pos hp))
  simpa using h2
theorem map_map' {X : Type} (o : Option (List X)) (a b : List X) : (o.map (b ++ ·)).map (a ++ ·) = o.map ((a ++ b) ++ ·) := by
  cases o <;> simp

section
variable {x : UInt8} {f : List UInt8} {ns : List Int} {ts : List ByteArray} {k z : Nat} {ps : List Prp} {n : Int} {y : ByteArray} {total : Option (List UInt8)} {l pre : List UInt8}
theorem enc_num_nil (ht : total = (encB l [] ts k ps).map (pre ++ ·)) (hl : l = x :: f) (hz : z = sizeOf' x.toNat) (h : (0 : Int) < z) : total = none := by
  subst hl
  rw [ht, encB.eq_def]
  dsimp only
  rw [← hz, if_pos (by omega)]
  rfl
theorem enc_num_bad (ht : total = (encB l (n :: ns) ts k ps).map (pre ++ ·)) (hl : l = x :: f) (hz : z = sizeOf' x.toNat) (h : (0 : Int) < z) (hf : fitsB n z = false) : total = none := by
  subst hl
  rw [ht, encB.eq_def]
  dsimp only
  rw [← hz, if_pos (by omega)]
  simp [hf]
theorem enc_num_ok {m : Nat} (ht : total = (encB l ((m : Int) :: ns) ts k ps).map (pre ++ ·)) (hl : l = x :: f) (hz : z = sizeOf' x.toNat) (h : (0 : Int) < z) (hf : fitsB m z = true) : total = (encB f ns ts k ps).map ((pre ++ beB m z) ++ ·) := by
  subst hl
  rw [ht, encB.eq_def]
  dsimp only
  rw [← hz, if_pos (by omega)]
  simp only [hf, if_true, map_map']
  rfl
theorem enc_tab_bad (ht : total = (encB l ns ts k ps).map (pre ++ ·)) (hl : l = x :: f) (hz : z = sizeOf' x.toNat) (h : z = 0) (hx : x = 84) (hv : validB ps = false) : total = none := by
  subst hl
  rw [ht, encB.eq_def]
  dsimp only
  rw [← hz, if_neg (by omega), if_pos hx]
  simp [hv]
theorem enc_tab_ok (ht : total = (encB l ns ts k ps).map (pre ++ ·)) (hl : l = x :: f) (hz : z = sizeOf' x.toNat) (h : z = 0) (hx : x = 84) (hv : validB ps = true) : total = (encB f ns ts (k + 1) ps).map ((pre ++ (beB (propsB ps).length 4 ++ propsB ps)) ++ ·) := by
  subst hl
  rw [ht, encB.eq_def]
  dsimp only
  rw [← hz, if_neg (by omega), if_pos hx, if_pos hv, map_map']
theorem enc_txt_nil (ht : total = (encB l ns [] k ps).map (pre ++ ·)) (hl : l = x :: f) (hz : z = sizeOf' x.toNat) (h : z = 0) (hx : x ≠ 84) : total = none := by
  subst hl
  rw [ht, encB.eq_def]
  dsimp only
  rw [← hz, if_neg (by omega), if_neg hx]
  rfl
theorem enc_txt_bad (ht : total = (encB l ns (y :: ts) k ps).map (pre ++ ·)) (hl : l = x :: f) (hz : z = sizeOf' x.toNat) (h : z = 0) (hx : x ≠ 84) (hv : ¬ (y.size ≤ 1024 ∧ (x = 115 → y.size ≤ 255))) : total = none := by
  subst hl
  rw [ht, encB.eq_def]
  dsimp only
  rw [← hz, if_neg (by omega), if_neg hx]
  simp only [if_neg hv]
  rfl
theorem enc_txt_ok (ht : total = (encB l ns (y :: ts) k ps).map (pre ++ ·)) (hl : l = x :: f) (hz : z = sizeOf' x.toNat) (h : z = 0) (hx : x ≠ 84) (hv : y.size ≤ 1024 ∧ (x = 115 → y.size ≤ 255)) : total = (encB f ns ts k ps).map ((pre ++ (beB y.size (if x = 115 then 1 else 4) ++ y.data.toList)) ++ ·) := by
  subst hl
  rw [ht, encB.eq_def]
  dsimp only
  rw [← hz, if_neg (by omega), if_neg hx]
  simp only [if_pos hv, map_map']
theorem enc_end (ht : total = (encB l ns ts k ps).map (pre ++ ·)) (hl : l = []) : total = if ns = [] ∧ ts = [] ∧ (k = 0 → ps.length = 0) then some pre else none := by
  subst hl
  rw [ht, encB.eq_def]
  dsimp only
  split <;> simp
end
end Go.Proofs.YteigbejidfkhpaaDoor

/- Layer 15: table.Encode. -/
namespace Go.Proofs.YteigbejidfkhpaaDoor
open Go Go.RowKit Go.Sort
set_option linter.unusedSimpArgs false
set_option linter.unusedVariables false

set_option maxRecDepth 100000 in
set_option maxHeartbeats 4000000 in
theorem tEncode_c {w : World} (c i : Int) (ns : List Int) (ts : List ByteArray) (ps : List Prp) {vn vt vp : Value} (hn : RI w vn ns) (ht : RS w vt ts) (hp : RPr w vp ps)
    (hns : ∀ n ∈ ns, n ≤ 9223372036854775807) (hnl : ns.length ≤ 140737488351232) (htl : ts.length ≤ 140737488351232) (hsz : ∀ p ∈ ps, p.nm.size ≤ 140737488351232) (hr : ∀ p ∈ ps, p.r < 18446744073709551616) :
    Calls Tryd.prog 11 #[.agg #[.int .i64 c, .int .i64 i, vn, vt, vp]] w (EncM w (Mth.bytes ⟨c, i, ns, ts, ps⟩)) := by
  obtain ⟨An, cn, rfl, hn1⟩ := rc_form hn
  obtain ⟨At, ct, rfl, ht1⟩ := rc_form ht
  obtain ⟨Ap, cp, rfl, hp1⟩ := rc_form hp
  obtain ⟨total, htot⟩ : ∃ t, t = Mth.bytes ⟨c, i, ns, ts, ps⟩ := ⟨_, rfl⟩
  rw [← htot]
  have HN := Lib.hid hn
  have HTX := Lib.hid ht
  have HP := Lib.hid hp
  have HNS := Lib.hid hns
  have HSZ := Lib.hid hsz
  have HR := Lib.hid hr
  have bW := Lib.hid ((Below.refl w.heap.size w).alloc (Nat.le_refl _) (.cells #[.int .i64 c, .int .i64 i, .slice An ns.length cn, .slice At ts.length ct, .slice Ap ps.length cp] 26))
  have hF := form_c (w := w.alloc (.cells #[.int .i64 c, .int .i64 i, .slice An ns.length cn, .slice At ts.length ct, .slice Ap ps.length cp] 26)) c i
  have HNL := Lib.hid hnl
  have HTL := Lib.hid htl
  clear hn ht hp hns hsz hr hnl htl
  cases hf : formCI c i with
  | none =>
    rw [hf] at hF
    simp only [Option.getD_none, Option.isSome_none] at hF
    have HF := Lib.hid hF
    have HT := Lib.hid (show total = none by rw [htot]; unfold Mth.bytes; rw [hf]; rfl)
    clear hF htot hf
    go_enter Tryd.func11, Tryd.ntmps11
    go_wp2_with fail
    refine (HF.out).mono ?_
    rintro e w1 ⟨rfl, rfl⟩
    go_wp2_with fail
    go_ret2
    exact encM_no HT.out bW.out
  | some s =>
    rw [hf] at hF
    simp only [Option.getD_some, Option.isSome_some] at hF
    have HF := Lib.hid hF
    have hT : total = (encB s.data.toList ns ts 0 ps).map ((beB c.toNat 2 ++ beB i.toNat 2) ++ ·) := by rw [htot]; unfold Mth.bytes; rw [hf]; rfl
    have HT := Lib.hid hT
    have HSM := Lib.hid (form_small hf)
    obtain ⟨r1, r2, r3, r4⟩ := form_range hf
    obtain ⟨cn', rfl⟩ := Int.eq_ofNat_of_zero_le r1
    obtain ⟨im', rfl⟩ := Int.eq_ofNat_of_zero_le r3
    clear hF htot hf hT
    have hMB := mb_new w cn' im' (.slice An ns.length cn) (.slice At ts.length ct) (.slice Ap ps.length cp)
    have hMB' : MB (w.alloc (.cells #[.int .i64 cn', .int .i64 im', .slice An ns.length cn, .slice At ts.length ct, .slice Ap ps.length cp] 26)).drew w.heap.size cn' im' (.slice An ns.length cn) (.slice At ts.length ct) (.slice Ap ps.length cp) := hMB
    have HMB := Lib.hid hMB'
    have bD := Lib.hid bW.out.drew
    clear hMB hMB'
    go_enter Tryd.func11, Tryd.ntmps11
    go_wp2_with fail
    refine (HF.out).mono ?_
    rintro e w1 ⟨rfl, rfl⟩
    clear HF
    go_wp2_with fail
    obtain ⟨q0, q1, q2, q3, q4⟩ := mb_facts HMB.out
    go_region_held3 (fun w' => w'.cell? ⟨w.heap.size, 0, none⟩ = some (.int .i64 cn') ∧ w'.cell? ⟨w.heap.size, 1, none⟩ = some (.int .i64 im'))
      (first | exact ⟨q0, q1⟩ | go_keep)
      (first
        | (go_at_call 28; refine (bigO_c2 (base := w.heap.size) O2.out B2.size (by simp [beB_len]) im' 2 (by omega) (by omega) _ 2 (by first | rfl | exact IntWalk.u64_in _ (by omega)) rfl).mono ?_; rintro e w3 ⟨v3, rfl, o3, b3, k3⟩; have B3 := B2.trans b3; have O3 := Lib.hid o3; have HMB3 := Lib.hid (mb_keeps HMB2.out k3); obtain ⟨q0, q1, q2, q3, q4⟩ := mb_facts HMB3.out; clear o3 b3 k3)
        | (go_at_call 28; refine (bigO_c2 (base := w.heap.size) (ob_nil _ _) bD.out.size (by simp) cn' 2 (by omega) (by omega) _ 2 (by first | rfl | exact IntWalk.u64_in _ (by omega)) rfl).mono ?_; rintro e w2 ⟨v2, rfl, o2, b2, k2⟩; have B2 := bD.out.trans b2; have O2 := Lib.hid o2; have HMB2 := Lib.hid (mb_keeps HMB.out k2); obtain ⟨q0, q1, q2, q3, q4⟩ := mb_facts HMB2.out; clear o2 b2 k2))
    go_wp2_with fail
    go_quiet (fail)
    go_wp2_with fail
    rw [show IntKind.u64.wrap (cn' : Int) = cn' from IntWalk.u64_in _ (by omega), show IntKind.u64.wrap (im' : Int) = im' from IntWalk.u64_in _ (by omega)]
    have HIB := Lib.hid (show w.heap.size ≤ w3.heap.size from B3.size)
    go_loopw [6, 7, 8, 9] (fun b n t tb wr => ∃ (pos : Nat) (pre : List UInt8) (ns' : List Int) (ts' : List ByteArray) (k : Nat) (A7 A8 : Option Addr) (c7 c8 : Nat), pos ≤ s.size ∧ n = .slice A7 ns'.length c7 ∧ t = .slice A8 ts'.length c8 ∧ tb = .int .i64 k ∧ Hid (k ≤ pos) ∧ Hid (EI w wr cn' im' (.slice An ns.length cn) (.slice At ts.length ct) (.slice Ap ps.length cp) w3.heap.size s ps total pos pre ns' ts' k b n t)) (fun _ _ _ _ wr => s.size - wr.iterPos w3.heap.size)
    case atStart =>
      exact ⟨0, beB cn' 2 ++ beB im' 2, ns, ts, 0, An, At, cn, ct, Nat.zero_le _, rfl, rfl, rfl, Lib.hid (Nat.le_refl _), Lib.hid ⟨(own_drew (O3.out)).alloc _, by have h := mb_keeps HMB3.out (keepsO_alloc w3 (.stringIter s 0)); exact h, World.iter_heap (w3.drewN nq) s 0, (B3.trans (below_drewN w3 nq |>.mono B3.size)).alloc B3.size _, HN.out, HTX.out, by simp [beB_len], by rw [HT.out]; rfl, HNS.out, HNL.out, HTL.out⟩⟩
    case round =>
      obtain ⟨pos, pre, ns', ts', k, A7, A8, c7, c8, hpos, rfl, rfl, rfl, HK, HE⟩ := hrel
      clear HT O3 O2 HMB2 HMB3 HMB B3 B2 bD bW HN HTX HNS q0 q1 q2 q3 q4
      by_cases hlt : pos < s.size
      · have hnx : ∀ ty, (Instr.next (.pointer (some ⟨w3.heap.size, 0, none⟩)) true ty).run Tryd.prog wr = .ok (.tuple #[.bool true, .int .i64 pos, .int .i32 (s[pos]'hlt).toNat]) (wr.iterAt w3.heap.size s (pos + 1)) := fun ty => Lib.run_next_ascii_at wr _ s pos ty HE.out.it hlt (small_at HSM.out hlt)
        obtain ⟨W, hW⟩ : ∃ W, W = wr.iterAt w3.heap.size s (pos + 1) := ⟨_, rfl⟩
        rw [← hW] at hnx
        have O1 := Lib.hid (show OB W _ _ _ by rw [hW]; exact own_iterAt HE.out.own HE.out.it (pos + 1))
        have M1 := Lib.hid (show MB W _ _ _ _ _ _ by rw [hW]; exact mb_iterAt HE.out.mb HE.out.it (pos + 1))
        have I1 := Lib.hid (show W.heap[w3.heap.size]? = some (.stringIter s (pos + 1)) by rw [hW]; exact Lib.iterAt_heap _ _ _ _ _ HE.out.it)
        have B1 := Lib.hid (show Below w.heap.size w W by rw [hW]; exact Lib.below_iterAt HE.out.bel HIB.out s (pos + 1))
        have hdr := drop_at hlt
        have hmeas := Lib.hid (iterPos_of HE.out.it)
        obtain ⟨x, hx⟩ : ∃ x : UInt8, x = s[pos] := ⟨_, rfl⟩
        rw [← hx] at hnx hdr
        have HDR := Lib.hid hdr
        have HPOS := Lib.hid hlt
        obtain ⟨z, hz⟩ : ∃ z, z = sizeOf' (x.toNat : Int) := ⟨_, rfl⟩
        have hSZ := sizes_c (w := W) (x.toNat : Int)
        rw [← hz] at hSZ
        have HSZC := Lib.hid hSZ
        have HZ := Lib.hid hz
        clear hW hdr hx hlt hz hSZ hpos
        by_cases hz0 : 0 < z
        · have hzI : (0 : Int) < z := by omega
          have HZI := Lib.hid hzI
          clear hz0
          cases ns' with
          | nil =>
            go_wp2_with (go_at_call 29; refine (HSZC.out).mono ?_; rintro e w5 ⟨rfl, rfl⟩)
            go_ret2
            exact encM_no (enc_num_nil HE.out.tot HDR.out HZ.out HZI.out) B1.out
          | cons n ns' =>
            obtain ⟨a7, rfl, hc0⟩ := ri_head HE.out.ri
            have hc := cell_below B1.out (World.block_lt_of_cell? w _ hc0) hc0
            have hz4 : z = 1 ∨ z = 2 ∨ z = 4 ∨ z = 8 := by rw [HZ.out]; rcases size_cases (x.toNat : Int) with e | e | e | e | e <;> (have := HZ.out; omega)
            have hFT := fits_c (w := W) n z hz4
            have HZ4 := Lib.hid hz4
            have hlen : ((ns'.length : Int) + 1 == 0) = false := beq_eq_false_iff_ne.2 (by omega)
            clear hc0 hz4
            cases hft : fitsB n z with
            | false =>
              rw [hft] at hFT
              have HFT := Lib.hid hFT
              have HFF := Lib.hid hft
              clear hFT hft
              go_wp2_with (first
                | (go_at_call 29; refine (HSZC.out).mono ?_; rintro e w5 ⟨rfl, rfl⟩)
                | (go_at_call 30; refine (HFT.out).mono ?_; rintro e w6 ⟨rfl, rfl⟩))
              go_ret2
              exact encM_no (enc_num_bad HE.out.tot HDR.out HZ.out HZI.out HFF.out) B1.out
            | true =>
              rw [hft] at hFT
              have HFT := Lib.hid hFT
              obtain ⟨hn0, hn1⟩ := fits_lt hft (HE.out.big n (List.mem_cons_self ..)) HZ4.out
              have HFF := Lib.hid hft
              obtain ⟨m, rfl⟩ := Int.eq_ofNat_of_zero_le hn0
              obtain ⟨A7', hsl, hri, hlc⟩ := ri_tail w HE.out.ri
              have HRI := Lib.hid hri
              have HM := Lib.hid (show m < 18446744073709551616 by have := HE.out.big _ (List.mem_cons_self ..); omega)
              have HPL := Lib.hid (show pre.length ≤ 70368744177664 by have := HE.out.len; have := HSM.out.1; have := HPOS.out; omega)
              clear hFT hft hn0 hn1 hri
              go_wp2_with (first
                | (go_at_call 28; refine (bigO_c2 (base := w.heap.size) O1.out B1.out.size HPL.out m z HM.out (by have := HZ4.out; omega) _ _ (by first | rfl | exact IntWalk.u64_in _ (by have := HM.out; omega)) rfl).mono ?_; rintro e w7 ⟨v7, rfl, o7, b7, k7⟩; have O7 := Lib.hid o7; have M7 := Lib.hid (mb_keeps M1.out k7); have I7 := Lib.hid (iter_keeps I1.out k7); have B7 := Lib.hid (B1.out.trans b7); clear o7 b7 k7)
                | (go_at_call 30; refine (HFT.out).mono ?_; rintro e w6 ⟨rfl, rfl⟩)
                | (go_at_call 29; refine (HSZC.out).mono ?_; rintro e w5 ⟨rfl, rfl⟩))
              go_roundw
              case rel =>
                exact ⟨pos + 1, pre ++ beB m z, ns', ts', k, A7', A8, c7 - 1, c8, HPOS.out, rfl, rfl, rfl, Lib.hid (Nat.le_succ_of_le HK.out), Lib.hid ⟨O7.out, M7.out, I7.out, B7.out, HRI.out, HE.out.rs, by have := HE.out.len; have := HZ4.out; simp only [List.length_append, beB_len]; omega, enc_num_ok HE.out.tot HDR.out HZ.out HZI.out HFF.out, fun y hy => HE.out.big y (List.mem_cons_of_mem _ hy), Nat.le_trans (Nat.le_succ _) HE.out.ln, HE.out.lt⟩⟩
              case measure =>
                rw [iterPos_of I7.out, hmeas.out]
                have := HPOS.out
                omega
        · have hz1 : z = 0 := by omega
          subst hz1
          clear hz0
          by_cases hx : x = 84
          · have HX := Lib.hid hx
            have hxI : ((x.toNat : Int) == 84) = true := by rw [hx]; rfl
            clear hx
            cases hv : validB ps with
            | false =>
              have HPB := Lib.hid (putBad_c (v := u6) (rc_below HP.out B1.out) HSZ.out hv)
              have HV := Lib.hid hv
              obtain ⟨_, _, _, _, m4⟩ := mb_facts M1.out
              clear hv
              go_wp2_with (first
                | (go_at_call 29; refine (HSZC.out).mono ?_; rintro e w5 ⟨rfl, rfl⟩)
                | (go_at_call 14; refine (HPB.out).mono ?_; rintro e w6 ⟨rfl, b6⟩))
              go_ret2
              exact encM_no (enc_tab_bad HE.out.tot HDR.out HZ.out rfl HX.out HV.out) (B1.out.trans (b6.mono B1.out.size))
            | true =>
              have HPL := Lib.hid (show pre.length ≤ 17592186044416 by have := HE.out.len; have := HSM.out.1; have := HPOS.out; omega)
              have HPB := Lib.hid (put_c (base := 0) (ob_rb O1.out) HPL.out (rc_below HP.out B1.out) HSZ.out HR.out hv)
              have HV := Lib.hid hv
              have HPP := Lib.hid (show (propsB ps).length ≤ 4448 by have l1 := propsB_len ps (valid_all hv); have m1 := valid_len hv; omega)
              obtain ⟨_, _, _, _, m4⟩ := mb_facts M1.out
              have hkI : (k : Int) ≤ 6 := by have := HK.out; have := HPOS.out; have := HSM.out.1; omega
              clear hv
              go_wp2_with (first
                | (go_at_call 29; refine (HSZC.out).mono ?_; rintro e w5 ⟨rfl, rfl⟩)
                | (go_at_call 14; refine (HPB.out).mono ?_; rintro e w6 ⟨v6, rfl, o6, b6⟩; have O6 := Lib.hid (own_lower o6 B1.out.size); have M6 := Lib.hid (mb_keeps M1.out (keepsO_below b6)); have I6 := Lib.hid (iter_keeps I1.out (keepsO_below b6)); have B6 := Lib.hid (B1.out.trans (b6.mono B1.out.size)); clear o6 b6))
              go_roundw
              case rel =>
                exact ⟨pos + 1, pre ++ (beB (propsB ps).length 4 ++ propsB ps), ns', ts', k + 1, A7, A8, c7, c8, HPOS.out, rfl, rfl, by go_num, Lib.hid (Nat.succ_le_succ HK.out), Lib.hid ⟨by have h := O6.out; rw [List.append_assoc] at h; exact h, M6.out, I6.out, B6.out, HE.out.ri, HE.out.rs, by have := HE.out.len; have := HPP.out; simp only [List.length_append, beB_len]; omega, enc_tab_ok HE.out.tot HDR.out HZ.out rfl HX.out HV.out, HE.out.big, HE.out.ln, HE.out.lt⟩⟩
              case measure =>
                rw [iterPos_of I6.out, hmeas.out]
                have := HPOS.out
                omega
          · have HX := Lib.hid hx
            have hxI : ((x.toNat : Int) == 84) = false := beq_eq_false_iff_ne.2 (fun e => hx (UInt8.toNat_inj.1 (by show x.toNat = 84; omega)))
            clear hx
            cases ts' with
            | nil =>
              go_wp2_with (go_at_call 29; refine (HSZC.out).mono ?_; rintro e w5 ⟨rfl, rfl⟩)
              go_ret2
              exact encM_no (enc_txt_nil HE.out.tot HDR.out HZ.out rfl HX.out) B1.out
            | cons y ts' =>
              obtain ⟨a8, rfl, hc0⟩ := rs_head HE.out.rs
              have hc := cell_below B1.out (World.block_lt_of_cell? w _ hc0) hc0
              have HC0 := Lib.hid hc0
              have hlen : ((ts'.length : Int) + 1 == 0) = false := beq_eq_false_iff_ne.2 (by omega)
              clear hc0
              by_cases hy : 1024 < y.size
              · have hyI : (1024 : Int) < y.size := by omega
                have HY := Lib.hid hy
                clear hy
                go_wp2_with (go_at_call 29; refine (HSZC.out).mono ?_; rintro e w5 ⟨rfl, rfl⟩)
                go_ret2
                exact encM_no (enc_txt_bad HE.out.tot HDR.out HZ.out rfl HX.out (fun h => by have := HY.out; omega)) B1.out
              · have hyI : (y.size : Int) ≤ 1024 := by omega
                have HY := Lib.hid hy
                clear hy
                obtain ⟨A8', hsl, hrs, hlc⟩ := rs_tail w HE.out.rs
                have HRS := Lib.hid hrs
                have HPL := Lib.hid (show pre.length ≤ 70368744177664 by have := HE.out.len; have := HSM.out.1; have := HPOS.out; omega)
                clear hrs
                by_cases hs : x = 115
                · have HS := Lib.hid hs
                  have hsI : ((x.toNat : Int) == 115) = true := by rw [hs]; rfl
                  clear hs
                  by_cases hy2 : 255 < y.size
                  · have hy2I : (255 : Int) < y.size := by omega
                    have HY2 := Lib.hid hy2
                    clear hy2 hsl
                    go_wp2_with (go_at_call 29; refine (HSZC.out).mono ?_; rintro e w5 ⟨rfl, rfl⟩)
                    go_ret2
                    exact encM_no (enc_txt_bad HE.out.tot HDR.out HZ.out rfl HX.out (fun h => by have := HY2.out; have := h.2 HS.out; omega)) B1.out
                  · have hy2I : (y.size : Int) ≤ 255 := by omega
                    have HY2 := Lib.hid hy2
                    clear hy2
                    go_upto_region 15 with (go_at_call 29; refine (HSZC.out).mono ?_; rintro e w5 ⟨rfl, rfl⟩)
                    have OD := Lib.hid (show OB W.drew w.heap.size u6 pre from own_drew O1.out)
                    have MD := Lib.hid (show MB W.drew w.heap.size cn' im' (.slice An ns.length cn) (.slice At ts.length ct) (.slice Ap ps.length cp) from M1.out)
                    have ID := Lib.hid (show W.drew.heap[w3.heap.size]? = some (.stringIter s (pos + 1)) from I1.out)
                    have BD := Lib.hid (show Below w.heap.size w W.drew from B1.out.drew)
                    have q8 : W.drew.cell? a8 = some (.string y) := hc
                    go_region_held3 (fun w' => w'.cell? a8 = some (.string y))
                      (first | exact q8 | go_keep)
                      (first
                        | (refine step_app_s (w0 := w) (base := w.heap.size) (l := pre ++ beB y.size 1) rfl (.tmp 75) (.tmp 78) rfl y rfl rfl O5.out B5.out B5.out.size (by have := HE.out.len; have := HSM.out.1; have := HPOS.out; have := HY.out; simp only [List.length_append, beB_len]; omega) ?_; intro v7 w7 o7 B7 g7; have O7 := Lib.hid o7; have M7 := Lib.hid (mb_keeps M5.out (keepsO_grown O5.out g7)); have I7 := Lib.hid (iter_keeps I5.out (keepsO_grown O5.out g7)); have q8 := cell_below B7 (World.block_lt_of_cell? w _ HC0.out) HC0.out; clear o7 g7)
                        | (go_at_call 28; refine (bigO_c2 (base := w.heap.size) OD.out BD.out.size HPL.out y.size 1 (by have := HY.out; omega) (by omega) _ 1 (by first | rfl | exact IntWalk.u64_in _ (by have := HY.out; omega)) rfl).mono ?_; rintro e w5 ⟨v5, rfl, o5, b5, k5⟩; have O5 := Lib.hid o5; have M5 := Lib.hid (mb_keeps MD.out k5); have I5 := Lib.hid (iter_keeps ID.out k5); have B5 := Lib.hid (BD.out.trans b5); have q8 := cell_below B5.out (World.block_lt_of_cell? w _ HC0.out) HC0.out; clear o5 b5 k5))
                    go_wp2
                    go_roundw
                    case rel =>
                      exact ⟨pos + 1, pre ++ (beB y.size (if x = 115 then 1 else 4) ++ y.data.toList), ns', ts', k, A7, A8', c7, c8 - 1, HPOS.out, rfl, rfl, rfl, Lib.hid (Nat.le_succ_of_le HK.out), Lib.hid ⟨by have h := O7.out; rw [List.append_assoc] at h; rw [if_pos HS.out]; exact h, M7.out, I7.out, B7, HE.out.ri, HRS.out, by have := HE.out.len; have := HY.out; rw [if_pos HS.out]; simp only [List.length_append, beB_len, ba_size]; omega, enc_txt_ok HE.out.tot HDR.out HZ.out rfl HX.out ⟨by have := HY.out; omega, fun _ => by have := HY2.out; omega⟩, HE.out.big, HE.out.ln, Nat.le_trans (Nat.le_succ _) HE.out.lt⟩⟩
                    case measure =>
                      rw [iterPos_of I7.out, hmeas.out]
                      have := HPOS.out
                      omega
                · have HS := Lib.hid hs
                  have hsI : ((x.toNat : Int) == 115) = false := beq_eq_false_iff_ne.2 (fun e => hs (UInt8.toNat_inj.1 (by show x.toNat = 115; omega)))
                  clear hs
                  go_upto_region 15 with (go_at_call 29; refine (HSZC.out).mono ?_; rintro e w5 ⟨rfl, rfl⟩)
                  have OD := Lib.hid (show OB W.drew w.heap.size u6 pre from own_drew O1.out)
                  have MD := Lib.hid (show MB W.drew w.heap.size cn' im' (.slice An ns.length cn) (.slice At ts.length ct) (.slice Ap ps.length cp) from M1.out)
                  have ID := Lib.hid (show W.drew.heap[w3.heap.size]? = some (.stringIter s (pos + 1)) from I1.out)
                  have BD := Lib.hid (show Below w.heap.size w W.drew from B1.out.drew)
                  have q8 : W.drew.cell? a8 = some (.string y) := hc
                  go_region_held3 (fun w' => w'.cell? a8 = some (.string y))
                    (first | exact q8 | go_keep)
                    (first
                      | (refine step_app_s (w0 := w) (base := w.heap.size) (l := pre ++ beB y.size 4) rfl (.tmp 75) (.tmp 78) rfl y rfl rfl O5.out B5.out B5.out.size (by have := HE.out.len; have := HSM.out.1; have := HPOS.out; have := HY.out; simp only [List.length_append, beB_len]; omega) ?_; intro v7 w7 o7 B7 g7; have O7 := Lib.hid o7; have M7 := Lib.hid (mb_keeps M5.out (keepsO_grown O5.out g7)); have I7 := Lib.hid (iter_keeps I5.out (keepsO_grown O5.out g7)); have q8 := cell_below B7 (World.block_lt_of_cell? w _ HC0.out) HC0.out; clear o7 g7)
                      | (go_at_call 28; refine (bigO_c2 (base := w.heap.size) OD.out BD.out.size HPL.out y.size 4 (by have := HY.out; omega) (by omega) _ 4 (by first | rfl | exact IntWalk.u64_in _ (by have := HY.out; omega)) rfl).mono ?_; rintro e w5 ⟨v5, rfl, o5, b5, k5⟩; have O5 := Lib.hid o5; have M5 := Lib.hid (mb_keeps MD.out k5); have I5 := Lib.hid (iter_keeps ID.out k5); have B5 := Lib.hid (BD.out.trans b5); have q8 := cell_below B5.out (World.block_lt_of_cell? w _ HC0.out) HC0.out; clear o5 b5 k5))
                  go_wp2
                  go_roundw
                  case rel =>
                    exact ⟨pos + 1, pre ++ (beB y.size (if x = 115 then 1 else 4) ++ y.data.toList), ns', ts', k, A7, A8', c7, c8 - 1, HPOS.out, rfl, rfl, rfl, Lib.hid (Nat.le_succ_of_le HK.out), Lib.hid ⟨by have h := O7.out; rw [List.append_assoc] at h; rw [if_neg HS.out]; exact h, M7.out, I7.out, B7, HE.out.ri, HRS.out, by have := HE.out.len; have := HY.out; rw [if_neg HS.out]; simp only [List.length_append, beB_len, ba_size]; omega, enc_txt_ok HE.out.tot HDR.out HZ.out rfl HX.out ⟨by have := HY.out; omega, fun h => absurd h HS.out⟩, HE.out.big, HE.out.ln, Nat.le_trans (Nat.le_succ _) HE.out.lt⟩⟩
                  case measure =>
                    rw [iterPos_of I7.out, hmeas.out]
                    have := HPOS.out
                    omega
      · have hnx : ∀ ty, (Instr.next (.pointer (some ⟨w3.heap.size, 0, none⟩)) true ty).run Tryd.prog wr = .ok (.tuple #[.bool false]) wr := fun ty => Lib.run_next_end_at wr _ s pos ty HE.out.it hlt
        have hnil : s.data.toList.drop pos = [] := List.drop_eq_nil_of_le (by rw [ba_size]; omega)
        have HEN := Lib.hid (enc_end HE.out.tot hnil)
        obtain ⟨_, _, _, _, m4⟩ := mb_facts HE.out.mb
        clear hlt hnil
        cases ns' with
        | cons n ns' =>
          have h1 : (ns'.length : Int) + 1 ≤ 140737488351232 := by have := HE.out.ln; simp only [List.length_cons] at this; omega
          have h2 : (ts'.length : Int) ≤ 140737488351232 := by have := HE.out.lt; omega
          have h3 : (0 : Int) ≤ ts'.length := by omega
          have h4 : (0 : Int) ≤ ns'.length := by omega
          have h5 : (0 : Int) < (ns'.length : Int) + 1 + ts'.length := by omega
          go_wp2_with fail
          go_ret2
          exact encM_no (by rw [HEN.out]; simp) HE.out.bel
        | nil =>
          cases ts' with
          | cons t ts' =>
            have h1 : (ts'.length : Int) + 1 ≤ 140737488351232 := by have := HE.out.lt; simp only [List.length_cons] at this; omega
            have h3 : (0 : Int) ≤ ts'.length := by omega
            have h5 : (0 : Int) < (ts'.length : Int) + 1 := by omega
            go_wp2_with fail
            go_ret2
            exact encM_no (by rw [HEN.out]; simp) HE.out.bel
          | nil =>
            by_cases hk0 : k = 0
            · subst hk0
              cases ps with
              | nil =>
                go_wp2_with fail
                go_ret2
                exact encM_yes (by rw [HEN.out]; simp) HE.out.bel HE.out.own
              | cons p ps =>
                have h5 : (0 : Int) < (ps.length : Int) + 1 := by omega
                go_wp2_with fail
                go_ret2
                exact encM_no (by rw [HEN.out]; simp) HE.out.bel
            · have hkb : ((k : Int) == 0) = false := beq_eq_false_iff_ne.2 (by omega)
              have HK0 := Lib.hid hk0
              clear hk0
              go_wp2_with fail
              go_ret2
              exact encM_yes (by rw [HEN.out]; simp [HK0.out]) HE.out.bel HE.out.own
end Go.Proofs.YteigbejidfkhpaaDoor

/- Layer 15's statements: wakes. -/
namespace Go.Proofs.YteigbejidfkhpaaDoor
open Go Go.RowKit
set_option linter.unusedSimpArgs false
set_option linter.unusedVariables false

def wkP : Prp := ⟨⟨#[97]⟩, 2, 1, ByteArray.empty, 0⟩
theorem wkP_v : validB [wkP] = true := by decide +kernel
theorem wkP_b : (⟨([] ++ beB (propsB [wkP]).length 4 ++ propsB [wkP]).toArray⟩ : ByteArray) = ⟨#[0, 0, 0, 4, 1, 97, 116, 1]⟩ := by decide +kernel
theorem wkM_b : Mth.bytes ⟨60, 80, [5, 0], [], []⟩ = some [0, 60, 0, 80, 0, 0, 0, 0, 0, 0, 0, 5, 0] := by decide +kernel
theorem rpr_one (w : World) (p : Prp) : RPr (w.alloc (.cells #[.string p.nm, .int .i64 p.k, .int .i64 p.n, .string p.t, .float .f64 p.r] 48)) (.slice (some ⟨w.heap.size, 0, none⟩) 1 1) [p] :=
  rc_new w 48 1 5 (Prp.cells p) rfl (by omega)
theorem ri_two (w : World) (a b : Int) : RI (w.alloc (.cells #[.int .i64 a, .int .i64 b] 3)) (.slice (some ⟨w.heap.size, 0, none⟩) 2 2) [a, b] :=
  rc_new w 3 2 1 [.int .i64 a, .int .i64 b] rfl (by omega)
theorem rs_nil (w : World) : RS w (.slice none 0 0) [] := own_rc (own_nil w 0 9 1)
theorem rpr_nil (w : World) : RPr w (.slice none 0 0) [] := own_rc (own_nil w 0 48 5)

set_option maxRecDepth 100000 in
set_option maxHeartbeats 2000000 in
theorem wakes_c {w : World} : Calls Tryd.prog 9 #[] w fun e w' => e = .returned (.bool true) ∧ Below w.heap.size w w' := by
  have bW := (Below.refl w.heap.size w).alloc (Nat.le_refl _) (.cells #[.string ⟨#[97]⟩, .int .i64 2, .int .i64 1, .string ByteArray.empty, .float .f64 0] 48)
  have HP := Lib.hid (rpr_one w wkP)
  go_enter Tryd.func9, Tryd.ntmps9
  go_wp2_with fail
  refine (put_c (base := 0) (ob_rb (ob_nil _ 0)) (by simp) HP.out (by decide) (by decide) wkP_v).mono ?_
  rintro e w1 ⟨v1, rfl, o1, b1⟩
  have O1 := Lib.hid o1
  have B1 := bW.trans (b1.mono bW.size)
  clear o1 b1
  go_wp2_with fail
  refine (tEncode_c 60 80 [5, 0] [] [] (ri_two w1 5 0) (rs_nil _) (rpr_nil _) (by simp) (by simp) (by simp) (by simp) (by simp)).mono ?_
  rw [wkM_b]
  rintro e w2 ⟨b2, v2, rfl, o2⟩
  have O2 := Lib.hid o2
  have b3 := ((Below.refl w1.heap.size w1).alloc (Nat.le_refl _) (.cells #[.int .i64 5, .int .i64 0] 3))
  have b4 := b3.trans (b2.mono b3.size)
  have hc1 := rb_string (rb_below (ob_rb O1.out) (b4.mono (by first | exact Nat.le_refl _ | omega)))
  have hc2 := rb_string (ob_rb O2.out)
  rw [wkP_b] at hc1
  have B4 := B1.trans (b4.mono B1.size)
  clear o2 b2 b3 b4 bW
  go_wp2_with fail
  go_ret
  exact ⟨rfl, B4⟩
end Go.Proofs.YteigbejidfkhpaaDoor

/- Data that came in, opened whole: structs, slices, slices in structs in slices. -/
namespace Go.Proofs.YteigbejidfkhpaaDoor
open Go Go.RowKit
open Go.ChangeShapes Go.WideShapes Go.Deep
set_option linter.unusedSimpArgs false
set_option linter.unusedVariables false

section
variable {H : Type} (enc : TypeId × Value → H) (P : Program) (W : World)
/-- Data of type t: s cells, which are f of some x that is Good. -/
def Opn (t : TypeId) (s : Nat) {X : Type} (f : X → List Value) (Good : X → Prop) : Prop :=
  P.cellsOf t = s ∧ (∀ x, (f x).length = s) ∧ ∀ (n : Nat) (cs : List Value) (y : DataW H × List MemPlace), DataW.trod enc P W 0 (fun _ => true) true n t cs = some y → cs.length = s → (DataW.weights P t y.1).all (· ≤ reachBytes) = true → ∃ x, cs = f x ∧ Good x
/-- Fields, from an offset on. -/
def OpnF (fs : List Field) (off sz : Nat) {X : Type} (f : X → List Value) (Good : X → Prop) : Prop :=
  (∀ x, (f x).length = sz) ∧ ∀ (n : Nat) (cs : List Value) (ys : List (DataW H × List MemPlace)), ys.length = fs.length → (∀ (i : Nat) (fl : Field), fs[i]? = some fl → DataW.trod enc P W 0 (fun _ => true) true n fl.type ((cs.drop fl.offset).take (P.cellsOf fl.type)) = ys[i]?) → cs.length = off + sz →
    (DataW.weightsEach P (fs.map (·.type)) (ys.map (·.1))).all (· ≤ reachBytes) = true → ∃ x, cs.drop off = f x ∧ Good x
end

section
variable {H : Type} {enc : TypeId × Value → H} {P : Program} {W : World}
theorem Opn.map {t : TypeId} {s : Nat} {X Y : Type} {f : X → List Value} {Good : X → Prop} (h : Opn enc P W t s f Good) (g : X → Y) (f' : Y → List Value) (Good' : Y → Prop) (hl : ∀ y, (f' y).length = s) (hf : ∀ x, f x = f' (g x)) (hg : ∀ x, Good x → Good' (g x)) : Opn enc P W t s f' Good' :=
  ⟨h.1, hl, fun n cs y hy hc hw => by
    obtain ⟨x, h1, h2⟩ := h.2.2 n cs y hy hc hw
    exact ⟨g x, by rw [h1, hf], hg x h2⟩⟩
theorem opnF_nil (off : Nat) : OpnF enc P W [] off 0 (fun _ : Unit => []) (fun _ => True) :=
  ⟨fun _ => rfl, fun n cs ys _ _ hc _ => ⟨(), List.drop_eq_nil_of_le (by omega), trivial⟩⟩
theorem opnF_cons {fl : Field} {fs : List Field} {off s sz : Nat} {X Y : Type} {f : X → List Value} {g : Y → List Value} {Good : X → Prop} {Good' : Y → Prop} (h : Opn enc P W fl.type s f Good) (ho : fl.offset = off) (hr : OpnF enc P W fs (off + s) sz g Good') :
    OpnF enc P W (fl :: fs) off (s + sz) (fun p : X × Y => f p.1 ++ g p.2) (fun p => Good p.1 ∧ Good' p.2) := by
  refine ⟨fun p => by rw [List.length_append, h.2.1, hr.1], fun n cs ys hl hf hc hw => ?_⟩
  match ys, hl with
  | y :: ys, hl =>
    simp only [List.map_cons, DataW.weightsEach, List.all_append, Bool.and_eq_true] at hw
    have h0 := hf 0 fl rfl
    simp only [List.getElem?_cons_zero] at h0
    rw [h.1, ho] at h0
    obtain ⟨x, hx, gx⟩ := h.2.2 n _ y h0 (by rw [List.length_take, List.length_drop]; omega) hw.1
    obtain ⟨z, hz, gz⟩ := hr.2 n cs ys (by simpa using hl) (fun i fl' hi => by have := hf (i + 1) fl' (by simpa using hi); simpa using this) (by omega) hw.2
    exact ⟨(x, z), by show _ = f x ++ g z; rw [← hx, ← hz, ← List.drop_drop, List.take_append_drop], gx, gz⟩
theorem opn_struct {t : TypeId} {fs : Array Field} {sz : Nat} {X : Type} {f : X → List Value} {Good : X → Prop} (hs : P.underlying t = some (.struct fs)) (hc : P.cellsOf t = sz) (h : OpnF enc P W fs.toList 0 sz f Good) : Opn enc P W t sz f Good := by
  refine ⟨hc, h.1, fun n cs y hy hl hw => ?_⟩
  obtain ⟨xs, n', _, rfl, _, hlen, hf⟩ := DataW.trod_struct hs hy
  have hw' : (DataW.weightsEach P (fs.toList.map (·.type)) (xs.map (·.1))).all (· ≤ reachBytes) = true := by
    simpa only [DataW.weights, hs] using hw
  obtain ⟨x, hx, gx⟩ := h.2 n' cs xs (by rw [Array.length_toList]; exact hlen) (fun i fl hi => hf i fl (by simpa using hi)) (by omega) hw'
  exact ⟨x, by simpa using hx, gx⟩
theorem opn_int {t : TypeId} {k : IntKind} (hu : P.underlying t = some (.int k)) (hc : P.cellsOf t = 1) : Opn enc P W t 1 (fun n : Int => [.int k n]) (fun n => (Lit.int k n).wf = true) :=
  ⟨hc, fun _ => rfl, fun n cs y hy _ _ => by
    obtain ⟨z, h1, _, h2⟩ := DataW.trod_int hu hy
    exact ⟨z, h1, h2⟩⟩
theorem opn_bool {t : TypeId} (hu : P.underlying t = some .bool) (hc : P.cellsOf t = 1) : Opn enc P W t 1 (fun b : Bool => [.bool b]) (fun _ => True) :=
  ⟨hc, fun _ => rfl, fun n cs y hy _ _ => by
    obtain ⟨z, h1, _⟩ := DataW.trod_bool hu hy
    exact ⟨z, h1, trivial⟩⟩
theorem opn_string {t : TypeId} (hu : P.underlying t = some .string) (hc : P.cellsOf t = 1) : Opn enc P W t 1 (fun s : ByteArray => [.string s]) (fun s => s.size ≤ 140737488351232) :=
  ⟨hc, fun _ => rfl, fun n cs y hy _ hw => by
    obtain ⟨z, h1, rfl, _⟩ := DataW.trod_string hu hy
    refine ⟨z, h1, ?_⟩
    simp only [DataW.weights, List.all_cons, List.all_nil, Bool.and_true, decide_eq_true_eq, Array.length_toList] at hw
    exact hw⟩
theorem opn_float {t : TypeId} (hu : P.underlying t = some (.float .f64)) (hc : P.cellsOf t = 1) : Opn enc P W t 1 (fun r : Nat => [.float .f64 r]) (fun r => r < 18446744073709551616) :=
  ⟨hc, fun _ => rfl, fun n cs y hy _ _ => by
    cases n with
    | zero => simp [DataW.trod] at hy
    | succ n =>
      unfold DataW.trod at hy
      rw [hu] at hy
      split at hy
      all_goals first
        | (simp_all [Lit.wf]; done)
        | (rename_i k' b heq _
           injection heq with heq
           injection heq with heq
           subst heq
           split at hy
           · rename_i hc2
             obtain ⟨rfl, hb⟩ := hc2
             exact ⟨b, rfl, by simpa [Lit.wf] using hb⟩
           · cases hy)⟩
theorem weightsAll_mem {e : TypeId} : ∀ {l : List (DataW H)} {d : DataW H}, d ∈ l → ∀ n ∈ d.weights P e, n ∈ DataW.weightsAll P e l
  | d' :: r, d, hd, n, hn => by
    simp only [DataW.weightsAll, List.mem_append]
    rcases List.mem_cons.1 hd with rfl | h
    · exact Or.inl hn
    · exact Or.inr (weightsAll_mem h n hn)
/-- v reads as the row xs of good elements. -/
def RowOf (P : Program) (W : World) (e : TypeId) (s : Nat) {X : Type} (f : X → List Value) (Good : X → Prop) (v : Value) : Prop :=
  ∃ xs : List X, RC W v xs.length s (xs.flatMap f) ∧ (∀ x ∈ xs, Good x) ∧ xs.length * P.bytesOf e ≤ 140737488351232
theorem opn_slice {t e : TypeId} {s : Nat} {X : Type} {f : X → List Value} {Good : X → Prop} (hs : 0 < s) (hu : P.underlying t = some (.slice e)) (hct : P.cellsOf t = 1) (he : Opn enc P W e s f Good) :
    Opn enc P W t 1 (fun v : Value => [v]) (RowOf P W e s f Good) := by
  obtain ⟨hc, hf, hel⟩ := he
  refine ⟨hct, fun _ => rfl, fun fuel cs y hy hl hw => ?_⟩
  rcases open_slice hu hy with ⟨hcs, _⟩ | ⟨a, len, cap, m, n, D, Pl, hcs, _, hlen', hm, hmm, hx, hi⟩
  · refine ⟨_, hcs, [], ⟨none, 0, rfl, Nat.le_refl _, by omega, by simp, fun _ => rfl, fun j u hu => ?_⟩, fun n hn => absurd hn (by simp), by simp⟩
    simp at hu
  · simp only [if_true] at hmm
    subst hmm
    subst hx
    refine ⟨_, hcs, ?_⟩
    simp only [DataW.weights, hu, List.all_cons, List.all_append, Bool.and_eq_true, decide_eq_true_eq] at hw
    obtain ⟨hw0, hw1, _⟩ := hw
    simp only [List.length_map, List.length_range] at hw0
    have key : ∀ i : Fin len, ∃ y, W.cells? 0 (a.add (i.1 * s)) s = some (f y) ∧ Good y := by
      intro i
      obtain ⟨cs', h1, h2⟩ := hi i.1 (by omega)
      rw [hc] at h1
      obtain ⟨y, rfl, hg⟩ := hel n cs' _ h2 (World.cells?_some h1).2.1 (List.all_eq_true.2 fun k hk => List.all_eq_true.1 hw1 k (weightsAll_mem (List.mem_map.2 ⟨i.1, List.mem_range.2 i.2, rfl⟩) k hk))
      exact ⟨y, h1, hg⟩
    have hlen : (List.ofFn fun i : Fin len => Classical.choose (key i)).length = len := by simp
    refine ⟨List.ofFn fun i : Fin len => Classical.choose (key i), ?_, ?_, ?_⟩
    · rw [hlen]
      refine ⟨some a, _, rfl, hlen', by simpa [maxLen] using hm, by rw [flat_len f s hf, hlen], (fun h => by cases h), fun q u hq => ⟨a, rfl, ?_⟩⟩
      rw [flat_get f s hs hf] at hq
      obtain ⟨y, hy, hq⟩ := Option.bind_eq_some_iff.1 hq
      have hql : q / s < len := by
        have := (List.getElem?_eq_some_iff.1 hy).1
        rwa [hlen] at this
      have hye : y = Classical.choose (key ⟨q / s, hql⟩) := by
        rw [List.getElem?_ofFn] at hy
        simp only [hql, dite_true, Option.some.injEq] at hy
        exact hy.symm
      have hk := (Classical.choose_spec (key ⟨q / s, hql⟩)).1
      rw [← hye] at hk
      have := (World.cells?_some hk).2.2 (q % s) (Nat.mod_lt _ hs)
      rw [add_add] at this
      rw [Nat.div_add_mod' q s] at this
      rw [this]
      exact hq
    · intro y hy
      rw [List.mem_ofFn] at hy
      obtain ⟨i, rfl⟩ := hy
      exact (Classical.choose_spec (key i)).2
    · rw [hlen]
      refine Nat.le_trans (Nat.mul_le_mul_right _ ?_) hw0
      omega
/-- A parameter that is a struct, by value. -/
theorem open_agg {t : TypeId} {fs : Array Field} {s base : Nat} {X : Type} {f : X → List Value} {Good : X → Prop} {v : Value} {d : DataW H} {p : List MemPlace} {ts : List TypeId} {ds : List (DataW H)} (hO : Opn enc P W t s f Good) (hs : P.underlying t = some (.struct fs)) (hv : Value.okWide P W .any base t v)
    (h : DataW.Trod enc P W 0 (fun _ => true) true t v d p) (hsz : (DataW.weightsEach P ts ds).all (· ≤ reachBytes) = true) (j : Nat) (ht : ts[j]? = some t) (hd : ds[j]? = some d) : ∃ x, v = .agg (f x).toArray ∧ Good x := by
  obtain ⟨cs, rfl, hz⟩ := okWide_struct hs hv
  obtain ⟨fuel, hf⟩ := h
  obtain ⟨x, hx, hg⟩ := hO.2.2 fuel _ _ hf (by rw [hO.1] at hz; simpa [Value.cells] using hz) (List.all_eq_true.2 fun k hk => List.all_eq_true.1 hsz k (DataW.weights_mem_each ht hd k hk))
  refine ⟨x, ?_, hg⟩
  rw [← hx]
  simp [Value.cells]
/-- A parameter that is a slice. -/
theorem open_sl {t e : TypeId} {s base : Nat} {X : Type} {f : X → List Value} {Good : X → Prop} {v : Value} {d : DataW H} {p : List MemPlace} {ts : List TypeId} {ds : List (DataW H)} (h0 : 0 < s) (hu : P.underlying t = some (.slice e)) (hct : P.cellsOf t = 1) (hO : Opn enc P W e s f Good) (hv : Value.okWide P W .any base t v)
    (h : DataW.Trod enc P W 0 (fun _ => true) true t v d p) (hsz : (DataW.weightsEach P ts ds).all (· ≤ reachBytes) = true) (j : Nat) (ht : ts[j]? = some t) (hd : ds[j]? = some d) : RowOf P W e s f Good v := by
  obtain ⟨a, len, cap, rfl⟩ := okWide_slice hu hv
  obtain ⟨fuel, hf⟩ := h
  obtain ⟨x, hx, hg⟩ := (opn_slice h0 hu hct hO).2.2 fuel _ _ hf (by simp [Value.cells]) (List.all_eq_true.2 fun k hk => List.all_eq_true.1 hsz k (DataW.weights_mem_each ht hd k hk))
  have e1 : Value.slice a len cap = x := by simpa [Value.cells] using hx
  rw [e1]
  exact hg
end
end Go.Proofs.YteigbejidfkhpaaDoor

/- Properties that came in. -/
namespace Go.Proofs.YteigbejidfkhpaaDoor
open Go Go.RowKit
open Go.ChangeShapes Go.WideShapes Go.Deep
set_option linter.unusedSimpArgs false
set_option linter.unusedVariables false

section
variable {H : Type} {enc : TypeId × Value → H} {W : World}
theorem opn_i64 {t : TypeId} (hu : Tryd.prog.underlying t = some (.int .i64)) (hc : Tryd.prog.cellsOf t = 1) : Opn enc Tryd.prog W t 1 (fun n : Int => [.int .i64 n]) (fun n => -9223372036854775808 ≤ n ∧ n ≤ 9223372036854775807) :=
  (opn_int hu hc).map id _ _ (fun _ => rfl) (fun _ => rfl) (fun x hx => wf_i64 hx)
/-- What a property that came in is good for. -/
def Prp.came (p : Prp) : Prop := p.nm.size ≤ 140737488351232 ∧ p.t.size ≤ 140737488351232 ∧ p.r < 18446744073709551616 ∧ (-9223372036854775808 ≤ p.n ∧ p.n ≤ 9223372036854775807) ∧ (-9223372036854775808 ≤ p.k ∧ p.k ≤ 9223372036854775807)
theorem opn_prop : Opn enc Tryd.prog W 48 5 Prp.cells Prp.came :=
  (opn_struct Tryd.underlying48 (by kernel_rfl) (opnF_cons (opn_string Tryd.underlying9 (by kernel_rfl)) rfl (opnF_cons
    (opn_struct Tryd.underlying46 (by kernel_rfl) (opnF_cons (opn_i64 Tryd.underlying3 (by kernel_rfl)) rfl (opnF_cons (opn_i64 Tryd.underlying3 (by kernel_rfl)) rfl (opnF_cons (opn_string Tryd.underlying9 (by kernel_rfl)) rfl (opnF_cons (opn_float Tryd.underlying41 (by kernel_rfl)) rfl (opnF_nil _)))))) rfl (opnF_nil _)))).map
    (fun x => ⟨x.1, x.2.1.1, x.2.1.2.1, x.2.1.2.2.1, x.2.1.2.2.2.1⟩) _ _ (fun _ => rfl) (fun _ => rfl) (fun x hx => ⟨hx.1, hx.2.1.2.2.1, hx.2.1.2.2.2.1, hx.2.1.2.1, hx.2.1.1⟩)

theorem flat_one {X : Type} (g : X → Value) (xs : List X) : xs.flatMap (fun x => [g x]) = xs.map g := by
  induction xs with
  | nil => rfl
  | cons a r ih => simp [List.flatMap_cons, ih]
set_option maxRecDepth 100000 in
theorem open_props {v : Value} {base : Nat} {d : DataW H} {p : List MemPlace} {ts : List TypeId} {ds : List (DataW H)} (hv : Value.okWide Tryd.prog W .any base 24 v) (h : DataW.Trod enc Tryd.prog W 0 (fun _ => true) true 24 v d p)
    (hsz : (DataW.weightsEach Tryd.prog ts ds).all (· ≤ reachBytes) = true) (j : Nat) (ht : ts[j]? = some 24) (hd : ds[j]? = some d) :
    ∃ ps : List Prp, RPr W v ps ∧ ∀ p ∈ ps, p.came := by
  obtain ⟨ps, r, g, _⟩ := open_sl (by omega) Tryd.underlying24 (by kernel_rfl) opn_prop hv h hsz j ht hd
  exact ⟨ps, r, g⟩
end
end Go.Proofs.YteigbejidfkhpaaDoor

/- TableTables: the statement's walk. -/
namespace Go.Proofs.YteigbejidfkhpaaDoor
open Go Go.RowKit
set_option linter.unusedSimpArgs false
set_option linter.unusedVariables false

/-- What Put leaves: bytes and an error, told by the list alone. -/
def putL (l : List UInt8) (ps : List Prp) : List UInt8 := if validB ps = true then l ++ beB (propsB ps).length 4 ++ propsB ps else []
def putE (ps : List Prp) : Int := if validB ps = true then 0 else 36
def PutV (w : World) (l : List UInt8) (ps : List Prp) (e : Ending) (w' : World) : Prop :=
  ∃ v, e = .returned (.tuple #[v, .int .i64 (putE ps)]) ∧ RB w' v (putL l ps) ∧ Below w.heap.size w w'
theorem putV_c {w : World} {v vl : Value} {l : List UInt8} {ps : List Prp} (h : RB w v l) (hl : l.length ≤ 17592186044416) (hp : RPr w vl ps) (hc : ∀ p ∈ ps, p.came) :
    Calls Tryd.prog 14 #[v, vl] w (PutV w l ps) := by
  cases hv : validB ps with
  | true =>
    refine (put_c (base := 0) h hl hp (fun p hp => (hc p hp).1) (fun p hp => (hc p hp).2.2.1) hv).mono ?_
    rintro e w' ⟨v', rfl, o, b⟩
    exact ⟨v', by unfold putE; rw [if_pos hv], by unfold putL; rw [if_pos hv]; exact ob_rb o, b⟩
  | false =>
    refine (putBad_c hp (fun p hp => (hc p hp).1) hv).mono ?_
    rintro e w' ⟨rfl, b⟩
    exact ⟨_, by unfold putE; rw [hv]; rfl, by unfold putL; rw [hv]; exact ob_rb (ob_nil w' 0), b⟩
theorem refPutV_c {w : World} {v vl : Value} {l : List UInt8} {ps : List Prp} (h : RB w v l) (hl : l.length ≤ 17592186044416) (hp : RPr w vl ps) (hc : ∀ p ∈ ps, p.came) :
    Calls Tryd.prog 15 #[v, vl] w (PutV w l ps) := by
  cases hv : validB ps with
  | true =>
    refine (refPut_c (base := 0) h hl hp (fun p hp => (hc p hp).1) (fun p hp => (hc p hp).2.2.1) hv).mono ?_
    rintro e w' ⟨v', rfl, o, b⟩
    exact ⟨v', by unfold putE; rw [if_pos hv], by unfold putL; rw [if_pos hv]; exact ob_rb o, b⟩
  | false =>
    refine (refPutBad_c hp (fun p hp => ⟨(hc p hp).1, (hc p hp).2.2.1⟩) hv).mono ?_
    rintro e w' ⟨rfl, b⟩
    exact ⟨_, by unfold putE; rw [hv]; rfl, by unfold putL; rw [hv]; exact ob_rb (ob_nil w' 0), b⟩
/-- What Take leaves, without cases. -/
def tkL (s : ByteArray) : List Prp := match tableP s with | some (ps, _) => ps | none => []
def tkN (s : ByteArray) : Int := match tableP s with | some (_, r) => (s.size : Int) - r.size | none => 0
def tkE (s : ByteArray) : Int := match tableP s with | some _ => 0 | none => 11
theorem takeV {w w' : World} {s : ByteArray} {e : Ending} (h : TakePost w s e w') : ∃ v, e = .returned (.tuple #[v, .int .i64 (tkN s), .int .i64 (tkE s)]) ∧ RPr w' v (tkL s) ∧ Below w.heap.size w w' := by
  obtain ⟨b, h⟩ := h
  unfold tkN tkE tkL
  cases ho : tableP s with
  | none =>
    rw [ho] at h
    exact ⟨_, h, rpr_nil w', b⟩
  | some q =>
    rw [ho] at h
    obtain ⟨v, h1, h2⟩ := h
    exact ⟨v, h1, ownP_rpr h2, b⟩
theorem bl_self (x : ByteArray) : (x.toList == x.toList) = true := beq_self_eq_true _

set_option maxRecDepth 1000000 in
set_option maxHeartbeats 4000000 in
theorem tableTables_c {w : World} {vl vb : Value} {ps : List Prp} {l : List UInt8} (s : ByteArray) (hp : RPr w vl ps) (hc : ∀ p ∈ ps, p.came) (hb : RB w vb l) :
    Calls Tryd.prog 4 #[vl, vb, .string s] w fun e w' => e = .returned (.bool true) ∧ Below w.heap.size w w' := by
  have HP := Lib.hid hp
  have HC := Lib.hid hc
  have HB := Lib.hid hb
  obtain ⟨A, c, rfl, hlc, hc63, _⟩ := hb
  have hl63 : l.length ≤ 9223372036854775807 := by omega
  clear hp hc hlc hc63
  go_enter Tryd.func4, Tryd.ntmps4
  go_wp2_with fail
  refine wakes_c.mono ?_
  rintro e w1 ⟨rfl, b1⟩
  have HLG := Lib.hid (long_c (rc_below HP.out b1) (fun p hp => ⟨(HC.out p hp).1, (HC.out p hp).2.1⟩))
  go_wp2_with fail
  refine (HLG.out).mono ?_
  rintro e w2 ⟨lg, rfl, hlg, b2⟩
  have B2 := b1.trans (b2.mono b1.size)
  have HLGN := Lib.hid hlg
  clear hlg b1 b2 HLG
  cases lg with
  | true =>
    go_wp2_with fail
    go_ret
    exact ⟨rfl, B2⟩
  | false =>
    by_cases h1 : 16384 < l.length
    · have h1' : decide (16384 < l.length) = true := decide_eq_true h1
      have h1I : (16384 : Int) < l.length := by omega
      clear h1
      go_wp2_with fail
      go_ret
      exact ⟨rfl, B2⟩
    · by_cases h2 : 16384 < s.size
      · have h1I : ¬ (16384 : Int) < l.length := by omega
        have h2I : (16384 : Int) < s.size := by omega
        clear h1 h2
        go_wp2_with fail
        go_ret
        exact ⟨rfl, B2⟩
      · have h1I : ¬ (16384 : Int) < l.length := by omega
        have h2I : ¬ (16384 : Int) < s.size := by omega
        have H1 := Lib.hid (show l.length ≤ 16384 by omega)
        have H2 := Lib.hid (show s.size ≤ 16384 by omega)
        clear h1 h2 hl63
        go_upto_region 5 with fail
        clear h1I h2I
        have HQ1 := Lib.hid (putV_c (rb_below HB.out B2) (by have := H1.out; omega) (rc_below HP.out B2) HC.out)
        go_wp2_with fail
        refine (HQ1.out).mono ?_
        rintro e w3 ⟨v3, rfl, r3, b3⟩
        have B3 := B2.trans (b3.mono B2.size)
        have R3 := Lib.hid r3
        clear r3 b3 B2 HQ1
        have HQ2 := Lib.hid (refPutV_c (rb_below HB.out B3) (by have := H1.out; omega) (rc_below HP.out B3) HC.out)
        go_wp2_with fail
        refine (HQ2.out).mono ?_
        rintro e w4 ⟨v4, rfl, r4, b4⟩
        have B4 := B3.trans (b4.mono B3.size)
        have R4 := Lib.hid r4
        have R3' := Lib.hid (rb_below R3.out b4)
        clear r4 b4 B3 R3 HQ2
        have HQ3 := Lib.hid (tTake_c (w := w4) s (by have := H2.out; omega))
        go_wp2_with fail
        refine (HQ3.out).mono ?_
        intro e w5 h5
        obtain ⟨v5, rfl, r5, b5⟩ := takeV h5
        have B5 := B4.trans (b5.mono B4.size)
        have R5 := Lib.hid r5
        have R3 := Lib.hid (rb_below R3'.out b5)
        have R4' := Lib.hid (rb_below R4.out b5)
        clear r5 b5 h5 B4 R3' R4 HQ3
        have HQ4 := Lib.hid (refTake15_c (w := w5) s (by have := H2.out; omega))
        go_wp2_with fail
        refine (HQ4.out).mono ?_
        intro e w6 h6
        obtain ⟨v6, rfl, r6, b6⟩ := takeV h6
        have B6 := B5.trans (b6.mono B5.size)
        have hc3 := rb_string (rb_below R3.out b6)
        have hc4 := rb_string (rb_below R4'.out b6)
        have HS := Lib.hid (sameAll_c (rc_below R5.out b6) r6)
        clear r6 b6 h6 B5 R3 R4' HQ4 R5
        obtain ⟨x, hx⟩ : ∃ x : ByteArray, x = ⟨(putL l ps).toArray⟩ := ⟨_, rfl⟩
        rw [← hx] at hc3 hc4
        clear hx
        go_wp2_with fail
        refine (HS.out).mono ?_
        rintro e w8 ⟨b, rfl, hb8, b8⟩
        obtain rfl : b = true := by first | exact hb8.2 trivial | exact hb8.2 rfl | exact hb8
        go_wp2_with fail
        go_ret
        exact ⟨rfl, B6.trans (b8.mono B6.size)⟩
end Go.Proofs.YteigbejidfkhpaaDoor
