/- The reference's Valid. -/
import Derived.Test.YtelhpdnclmpgoaaDoorRfD
import Derived.Test.YtelhpdnclmpgoaaDoorQaB
import Derived.BigQuiet
import Derived.Deep.DeepCutAuto
import Derived.Deep.CutRange
import Derived.Deep.QuietTactic
namespace Go.Proofs.YtelhpdnclmpgoaaDoor
open Go Go.RowKit
set_option linter.unusedSimpArgs false
set_option linter.unusedVariables false

theorem less_trans {a b c : ByteArray} (h1 : Go.Op.bytesLess a.toList b.toList = true) (h2 : Go.Op.bytesLess b.toList c.toList = true) : Go.Op.bytesLess a.toList c.toList = true := by
  rw [less_iff] at h1 h2 ⊢
  exact List.lt_trans h1 h2
/-- The names ahead of the last are less than it. -/
def Asc (ps : List Prp) (k : Nat) : Prop := ∀ j x q, j + 1 < k → ps[j]? = some x → pvN ps k = some q → Go.Op.bytesLess x.nm.toList q.toList = true
def LessAll (ps : List Prp) (m : Nat) (p : Prp) : Prop := ∀ j x, j < m → ps[j]? = some x → Go.Op.bytesLess x.nm.toList p.nm.toList = true
theorem valid_stop {ps : List Prp} {k m : Nat} {p x : Prp} (hI : validL none ps = validL (pvN ps k) (ps.drop k)) (hQ : Asc ps k) (hd : ps.drop k = p :: ps.drop (k + 1)) (hk : k < ps.length) (hm : m < k) (hx : ps[m]? = some x) (hno : Go.Op.bytesLess x.nm.toList p.nm.toList = false) : validB ps = false := by
  obtain ⟨j, rfl⟩ : ∃ j, k = j + 1 := ⟨k - 1, by omega⟩
  have hq : ps[j]? = some ps[j] := List.getElem?_eq_getElem (by omega)
  have hpv := pvN_succ hq
  have hn : Go.Op.bytesLess ps[j].nm.toList p.nm.toList = false := by
    by_cases e : m = j
    · subst e
      rw [hq] at hx
      injection hx with hx
      rw [hx]
      exact hno
    · have h1 := hQ m x _ (by omega) hx hpv
      cases h2 : Go.Op.bytesLess ps[j].nm.toList p.nm.toList with
      | false => rfl
      | true => rw [less_trans h1 h2] at hno; cases hno
  unfold validB
  rw [hI, hd, hpv]
  simp [validL, hn]
theorem valid_on {ps : List Prp} {k : Nat} {p : Prp} (hI : validL none ps = validL (pvN ps k) (ps.drop k)) (hd : ps.drop k = p :: ps.drop (k + 1)) (hp : ps[k]? = some p) (hnm : nameB p.nm = true) (hgd : p.good = true) (hL : LessAll ps k p) : validL none ps = validL (pvN ps (k + 1)) (ps.drop (k + 1)) := by
  rw [hI, hd, pvN_succ hp]
  cases k with
  | zero =>
    show validL none (p :: _) = _
    simp [validL, hnm, hgd]
  | succ j =>
    have hj : j < ps.length := by have := (List.getElem?_eq_some_iff.1 hp).1; omega
    have hq : ps[j]? = some ps[j] := List.getElem?_eq_getElem hj
    rw [pvN_succ hq]
    have := hL j _ (by omega) hq
    simp [validL, hnm, hgd, this]
theorem asc_succ {ps : List Prp} {k : Nat} {p : Prp} (hp : ps[k]? = some p) (hL : LessAll ps k p) : Asc ps (k + 1) := by
  intro j x q hj hx hq
  rw [pvN_succ hp] at hq
  injection hq with hq
  subst hq
  exact hL j x (by omega) hx
theorem less_succ {ps : List Prp} {m : Nat} {p x : Prp} (hL : LessAll ps m p) (hx : ps[m]? = some x) (h : Go.Op.bytesLess x.nm.toList p.nm.toList = true) : LessAll ps (m + 1) p := by
  intro j y hj hy
  by_cases e : j = m
  · subst e
    rw [hx] at hy
    injection hy with hy
    subst hy
    exact h
  · exact hL j y (by omega) hy

set_option maxRecDepth 100000 in
set_option maxHeartbeats 2000000 in
theorem refValid_c {w : World} {v : Value} {ps : List Prp} (hp : RPr w v ps) (hsz : ∀ p ∈ ps, p.nm.size ≤ 140737488351232 ∧ p.r < 18446744073709551616) :
    Calls Tryd.prog 34 #[v] w fun e w' => e = .returned (.bool (validB ps)) ∧ Below w.heap.size w w' := by
  have h63 : ps.length ≤ 9223372036854775807 := by obtain ⟨_, _, _, h1, h2, _⟩ := id hp; omega
  obtain ⟨A, c, rfl, hnc, hcell⟩ := props_at hp
  have HC := Lib.hid hcell
  have HS := Lib.hid hsz
  have H63 := Lib.hid h63
  clear h63
  have qs := store_float (P := Tryd.prog)
  obtain ⟨vb, hvb⟩ : ∃ vb, vb = validB ps := ⟨_, rfl⟩
  have HV := Lib.hid hvb
  rw [← hvb]
  clear hp hcell hsz hvb
  go_enter Tryd.func34, Tryd.ntmps34
  go_wp2_with fail
  go_loopw [8] (fun i wr => ∃ k : Nat, k ≤ ps.length ∧ k ≤ 16 ∧ i = .int .i64 k ∧ Hid (validL none ps = validL (pvN ps k) (ps.drop k)) ∧ Hid (Asc ps k) ∧ Below w.heap.size w wr) (fun i _ => ps.length - (intOf i).toNat)
  case atStart => exact ⟨0, Nat.zero_le _, Nat.zero_le _, rfl, Lib.hid rfl, Lib.hid (fun j x q h => by omega), Below.refl _ _⟩
  case round =>
    obtain ⟨k, hk, hk16, rfl, HI, HQ, b2⟩ := hrel
    by_cases hlt : k < ps.length
    · obtain ⟨p, hp⟩ : ∃ p, ps[k]? = some p := ⟨_, List.getElem?_eq_getElem hlt⟩
      obtain ⟨a, rfl, q0, q1, q2, q3, q4⟩ := HC.out k p hp
      have hns := HS.out p (List.mem_of_getElem? hp)
      have hdk : ps.drop k = p :: ps.drop (k + 1) := by rw [List.drop_eq_getElem_cons hlt]; congr 1; rw [List.getElem?_eq_getElem hlt] at hp; injection hp
      have p0 := cell_below b2 (World.block_lt_of_cell? w _ q0) q0
      have p1 := cell_below b2 (World.block_lt_of_cell? w _ q1) q1
      have p2 := cell_below b2 (World.block_lt_of_cell? w _ q2) q2
      have p3 := cell_below b2 (World.block_lt_of_cell? w _ q3) q3
      have p4 := cell_below b2 (World.block_lt_of_cell? w _ q4) q4
      have HDK := Lib.hid hdk
      have HP := Lib.hid hp
      have HN := Lib.hid hns
      have HLT := Lib.hid hlt
      have b3 := b2.alloc b2.size (.cells #[.string p.nm, .int .i64 p.k, .int .i64 p.n, .string p.t, .float .f64 p.r] 85)
      obtain ⟨W, hW⟩ : ∃ W, W = wr.alloc (.cells #[.string p.nm, .int .i64 p.k, .int .i64 p.n, .string p.t, .float .f64 p.r] 85) := ⟨_, rfl⟩
      have z0 : W.cell? ⟨wr.heap.size, 0, none⟩ = some (.string p.nm) := by rw [hW]; exact new_cell 0 _ rfl
      have z1 : W.cell? ⟨wr.heap.size, 1, none⟩ = some (.int .i64 p.k) := by rw [hW]; exact new_cell 1 _ rfl
      have z2 : W.cell? ⟨wr.heap.size, 2, none⟩ = some (.int .i64 p.n) := by rw [hW]; exact new_cell 2 _ rfl
      have z3 : W.cell? ⟨wr.heap.size, 3, none⟩ = some (.string p.t) := by rw [hW]; exact new_cell 3 _ rfl
      have z4 : W.cell? ⟨wr.heap.size, 4, none⟩ = some (.float .f64 p.r) := by rw [hW]; exact new_cell 4 _ rfl
      have zb : wr.heap.size < W.heap.size := by rw [hW]; show _ < (Array.push _ _).size; simp
      rw [← hW] at b3
      have HWW := Lib.hid hW
      have HZB := Lib.hid zb
      have hkI : (k : Int) ≤ 16 := by omega
      clear hp hdk q0 q1 q2 q3 q4 hW zb hns hlt
      go_upto_region 4 with fail
      rw [← HWW.out]
      have HNM := Lib.hid (refName_c (w := W) p.nm HN.out.1)
      cases hnm : nameB p.nm with
      | false =>
        have hvf : vb = false := by rw [HV.out]; unfold validB; rw [HI.out, HDK.out]; cases pvN ps k <;> (simp [validL, hnm])
        rw [hnm] at HNM
        subst hvf
        go_wp2_with fail
        refine (HNM.out).mono ?_
        rintro e w1 ⟨rfl, rfl⟩
        go_wp2_with fail
        go_ret
        exact ⟨rfl, b3⟩
      | true =>
        rw [hnm] at HNM
        have HGD := Lib.hid (refGood_c (w := W) p.k p.n p.t p.r HN.out.2)
        cases hgd : goodB p.k p.n p.t p.r with
        | false =>
          have hgd' : p.good = false := hgd
          have hvf : vb = false := by rw [HV.out]; unfold validB; rw [HI.out, HDK.out]; cases pvN ps k <;> (simp [validL, hnm, hgd'])
          rw [hgd] at HGD
          subst hvf
          clear hgd hgd' hnm
          go_wp2_with fail
          refine (HNM.out).mono ?_
          rintro e w1 ⟨rfl, rfl⟩
          go_wp2_with fail
          refine (HGD.out).mono ?_
          rintro e w1 ⟨rfl, b4⟩
          go_wp2_with fail
          go_ret
          exact ⟨rfl, b3.trans (b4.mono b3.size)⟩
        | true =>
          rw [hgd] at HGD
          have hgd' : p.good = true := hgd
          have HNX : Hid (LessAll ps k p → validL none ps = validL (pvN ps (k + 1)) (ps.drop (k + 1))) := Lib.hid (fun hL => valid_on HI.out HDK.out HP.out hnm hgd' hL)
          clear hgd hgd' hnm
          go_wp2_with fail
          refine (HNM.out).mono ?_
          rintro e w1 ⟨rfl, rfl⟩
          go_wp2_with fail
          refine (HGD.out).mono ?_
          rintro e w1 ⟨rfl, b4⟩
          have B4 := b3.trans (b4.mono b3.size)
          have y0 := cell_below b4 (World.block_lt_of_cell? W _ z0) z0
          clear z0 z1 z2 z3 z4 p0 p1 p2 p3 p4 HNM HGD b3 b4
          go_wp2_with fail
          obtain ⟨wL, hwL⟩ : ∃ wL, wL = w1 := ⟨_, rfl⟩
          have HWL := Lib.hid hwL
          clear hwL
          go_loopw [5] (fun i wx => ∃ m : Nat, m ≤ k ∧ i = .int .i64 m ∧ Hid (LessAll ps m p) ∧ Below wL.heap.size wL wx) (fun i _ => k - (intOf i).toNat)
          case atStart => exact ⟨0, Nat.zero_le _, rfl, Lib.hid (fun j x h => by omega), by rw [HWL.out]; exact Below.refl _ _⟩
          case round =>
            obtain ⟨m, hm, rfl, HL, b5⟩ := hrel
            have b5' : Below w1.heap.size w1 wr := by have h := b5; rw [HWL.out] at h; exact h
            have B5 := B4.trans (b5'.mono B4.size)
            by_cases hlt2 : m < k
            · have hml : m < ps.length := by have := HLT.out; omega
              obtain ⟨x, hx⟩ : ∃ x, ps[m]? = some x := ⟨_, List.getElem?_eq_getElem hml⟩
              obtain ⟨a', ha', g0, _, _, _, _⟩ := HC.out m x hx
              injection ha' with ha'
              subst ha'
              have g1 := cell_below B5 (World.block_lt_of_cell? w _ g0) g0
              have y1 := cell_below b5' (World.block_lt_of_cell? w1 _ y0) y0
              have hmI : (m : Int) < k := by omega
              have hmL : (m : Int) < ps.length := by omega
              have hmK : (m : Int) ≤ 16 := by omega
              have HX := Lib.hid hx
              have HLT2 := Lib.hid hlt2
              clear hx g0 hml hlt2
              cases hls : Go.Op.bytesLess x.nm.toList p.nm.toList with
              | false =>
                have hvf : vb = false := by rw [HV.out]; exact valid_stop HI.out HQ.out HDK.out HLT.out HLT2.out HX.out hls
                subst hvf
                go_wp2_with fail
                go_quiet (fail)
                go_wp2
                go_ret
                exact ⟨rfl, B5.trans ((below_drewN _ _).mono B5.size)⟩
              | true =>
                go_wp2_with fail
                go_quiet (fail)
                go_wp2
                go_roundw
                case rel => exact ⟨m + 1, by have := HLT2.out; omega, by go_num, Lib.hid (less_succ HL.out HX.out hls), b5.trans ((below_drewN _ _).mono b5.size)⟩
                case measure => have := HLT2.out; simp [intOf]; omega
            · obtain rfl : m = k := by omega
              by_cases h16 : m = 16
              · have hvf : vb = false := by
                  rw [HV.out]
                  unfold validB
                  rw [decide_eq_false (by have := HLT.out; omega), Bool.and_false]
                subst hvf h16
                clear hlt2
                go_wp2_with fail
                go_ret
                exact ⟨rfl, B5⟩
              · have h16' : (m : Int) < 16 := by omega
                have H16 := Lib.hid (show m + 1 ≤ 16 by omega)
                have hwk : wrap64 ((m : Int) + 1) = (m : Int) + 1 := by unfold wrap64; omega
                clear hlt2 h16
                go_wp2_with fail
                go_roundw
                case rel => exact ⟨m + 1, HLT.out, H16.out, by go_num, Lib.hid (HNX.out HL.out), Lib.hid (asc_succ HP.out HL.out), B5⟩
                case measure => have := HLT.out; simp [intOf]; omega
    · have hk2 : k = ps.length := by omega
      subst hk2
      have hvt : vb = true := by rw [HV.out]; unfold validB; rw [HI.out, List.drop_length, decide_eq_true hk16]; cases pvN ps ps.length <;> rfl
      subst hvt
      clear hlt
      go_wp2_with fail
      go_ret
      exact ⟨by first | rfl | (simp; omega), b2⟩
end Go.Proofs.YtelhpdnclmpgoaaDoor
