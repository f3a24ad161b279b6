/- Layer 7: lists of properties: prop.Valid. -/
import Derived.Test.YtelhpdnclmpgoaaDoorTbB
import Derived.Deep.RegionWith
import Derived.BigRegion
import Derived.Deep.RegionHeld3
import Derived.BigQuiet
import Derived.Lib.QuietBelow
namespace Go.Proofs.YtelhpdnclmpgoaaDoor
open Go Go.RowKit
open Go.ChangeShapes Go.WideShapes Go.Deep Go.Sort
set_option linter.unusedSimpArgs false
set_option linter.unusedVariables false

structure Prp where
  nm : ByteArray
  k : Int
  n : Int
  t : ByteArray
  r : Nat
def Prp.cells (p : Prp) : List Value := [.string p.nm, .int .i64 p.k, .int .i64 p.n, .string p.t, .float .f64 p.r]
def RPr (w : World) (v : Value) (ps : List Prp) : Prop := RC w v ps.length 5 (ps.flatMap Prp.cells)
theorem add_one_of (a : Addr) (i j : Nat) : a.add (i + (j + 1)) = ⟨(a.add i).block, (a.add i).off + (j + 1), none⟩ := by
  rw [← add_add]
  generalize a.add i = b
  unfold Addr.add
  simp
theorem props_at {w : World} {v : Value} {ps : List Prp} (h : RPr w v ps) : ∃ A c, v = .slice A ps.length c ∧ ps.length ≤ c ∧ ∀ k p, ps[k]? = some p → ∃ a, A = some a ∧ w.cell? (a.add (k * 5)) = some (.string p.nm) ∧ w.cell? ⟨(a.add (k * 5)).block, (a.add (k * 5)).off + 1, none⟩ = some (.int .i64 p.k) ∧ w.cell? ⟨(a.add (k * 5)).block, (a.add (k * 5)).off + 2, none⟩ = some (.int .i64 p.n) ∧ w.cell? ⟨(a.add (k * 5)).block, (a.add (k * 5)).off + 3, none⟩ = some (.string p.t) ∧ w.cell? ⟨(a.add (k * 5)).block, (a.add (k * 5)).off + 4, none⟩ = some (.float .f64 p.r) := by
  obtain ⟨A, c, h1, h2, h3⟩ := row_at (f := Prp.cells) (by omega) (fun _ => rfl) h
  exact ⟨A, c, h1, h2, fun k x hx => by
    obtain ⟨a, ha, hc⟩ := h3 k x hx
    exact ⟨a, ha, hc 0 _ rfl, by rw [← add_one_of]; exact hc 1 _ rfl, by rw [← add_one_of]; exact hc 2 _ rfl, by rw [← add_one_of]; exact hc 3 _ rfl, by rw [← add_one_of]; exact hc 4 _ rfl⟩⟩

def Prp.good (p : Prp) : Bool := goodB p.k p.n p.t p.r
theorem new_cell {w : World} {cs : Array Value} {t : TypeId} (j : Nat) (u : Value) (hj : cs[j]? = some u) : (w.alloc (.cells cs t)).drew.cell? ⟨w.heap.size, j, none⟩ = some u := by
  have hb : (w.alloc (.cells cs t)).drew.heap[w.heap.size]? = some (.cells cs t) := heap_alloc_new w _
  simp only [World.cell?, hb]
  simpa using hj

theorem round_less {n j : Nat} (h : j + 1 < n) : n - (intOf (.int .i64 ((j : Int) + 1 + 1))).toNat < n - (intOf (.int .i64 ((j + 1 : Nat) : Int))).toNat := by
  show n - ((j : Int) + 1 + 1).toNat < n - (((j + 1 : Nat) : Int)).toNat
  rw [show ((j : Int) + 1 + 1).toNat = j + 2 by omega, Int.toNat_natCast]
  omega
theorem store_float {P : Program} (w : World) (a : Addr) (b : Nat) : (store a (.float .f64 b)).run P w = stored P w a (.float .f64 b) .plain := run_store P w a _ _ rfl

/-- Can a list of properties be? (the name ahead) -/
def validL : Option ByteArray → List Prp → Bool
  | _, [] => true
  | none, p :: r => nameB p.nm && p.good && validL (some p.nm) r
  | some q, p :: r => nameB p.nm && p.good && Go.Op.bytesLess q.toList p.nm.toList && validL (some p.nm) r
def validB (ps : List Prp) : Bool := validL none ps && decide (ps.length ≤ 16)
def pvN (ps : List Prp) : Nat → Option ByteArray
  | 0 => none
  | j + 1 => (ps[j]?).map Prp.nm
theorem pvN_succ {ps : List Prp} {k : Nat} {p : Prp} (h : ps[k]? = some p) : pvN ps (k + 1) = some p.nm := by show (ps[k]?).map Prp.nm = _; rw [h]; rfl

set_option maxRecDepth 100000 in
set_option maxHeartbeats 4000000 in
theorem valid_c {w : World} {v : Value} {ps : List Prp} (hp : RPr w v ps) (hsz : ∀ p ∈ ps, p.nm.size ≤ 140737488351232) :
    Calls Tryd.prog 32 #[v] w fun e w' => e = .returned (.bool (validB ps)) ∧ Below w.heap.size w w' := by
  have h63 : ps.length ≤ 9223372036854775807 := by obtain ⟨_, _, _, h1, h2, _⟩ := id hp; omega
  obtain ⟨A, c, rfl, hnc, hcell⟩ := props_at hp
  have HC := Lib.hid hcell
  have HS := Lib.hid hsz
  have H63 := Lib.hid h63
  clear h63
  have qs := store_float (P := Tryd.prog)
  obtain ⟨vb, hvb⟩ : ∃ vb, vb = validB ps := ⟨_, rfl⟩
  have HV := Lib.hid hvb
  rw [← hvb]
  clear hp hcell hsz hvb
  go_enter Tryd.func32, Tryd.ntmps32
  go_wp2_with fail
  go_loopw [7] (fun i wr => ∃ k : Nat, k ≤ ps.length ∧ i = .int .i64 k ∧ Hid (validL none ps = validL (pvN ps k) (ps.drop k)) ∧ Below w.heap.size w wr) (fun i _ => ps.length - (intOf i).toNat)
  case atStart => exact ⟨0, Nat.zero_le _, rfl, Lib.hid rfl, Below.refl _ _⟩
  case round =>
    obtain ⟨k, hk, rfl, HI, b2⟩ := hrel
    by_cases hlt : k < ps.length
    · obtain ⟨p, hp⟩ : ∃ p, ps[k]? = some p := ⟨_, List.getElem?_eq_getElem hlt⟩
      obtain ⟨a, rfl, q0, q1, q2, q3, q4⟩ := HC.out k p hp
      have hns := HS.out p (List.mem_of_getElem? hp)
      have hdk : ps.drop k = p :: ps.drop (k + 1) := by rw [List.drop_eq_getElem_cons hlt]; congr 1; rw [List.getElem?_eq_getElem hlt] at hp; injection hp
      have p0 := cell_below b2 (World.block_lt_of_cell? w _ q0) q0
      have p1 := cell_below b2 (World.block_lt_of_cell? w _ q1) q1
      have p2 := cell_below b2 (World.block_lt_of_cell? w _ q2) q2
      have p3 := cell_below b2 (World.block_lt_of_cell? w _ q3) q3
      have p4 := cell_below b2 (World.block_lt_of_cell? w _ q4) q4
      have HDK := Lib.hid hdk
      have HP := Lib.hid hp
      have b3 := b2.alloc b2.size (.cells #[.string p.nm, .int .i64 p.k, .int .i64 p.n, .string p.t, .float .f64 p.r] 85)
      obtain ⟨W, hW⟩ : ∃ W, W = wr.alloc (.cells #[.string p.nm, .int .i64 p.k, .int .i64 p.n, .string p.t, .float .f64 p.r] 85) := ⟨_, rfl⟩
      have z0 : ∀ d os, (grow (redrawn W d) os).cell? ⟨wr.heap.size, 0, none⟩ = some (.string p.nm) := fun d os => cell_regrown (by rw [hW]; exact new_cell 0 _ rfl) d os
      have z1 : ∀ d os, (grow (redrawn W d) os).cell? ⟨wr.heap.size, 1, none⟩ = some (.int .i64 p.k) := fun d os => cell_regrown (by rw [hW]; exact new_cell 1 _ rfl) d os
      have z2 : ∀ d os, (grow (redrawn W d) os).cell? ⟨wr.heap.size, 2, none⟩ = some (.int .i64 p.n) := fun d os => cell_regrown (by rw [hW]; exact new_cell 2 _ rfl) d os
      have z3 : ∀ d os, (grow (redrawn W d) os).cell? ⟨wr.heap.size, 3, none⟩ = some (.string p.t) := fun d os => cell_regrown (by rw [hW]; exact new_cell 3 _ rfl) d os
      have z4 : ∀ d os, (grow (redrawn W d) os).cell? ⟨wr.heap.size, 4, none⟩ = some (.float .f64 p.r) := fun d os => cell_regrown (by rw [hW]; exact new_cell 4 _ rfl) d os
      have HWW := Lib.hid hW
      clear hp hdk q0 q1 q2 q3 q4 hW
      cases hnm : nameB p.nm with
      | false =>
        have hvf : vb = false := by rw [HV.out]; unfold validB; rw [HI.out, HDK.out]; cases pvN ps k <;> (simp [validL, hnm])
        subst hvf
        have cN : ∀ d os, Calls Tryd.prog 29 #[.string p.nm] (grow (redrawn W d) os) fun e w'' => e = .returned (.bool false) ∧ ∃ p : Regrown, w'' = grow (redrawn W p.d) p.os := fun d os => Calls.regrown_of (by have := name_c (w := grow (redrawn W d) os) p.nm hns; rw [hnm] at this; exact this)
        go_wp2_with fail
        rw [← HWW.out]
        refine wp_region_quiet_below (by kernel_rfl) (by kernel_rfl) ?_
        repeat (go_big_quiet_step (first | exact cN _ _))
        refine wpQuiet_nil ?_
        intro _ hw'
        obtain ⟨⟨dq, osq⟩, hw''⟩ := hw'
        subst hw''
        go_wp2
        go_ret
        exact ⟨rfl, by have h := below_regrown W dq osq; rw [HWW.out] at h; rw [HWW.out]; exact b3.trans (h.mono b3.size)⟩
      | true =>
        have cN : ∀ d os, Calls Tryd.prog 29 #[.string p.nm] (grow (redrawn W d) os) fun e w'' => e = .returned (.bool true) ∧ ∃ p : Regrown, w'' = grow (redrawn W p.d) p.os := fun d os => Calls.regrown_of (by have := name_c (w := grow (redrawn W d) os) p.nm hns; rw [hnm] at this; exact this)
        cases hgd : p.good with
        | false =>
          have hvf : vb = false := by rw [HV.out]; unfold validB; rw [HI.out, HDK.out]; cases pvN ps k <;> (simp [validL, hnm, hgd])
          subst hvf
          have cG : ∀ d os, Calls Tryd.prog 52 #[.agg #[.int .i64 p.k, .int .i64 p.n, .string p.t, .float .f64 p.r]] (grow (redrawn W d) os) fun e w'' => e = .returned (.bool false) ∧ ∃ p : Regrown, w'' = grow (redrawn W p.d) p.os := fun d os => Calls.regrown_of (by have := good_c (w := grow (redrawn W d) os) p.k p.n p.t p.r; rw [show goodB p.k p.n p.t p.r = false from hgd] at this; exact this)
          go_wp2_with fail
          rw [← HWW.out]
          refine wp_region_quiet_below (by kernel_rfl) (by kernel_rfl) ?_
          repeat (go_big_quiet_step (first | exact cN _ _ | exact cG _ _))
          refine wpQuiet_nil ?_
          intro _ hw'
          obtain ⟨⟨dq, osq⟩, hw''⟩ := hw'
          subst hw''
          have bE : Below w.heap.size w (grow (redrawn W dq) osq) := by have h := below_regrown W dq osq; rw [HWW.out] at h; rw [HWW.out]; exact b3.trans (h.mono b3.size)
          go_wp2
          go_ret
          exact ⟨rfl, bE⟩
        | true =>
          have cG : ∀ d os, Calls Tryd.prog 52 #[.agg #[.int .i64 p.k, .int .i64 p.n, .string p.t, .float .f64 p.r]] (grow (redrawn W d) os) fun e w'' => e = .returned (.bool true) ∧ ∃ p : Regrown, w'' = grow (redrawn W p.d) p.os := fun d os => Calls.regrown_of (by have := good_c (w := grow (redrawn W d) os) p.k p.n p.t p.r; rw [show goodB p.k p.n p.t p.r = true from hgd] at this; exact this)
          cases k with
          | zero =>
            have h00 : a.add (0 * 5) = a := by unfold Addr.add; simp
            rw [h00] at p0 p1 p2 p3 p4
            have hnx : validL none ps = validL (pvN ps (0 + 1)) (ps.drop (0 + 1)) := by
              rw [HI.out, HDK.out, pvN_succ HP.out]
              show validL none (p :: _) = _
              simp [validL, hnm, hgd]
            go_wp2_with fail
            rw [← HWW.out]
            refine wp_region_quiet_below (by kernel_rfl) (by kernel_rfl) ?_
            repeat (go_big_quiet_step (first | exact cN _ _ | exact cG _ _))
            refine wpQuiet_nil ?_
            intro _ hw'
            obtain ⟨⟨dq, osq⟩, hw''⟩ := hw'
            subst hw''
            have bE : Below w.heap.size w (grow (redrawn W dq) osq) := by have h := below_regrown W dq osq; rw [HWW.out] at h; rw [HWW.out]; exact b3.trans (h.mono b3.size)
            go_wp2
            go_roundw
            case rel => exact ⟨0 + 1, by omega, by go_num, Lib.hid hnx, bE⟩
            case measure => simp [intOf]; omega
          | succ j =>
            obtain ⟨q, hq⟩ : ∃ q, ps[j]? = some q := ⟨_, List.getElem?_eq_getElem (by omega)⟩
            obtain ⟨a', ha', g0, _, _, _, _⟩ := HC.out j q hq
            injection ha' with ha'
            subst ha'
            have z5 : ∀ d os, (grow (redrawn W d) os).cell? (a.add (j * 5)) = some (.string q.nm) := fun d os => cell_regrown (by have h := cell_below b3 (World.block_lt_of_cell? w _ g0) g0; rw [HWW.out]; exact h) d os
            have hpv : pvN ps (j + 1) = some q.nm := pvN_succ hq
            have hjn : (j : Int) < ps.length := by omega
            have hwk : wrap64 ((j : Int) + 1 + 1) = (j : Int) + 1 + 1 := by have := H63.out; unfold wrap64; omega
            have hwj : wrap64 (j : Int) = j := by have := H63.out; unfold wrap64; omega
            have HQ := Lib.hid hpv
            clear hq hpv g0
            cases hls : Go.Op.bytesLess q.nm.toList p.nm.toList with
            | false =>
              have hvf : vb = false := by rw [HV.out]; unfold validB; rw [HI.out, HDK.out, HQ.out]; simp [validL, hls]
              subst hvf
              go_wp2_with fail
              rw [← HWW.out]
              refine wp_region_quiet_below (by kernel_rfl) (by kernel_rfl) ?_
              repeat (go_big_quiet_step (first | exact cN _ _ | exact cG _ _))
              refine wpQuiet_nil ?_
              intro _ hw'
              obtain ⟨⟨dq, osq⟩, hw''⟩ := hw'
              subst hw''
              have bE : Below w.heap.size w (grow (redrawn W dq) osq) := by have h := below_regrown W dq osq; rw [HWW.out] at h; rw [HWW.out]; exact b3.trans (h.mono b3.size)
              go_wp2
              go_ret
              exact ⟨rfl, bE⟩
            | true =>
              have hnx : validL none ps = validL (pvN ps (j + 1 + 1)) (ps.drop (j + 1 + 1)) := by
                rw [HI.out, HDK.out, HQ.out, pvN_succ HP.out]
                simp [validL, hnm, hgd, hls]
              go_wp2_with fail
              rw [← HWW.out]
              refine wp_region_quiet_below (by kernel_rfl) (by kernel_rfl) ?_
              repeat (go_big_quiet_step (first | exact cN _ _ | exact cG _ _))
              refine wpQuiet_nil ?_
              intro _ hw'
              obtain ⟨⟨dq, osq⟩, hw''⟩ := hw'
              subst hw''
              have bE : Below w.heap.size w (grow (redrawn W dq) osq) := by have h := below_regrown W dq osq; rw [HWW.out] at h; rw [HWW.out]; exact b3.trans (h.mono b3.size)
              go_wp2
              go_roundw
              case rel => exact ⟨(j + 1) + 1, by omega, by go_num, Lib.hid hnx, bE⟩
              case measure => rw [hwk]; exact round_less hlt
    · have hk2 : k = ps.length := by omega
      subst hk2
      have hvt : vb = decide (ps.length ≤ 16) := by rw [HV.out]; unfold validB; rw [HI.out, List.drop_length]; cases pvN ps ps.length <;> rfl
      subst hvt
      clear hlt
      go_wp2_with fail
      go_ret
      exact ⟨by first | rfl | (simp; omega), b2⟩
end Go.Proofs.YtelhpdnclmpgoaaDoor
