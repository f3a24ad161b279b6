/- Layer 15's statements: methods that are too heavy to be played. -/
import Derived.Test.YteigbejidfkhpaaDoorTbI
namespace Go.Proofs.YteigbejidfkhpaaDoor
open Go Go.RowKit
set_option linter.unusedSimpArgs false
set_option linter.unusedVariables false

/-- v reads as the texts ts. -/
def RS (w : World) (v : Value) (ts : List ByteArray) : Prop := RC w v ts.length 1 (ts.map Value.string)
theorem rs_at {w : World} {v : Value} {ts : List ByteArray} (h : RS w v ts) : ∃ A c, v = .slice A ts.length c ∧ ts.length ≤ c ∧ c ≤ 9223372036854775807 ∧ ∀ j y, ts[j]? = some y → ∃ a, A = some a ∧ w.cell? (a.add j) = some (.string y) := by
  obtain ⟨A, c, rfl, h1, h2, h3, h4, h5⟩ := h
  exact ⟨A, c, rfl, h1, h2, fun j y hy => h5 j _ (by rw [List.getElem?_map, hy]; rfl)⟩

def Sm (m : Nat) : Prop := m ≤ 140737488351232
def HvPost (w : World) (ns : List Int) (ts : List ByteArray) (ps : List Prp) (e : Ending) (w' : World) : Prop := ∃ b : Bool, e = .returned (.bool b) ∧ (b = false → ns.length ≤ 16384 ∧ ts.length ≤ 16384 ∧ ps.length ≤ 16384) ∧ Below w.heap.size w w'
theorem kt_lem {n k m t s : Nat} (h1 : t = m + (1 + s)) (h2 : n + k ≤ m) : n + (k + 1) ≤ t := by omega
theorem rc_form {w : World} {v : Value} {n s : Nat} {cs : List Value} (h : RC w v n s cs) : ∃ A c, v = .slice A n c ∧ n ≤ c := by
  obtain ⟨A, c, e, h1, _⟩ := h
  exact ⟨A, c, e, h1⟩
theorem below_alloc1' (w : World) (o : Obj) : Below w.heap.size w (w.alloc o) := (Below.refl _ _).alloc (Nat.le_refl _) o
set_option maxRecDepth 100000 in
set_option maxHeartbeats 600000 in
theorem heavy_c {w : World} {cl ix : Int} {vn vt vp : Value} {ns : List Int} {ts : List ByteArray} {ps : List Prp} (hn : RI w vn ns) (ht : RS w vt ts) (hp : RPr w vp ps) (hnl : ns.length ≤ 140737488351232) (hts : ∀ t ∈ ts, t.size ≤ 140737488351232)
    (hsz : ∀ p ∈ ps, p.nm.size ≤ 140737488351232 ∧ p.t.size ≤ 140737488351232) :
    Calls Tryd.prog 10 #[.agg #[.int .i64 cl, .int .i64 ix, vn, vt, vp]] w (HvPost w ns ts ps) := by
  obtain ⟨An, cn, rfl, hn1⟩ := rc_form hn
  obtain ⟨At, ct, rfl, ht1, ht2, htc⟩ := rs_at ht
  obtain ⟨Ap, cp, rfl, hp1⟩ := rc_form hp
  have HTC := Lib.hid htc
  have HTS := Lib.hid hts
  have HP := Lib.hid hp
  have HSZ := Lib.hid hsz
  have bW := (Below.refl w.heap.size w).alloc (Nat.le_refl _) (.cells #[.int .i64 cl, .int .i64 ix, .slice An ns.length cn, .slice At ts.length ct, .slice Ap ps.length cp] 26)
  have hnl' : Sm ns.length := hnl
  clear hn ht hp htc hts hsz ht2 hnl
  go_enter Tryd.func10, Tryd.ntmps10
  go_wp2_with fail
  go_loop [3, 12, 5] (fun x i _y => ∃ k m : Nat, k ≤ ts.length ∧ i = .int .i64 k ∧ x = .int .i64 m ∧ Sm m ∧ Hid (ns.length + k ≤ m)) (fun _ i _ => ts.length - (intOf i).toNat)
  case atStart => exact ⟨0, ns.length, Nat.zero_le _, rfl, rfl, hnl', Lib.hid (Nat.le_refl _)⟩
  case round =>
    obtain ⟨k, m, hk, rfl, rfl, hm, HKM⟩ := hrel
    by_cases hlt : k < ts.length
    · obtain ⟨y, hy⟩ : ∃ y, ts[k]? = some y := ⟨_, List.getElem?_eq_getElem hlt⟩
      obtain ⟨a, rfl, q0⟩ := HTC.out k y hy
      have hs2 := HTS.out y (List.mem_of_getElem? hy)
      obtain ⟨tot, htot⟩ : ∃ tot : Nat, tot = m + (1 + y.size) := ⟨_, rfl⟩
      have hm' : m ≤ 140737488351232 := hm
      have e1 : IntKind.i64.wrap (1 + (y.size : Int)) = 1 + y.size := IntWalk.i64_in _ (by omega)
      have e3 : IntKind.i64.wrap ((m : Int) + (1 + (y.size : Int))) = m + (1 + y.size) := IntWalk.i64_in _ (by omega)
      have hz1 : (y.size : Int) ≤ 140737488351232 := by omega
      have p0 : (w.alloc (.cells #[.int .i64 cl, .int .i64 ix, .slice An ns.length cn, .slice (some a) ts.length ct, .slice Ap ps.length cp] 26)).cell? (a.add k) = some (.string y) := cell_below (below_alloc1' w _) (World.block_lt_of_cell? w _ q0) q0
      have HTOT := Lib.hid htot
      have HLT := Lib.hid hlt
      have HM := Lib.hid hm
      clear hy q0 hs2 htot hm hm'
      by_cases hg : (16384 : Int) < m + (1 + y.size)
      · go_wp2_with fail
        go_ret
        refine ⟨true, rfl, ?_, bW⟩
        intro h
        cases h
      · have hg' : (m : Int) + (1 + y.size) ≤ 16384 := by omega
        clear hg
        go_wp2_with fail
        have hwk : wrap64 ((k : Int) + 1) = (k : Int) + 1 := by have := HKM.out; unfold wrap64; omega
        have hSm : Sm tot := by have h1 := HTOT.out; show tot ≤ 140737488351232; omega
        have hKt := kt_lem HTOT.out HKM.out
        have hk1 : k + 1 ≤ ts.length := HLT.out
        have hti : (m : Int) + (1 + (y.size : Int)) = ((tot : Nat) : Int) := by rw [HTOT.out]; omega
        rw [hwk, hti]
        refine ⟨⟨k + 1, tot, hk1, rfl, rfl, hSm, Lib.hid hKt⟩, round_lessL HLT.out⟩
    · have hk2 : k = ts.length := by omega
      subst hk2
      clear hlt
      by_cases hg : (16384 : Int) < m
      · clear hm
        go_wp2_with fail
        go_ret
        exact ⟨true, rfl, (fun h => by cases h), bW⟩
      · have hg' : (m : Int) ≤ 16384 := by omega
        have HG := Lib.hid hg'
        have HLG := Lib.hid (long_c (rc_alloc HP.out (.cells #[.int .i64 cl, .int .i64 ix, .slice An ns.length cn, .slice At ts.length ct, .slice Ap ps.length cp] 26)) HSZ.out)
        clear hg hm
        go_wp2_with fail
        refine (HLG.out).mono ?_
        rintro e w2 ⟨b, rfl, hb, b2⟩
        go_wp2_with fail
        go_ret
        have hd : decide ((16384 : Int) < (m : Int)) = false := decide_eq_false (by have h2 := HG.out; omega)
        exact ⟨b, by show Ending.returned (Value.bool (decide ((16384 : Int) < (m : Int)) || b)) = _; rw [hd]; rfl, (fun h => ⟨by have h1 := HKM.out; have h2 := HG.out; omega, by have h1 := HKM.out; have h2 := HG.out; omega, hb h⟩), bW.trans (b2.mono bW.size)⟩
end Go.Proofs.YteigbejidfkhpaaDoor
