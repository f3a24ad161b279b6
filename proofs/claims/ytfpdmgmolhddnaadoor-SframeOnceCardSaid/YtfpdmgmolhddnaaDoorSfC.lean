/- Layer 18: headers: the walks of plain and Get. -/
import Derived.Test.YtfpdmgmolhddnaaDoorSfB
namespace Go.Proofs.YtfpdmgmolhddnaaDoor
open Go Go.RowKit Go.Sort
open Go.ChangeShapes Go.WideShapes Go.Deep
set_option linter.unusedSimpArgs false
set_option linter.unusedVariables false

theorem str_ne {a b : ByteArray} (h : a ≠ b) : (a.toList == b.toList) = false := by
  have hc : a.toList ≠ b.toList := fun e => h (by
    rw [ByteArray.toList_eq, ByteArray.toList_eq] at e
    exact ByteArray.ext (Array.toList_inj.1 e))
  exact beq_eq_false_iff_ne.2 hc
theorem str_eqb {a b : ByteArray} (h : a = b) : (a.toList == b.toList) = true := by subst h; exact beq_self_eq_true _
theorem list_ne {s : ByteArray} {l : List UInt8} (h : s ≠ ⟨l.toArray⟩) : s.data.toList ≠ l := fun e => h (ba_ext (by simpa using e))
set_option maxRecDepth 100000 in
theorem plain_c {w : World} (s : ByteArray) : Calls Tryd.prog 22 #[.string s] w fun e w' => e = .returned (.bool (plainP s.data.toList)) ∧ w' = w := by
  by_cases h1 : s = ⟨#[67, 79, 78, 78, 69, 67, 84]⟩
  · subst h1
    rw [show plainP (⟨#[67, 79, 78, 78, 69, 67, 84]⟩ : ByteArray).data.toList = true by decide]
    go_enter Tryd.func22, Tryd.ntmps22
    go_wp2_with fail
    go_ret
    exact ⟨rfl, rfl⟩
  · have hp : plainP s.data.toList = (s.toList == [67, 79, 78, 78, 69, 67, 84] || s.toList == [67, 79, 78, 78, 69, 67, 84, 69, 68]) := by unfold plainP; rw [ByteArray.toList_eq]; rfl
    rw [hp]
    have n1 : ¬ s.toList = [67, 79, 78, 78, 69, 67, 84] := fun e => h1 (ba_ext (by rw [← ByteArray.toList_eq, e]))
    clear hp h1
    go_enter Tryd.func22, Tryd.ntmps22
    go_wp2_with fail
    go_ret
    exact ⟨rfl, rfl⟩

/-- A header's cells; a row of headers that is read. -/
def hdC (h : L8 × L8) : List Value := [.string ⟨h.1.toArray⟩, .string ⟨h.2.toArray⟩]
def RHd (w : World) (v : Value) (hs : List (L8 × L8)) : Prop := RC w v hs.length 2 (hs.flatMap hdC)
theorem hd_at : ∀ (hs : List (L8 × L8)) (k j : Nat) (h : L8 × L8), hs[k]? = some h → j < 2 → (hs.flatMap hdC)[k * 2 + j]? = (hdC h)[j]?
  | [], k, j, h, hk, _ => by cases hk
  | x :: t, 0, j, h, hk, hj => by
    injection hk with hk; subst hk
    rw [Nat.zero_mul, Nat.zero_add, List.flatMap_cons, List.getElem?_append_left (by show j < 2; exact hj)]
  | x :: t, k + 1, j, h, hk, hj => by
    rw [List.flatMap_cons, List.getElem?_append_right (by show 2 ≤ _; omega)]
    have e : (k + 1) * 2 + j - (hdC x).length = k * 2 + j := by show (k + 1) * 2 + j - 2 = _; omega
    rw [e]
    exact hd_at t k j h hk hj
theorem add_one_of' (a : Addr) (k j : Nat) (hj : 0 < j) : a.add (k + j) = ⟨(a.add k).block, (a.add k).off + j, none⟩ ∨ a.add (k + j) = (a.add k).add j := .inr (add_add a k j).symm
theorem heads_lit {w : World} {A : Option Addr} {n c : Nat} {hs : List (L8 × L8)} (h : RHd w (.slice A n c) hs) (k : Nat) (x : L8 × L8) (hx : hs[k]? = some x) :
    ∃ a, A = some a ∧ w.cell? (a.add (k * 2)) = some (.string ⟨x.1.toArray⟩) ∧ w.cell? ⟨(a.add (k * 2)).block, (a.add (k * 2)).off + 1, none⟩ = some (.string ⟨x.2.toArray⟩) := by
  obtain ⟨A', c', he, _, _, _, _, h5⟩ := h
  injection he with e1 e2 e3
  subst e1
  obtain ⟨a, ha, h0⟩ := h5 (k * 2) (.string ⟨x.1.toArray⟩) (by rw [show k * 2 = k * 2 + 0 from rfl, hd_at hs k 0 x hx (by decide)]; rfl)
  obtain ⟨a', ha', h1⟩ := h5 (k * 2 + 1) (.string ⟨x.2.toArray⟩) (by rw [hd_at hs k 1 x hx (by decide)]; rfl)
  rw [ha] at ha'
  injection ha' with ha'
  subst ha'
  refine ⟨a, ha, h0, ?_⟩
  rw [← add_add] at h1
  have e : (a.add (k * 2)).add 1 = ⟨(a.add (k * 2)).block, (a.add (k * 2)).off + 1, none⟩ := by
    unfold Addr.add at h1 ⊢
    simp
  rw [e] at h1
  exact h1
theorem rhd_below {w w1 : World} {v : Value} {hs : List (L8 × L8)} (h : RHd w v hs) (b : Below w.heap.size w w1) : RHd w1 v hs := rc_below h b
def getV (o : Option L8) : Value := match o with | some t => .tuple #[.string ⟨t.toArray⟩, .bool true] | none => .tuple #[.string ⟨#[]⟩, .bool false]
theorem get_cons {x : L8 × L8} {hs : List (L8 × L8)} {n : L8} : getP (x :: hs) n = if x.1 = n then some x.2 else getP hs n := by
  unfold getP
  rw [List.find?_cons]
  by_cases h : x.1 = n
  · rw [if_pos h, beq_iff_eq.2 h]; rfl
  · rw [if_neg h, beq_eq_false_iff_ne.2 h]
set_option maxRecDepth 100000 in
set_option maxHeartbeats 2000000 in
theorem get_c {w : World} (cm bd : ByteArray) (hs : List (L8 × L8)) (nm : ByteArray) {A : Option Addr} {c : Nat} (hr : RHd w (.slice A hs.length c) hs) (hl : hs.length ≤ 140737488355328) :
    Calls Tryd.prog 9 #[.agg #[.string cm, .slice A hs.length c, .string bd], .string nm] w fun e w' => e = .returned (getV (getP hs nm.data.toList)) ∧ Below w.heap.size w w' := by
  obtain ⟨g, hg⟩ : ∃ g, g = getP hs nm.data.toList := ⟨_, rfl⟩
  rw [← hg]
  obtain ⟨W, hW⟩ : ∃ W, W = w.alloc (.cells #[.string cm, .slice A hs.length c, .string bd] 25) := ⟨_, rfl⟩
  have b0 : Below w.heap.size w W := by rw [hW]; exact (Below.refl _ _).alloc (Nat.le_refl _) _
  have r0 : W.heap[w.heap.size]? = some (.cells #[.string cm, .slice A hs.length c, .string bd] 25 (0, 0)) := by rw [hW]; exact heap_alloc_new w _
  have x1 : W.cell? ⟨w.heap.size, 1, none⟩ = some (.slice A hs.length c) := by simp only [World.cell?, r0]; rfl
  have HG := Lib.hid hg
  have HR := Lib.hid (rhd_below hr b0)
  have HL := Lib.hid hl
  have HB0 := Lib.hid b0
  have HW := Lib.hid hW
  clear hg hr hl b0 hW r0
  go_enter Tryd.func9, Tryd.ntmps9
  go_upto_region 1 with fail
  rw [← HW.out]
  go_wp2_with fail
  clear x1
  go_loopw [11] (fun i wr => ∃ k : Nat, k ≤ hs.length ∧ i = .int .i64 k ∧ Hid (g = getP (hs.drop k) nm.data.toList) ∧ Hid (Below W.heap.size W wr)) (fun i _ => hs.length - (intOf i).toNat)
  case atStart => exact ⟨0, Nat.zero_le _, rfl, Lib.hid (by rw [List.drop_zero]; exact HG.out), Lib.hid (Below.refl _ _)⟩
  case round =>
    obtain ⟨k, hk, rfl, HK, HB⟩ := hrel
    by_cases hlt : k < hs.length
    · obtain ⟨x, hx⟩ : ∃ x, hs[k]? = some x := ⟨_, List.getElem?_eq_getElem hlt⟩
      obtain ⟨a, rfl, q0, q1⟩ := heads_lit (rhd_below HR.out HB.out) k x hx
      obtain ⟨xn, hxn⟩ : ∃ xn : ByteArray, xn = ⟨x.1.toArray⟩ := ⟨_, rfl⟩
      rw [← hxn] at q0
      have hkI : (k : Int) < (hs.length : Int) := by omega
      have HLT := Lib.hid hlt
      have HWK1 := Lib.hid (wk1' k _ hlt (by have := HL.out; omega))
      have hdr : hs.drop k = x :: hs.drop (k + 1) := by
        obtain ⟨h1, h2⟩ := List.getElem?_eq_some_iff.1 hx
        rw [← h2]; exact List.drop_eq_getElem_cons h1
      have HGC : Hid (g = if x.1 = nm.data.toList then some x.2 else getP (hs.drop (k + 1)) nm.data.toList) := Lib.hid (by rw [HK.out, hdr, get_cons])
      have HBJ : Hid (∀ o, Below W.heap.size W (wr.alloc o)) := Lib.hid (fun o => HB.out.alloc HB.out.size o)
      have HXN := Lib.hid hxn
      clear hx hlt hk hdr hxn HK
      by_cases he : xn = nm
      · have hee := str_eqb he
        obtain rfl : g = some x.2 := by rw [HGC.out, if_pos (by rw [← he, HXN.out])]
        clear he
        go_wp2_with fail
        go_ret2
        exact ⟨rfl, HB0.out.trans ((HBJ.out _).mono HB0.out.size)⟩
      · have hee := str_ne he
        have HK2 : Hid (g = getP (hs.drop (k + 1)) nm.data.toList) := Lib.hid (by rw [HGC.out, if_neg (fun e => he (by rw [HXN.out, e, ba_self]))])
        clear he
        go_wp2_with fail
        go_roundw
        case rel => exact ⟨k + 1, HLT.out, by first | rfl | (rw [HWK1.out]; rfl), HK2, Lib.hid (HBJ.out _)⟩
        case measure => first | exact less1 HLT.out | (rw [HWK1.out]; exact less1 HLT.out)
    · have hk2 : k = hs.length := by omega
      subst hk2
      obtain rfl : g = none := by rw [HK.out, List.drop_length]; rfl
      clear hlt hk HK
      go_wp2_with fail
      go_ret2
      exact ⟨rfl, HB0.out.trans (HB.out.mono HB0.out.size)⟩
end Go.Proofs.YtfpdmgmolhddnaaDoor
