/- Layer 18: the body's size, as the headers say: the walk. -/
import Derived.Test.YtfpdmgmolhddnaaDoorSfE
import Derived.Test.YtfpdmgmolhddnaaDoorOpen
import Derived.Lib.ItoaLen
import Derived.Lib.AppendIntMem
namespace Go.Proofs.YtfpdmgmolhddnaaDoor
open Go Go.RowKit Go.Sort
open Go.ChangeShapes Go.WideShapes Go.Deep
set_option linter.unusedSimpArgs false
set_option linter.unusedVariables false

/-- The listed variables lie below block NG. -/
def NG : Nat := max (max 3 1) 2 + 1
/-- What the listed variables hold. -/
structure G (w : World) : Prop where
  tab : Lib.TabIs Tryd.prog w "internal/strconv.uint64pow10" .u64 Lib.pow10Tab
  syn : ∃ tp p, w.var? Tryd.prog "strconv.ErrSyntax" = some #[.iface tp p]
  rng : ∃ tp p, w.var? Tryd.prog "strconv.ErrRange" = some #[.iface tp p]
  sz : NG ≤ w.heap.size
theorem G.below {w w1 : World} {B : Nat} (h : G w) (hB : NG ≤ B) (hb : Below B w w1) : G w1 := by
  obtain ⟨h1, ⟨a, b, h2⟩, ⟨c, d, h3⟩, h4⟩ := h
  refine ⟨var?_below hb (g := 3) (by kernel_rfl) (by unfold NG at hB; omega) h1, ⟨a, b, var?_below hb (g := 1) (by kernel_rfl) (by unfold NG at hB; omega) h2⟩, ⟨c, d, var?_below hb (g := 2) (by kernel_rfl) (by unfold NG at hB; omega) h3⟩, ?_⟩
  have := hb.size
  omega
theorem G.on {w w1 : World} (h : G w) (hb : Below w.heap.size w w1) : G w1 := h.below h.sz hb
theorem itoa_c (n : Int) (h0 : -9223372036854775808 ≤ n) (h1 : n ≤ 9223372036854775807) {w : World} (hG : G w) :
    Calls Tryd.prog 25 #[.int .i64 n] w fun e w' => e = .returned (.string ⟨(Lib.itoa n).toArray⟩) ∧ Below w.heap.size w w' :=
  (Tryd.strconv_Itoa n h0 h1 w hG.tab).mono fun e w' ⟨he, k, os, hw⟩ => ⟨he, by rw [hw]; exact Lib.below_grow _ _ (Nat.le_refl _) _ _⟩
theorem str_sz (l : List UInt8) : (⟨l.toArray⟩ : ByteArray).size = l.length := by show l.toArray.size = _; simp
theorem str_ls (l : List UInt8) : (⟨l.toArray⟩ : ByteArray).data.toList = l := by simp
def atoiV (l : List UInt8) : Int :=
  match Lib.atoiAll l with
  | .ok n => n
  | .range => Lib.atoiSat l
  | _ => 0
theorem bytesWorld_below (w : World) (t : ByteArray) : Below w.heap.size w (Lib.bytesWorld w 5 t) :=
  ⟨rfl, rfl, rfl, by rw [Lib.bytesWorld_size]; omega, fun i hi => Lib.bytesWorld_at_old w 5 t i hi⟩
theorem atoi_ok (l : List UInt8) (hl : l.length ≤ 70368744177664) (n : Int) (h : Lib.atoiAll l = .ok n) (w : World) :
    Calls Tryd.prog 24 #[.string ⟨l.toArray⟩] w fun e w' => e = .returned (.tuple #[.int .i64 n, .nilIface]) ∧ Below w.heap.size w w' :=
  (Tryd.strconv_Atoi_ok ⟨l.toArray⟩ (by rw [str_sz]; omega) n h w).mono fun e w' ⟨he, hw⟩ => ⟨he, by
    rcases hw with rfl | ⟨t, rfl⟩
    · exact Below.refl _ _
    · exact bytesWorld_below _ _⟩
theorem atoi_bad (l : List UInt8) (hl : l.length ≤ 70368744177664) (h : ∀ n, Lib.atoiAll l ≠ .ok n) {w : World} (hG : G w) :
    Calls Tryd.prog 24 #[.string ⟨l.toArray⟩] w fun e w' => (∃ N, e = .returned (.tuple #[.int .i64 (atoiV l), .iface 76 (.pointer (some ⟨N, 0, none⟩))])) ∧ Below w.heap.size w w' := by
  by_cases hr : Lib.atoiAll l = .range
  · obtain ⟨tp, p, hv⟩ := hG.rng
    refine (Tryd.strconv_Atoi_range_var ⟨l.toArray⟩ (by rw [str_sz]; omega) hr tp p w hv).mono fun e w' ⟨N, he, _, _, hb⟩ => ⟨⟨N, ?_⟩, hb⟩
    rw [he]; simp [atoiV, hr, str_ls]
  · obtain ⟨tp, p, hv⟩ := hG.syn
    cases hc : Lib.atoiAll l with
    | ok n => exact absurd hc (h n)
    | range => exact absurd hc hr
    | _ =>
      refine (Any.strconv_Atoi_syntax_var Tryd.laysC172 ⟨l.toArray⟩ (by rw [str_sz]; omega) hc tp p w hv).mono fun e w' ⟨N, he, _, _, hb⟩ => ⟨⟨N, ?_⟩, hb⟩
      rw [he]; simp [atoiV, hc]; rfl
/-- The number that a text writes, up to 1024. -/
def numT (t : L8) : Option Nat := match Lib.atoiAll t with
  | .ok v => if 0 ≤ v ∧ v ≤ 1024 ∧ Lib.itoa v = t then some v.toNat else none
  | _ => none
theorem numT_bad {t : L8} (h : ∀ n, Lib.atoiAll t ≠ .ok n) : numT t = none := by
  unfold numT
  cases hc : Lib.atoiAll t with
  | ok n => exact absurd hc (h n)
  | _ => rfl
theorem numT_ok {t : L8} {v : Int} (h : Lib.atoiAll t = .ok v) : numT t = if 0 ≤ v ∧ v ≤ 1024 ∧ Lib.itoa v = t then some v.toNat else none := by unfold numT; rw [h]

set_option maxRecDepth 100000 in
set_option maxHeartbeats 2000000 in
theorem size_c {w : World} (cm bd : ByteArray) (hs : List (L8 × L8)) {A : Option Addr} {c : Nat} (hr : RHd w (.slice A hs.length c) hs) (hl : hs.length ≤ 140737488355328) (ht : ∀ h ∈ hs, h.2.length ≤ 1073741824) (hG : G w) :
    Calls Tryd.prog 16 #[.agg #[.string cm, .slice A hs.length c, .string bd]] w fun e w' => e = .returned (.int .i64 (sizeP numT hs)) ∧ Below w.heap.size w w' := by
  obtain ⟨N, hN⟩ : ∃ N, N = sizeP numT hs := ⟨_, rfl⟩
  rw [← hN]
  unfold sizeP at hN
  obtain ⟨W, hW⟩ : ∃ W, W = w.alloc (.cells #[.string cm, .slice A hs.length c, .string bd] 25) := ⟨_, rfl⟩
  have b0 : Below w.heap.size w W := by rw [hW]; exact (Below.refl _ _).alloc (Nat.le_refl _) _
  have r0 : W.heap[w.heap.size]? = some (.cells #[.string cm, .slice A hs.length c, .string bd] 25 (0, 0)) := by rw [hW]; exact heap_alloc_new w _
  have x0 : W.cell? ⟨w.heap.size, 0, none⟩ = some (.string cm) := by simp only [World.cell?, r0]; rfl
  have x1 : W.cell? ⟨w.heap.size, 1, none⟩ = some (.slice A hs.length c) := by simp only [World.cell?, r0]; rfl
  have x2 : W.cell? ⟨w.heap.size, 2, none⟩ = some (.string bd) := by simp only [World.cell?, r0]; rfl
  have hgc := get_c (w := W) cm bd hs ⟨#[99, 111, 110, 116, 101, 110, 116, 45, 108, 101, 110, 103, 116, 104]⟩ (rhd_below hr b0) hl
  rw [show (⟨#[99, 111, 110, 116, 101, 110, 116, 45, 108, 101, 110, 103, 116, 104]⟩ : ByteArray).data.toList = clenB from rfl] at hgc
  have htl : ∀ t, getP hs clenB = some t → t.length ≤ 1073741824 := fun t h => by
    unfold getP at h
    obtain ⟨x, hx, rfl⟩ := Option.map_eq_some_iff.1 h
    exact ht x (List.mem_of_find?_eq_some hx)
  have HTL := Lib.hid htl
  obtain ⟨g, hg⟩ : ∃ g, g = getP hs clenB := ⟨_, rfl⟩
  rw [← hg] at hgc hN HTL
  have HGC := Lib.hid hgc
  have HN := Lib.hid hN
  have HGG := Lib.hid (hG.on b0)
  have HB0 := Lib.hid b0
  have HW := Lib.hid hW
  clear hgc hN hG b0 hW r0 hg htl ht hr hl
  go_enter Tryd.func16, Tryd.ntmps16
  go_upto_region 1 with fail
  rw [← HW.out]
  go_wp2_with fail
  refine (HGC.out).mono ?_
  rintro e w1 ⟨rfl, b1⟩
  have B1 := Lib.hid b1
  clear b1 x0 x1 x2 HGC
  cases g with
  | none =>
    obtain rfl : N = -1 := HN.out
    have hgv : getV none = .tuple #[.string ⟨#[]⟩, .bool false] := rfl
    rw [hgv]
    clear hgv
    go_wp2_with fail
    go_ret
    exact ⟨rfl, HB0.out.trans (B1.out.mono HB0.out.size)⟩
  | some t =>
    have hgv : getV (some t) = .tuple #[.string ⟨t.toArray⟩, .bool true] := rfl
    rw [hgv]
    clear hgv
    have hlt := HTL.out t rfl
    have HG1 := Lib.hid (HGG.out.on B1.out)
    by_cases hok : ∃ v, Lib.atoiAll t = .ok v
    · obtain ⟨v, hv⟩ := hok
      have HAT := Lib.hid (atoi_ok t (by omega) v hv w1)
      have hnt := numT_ok hv
      have HN2 := HN
      clear hlt hv
      by_cases h1 : v < 0
      · obtain rfl : N = -2 := by rw [HN.out]; show (match numT t with | none => (-2 : Int) | some n => n) = _; rw [hnt, if_neg (by omega)]
        clear hnt
        go_wp2_with fail
        refine (HAT.out).mono ?_
        rintro e w2 ⟨rfl, b2⟩
        go_wp2_with fail
        go_ret
        exact ⟨rfl, HB0.out.trans ((B1.out.trans (b2.mono B1.out.size)).mono HB0.out.size)⟩
      · have k1 : 0 ≤ v := by omega
        by_cases h2 : 1024 < v
        · obtain rfl : N = -2 := by rw [HN.out]; show (match numT t with | none => (-2 : Int) | some n => n) = _; rw [hnt, if_neg (by omega)]
          clear hnt h1
          go_wp2_with fail
          refine (HAT.out).mono ?_
          rintro e w2 ⟨rfl, b2⟩
          go_wp2_with fail
          go_ret
          exact ⟨rfl, HB0.out.trans ((B1.out.trans (b2.mono B1.out.size)).mono HB0.out.size)⟩
        · have k2 : v ≤ 1024 := by omega
          have HIT := Lib.hid (fun w2 (b : Below w1.heap.size w1 w2) => itoa_c v (by omega) (by omega) (w := w2) (HG1.out.on b))
          obtain ⟨i, hi⟩ : ∃ i : ByteArray, i = ⟨(Lib.itoa v).toArray⟩ := ⟨_, rfl⟩
          obtain ⟨tb, htb⟩ : ∃ tb : ByteArray, tb = ⟨t.toArray⟩ := ⟨_, rfl⟩
          rw [← hi] at HIT
          rw [← htb] at HAT ⊢
          by_cases h3 : Lib.itoa v = t
          · obtain rfl : N = v := by rw [HN.out]; show (match numT t with | none => (-2 : Int) | some n => n) = _; rw [hnt, if_pos ⟨k1, k2, h3⟩]; exact Int.toNat_of_nonneg k1
            have hq := str_eqb (a := i) (b := tb) (by rw [hi, htb, h3])
            clear hnt h1 h2 h3 hi htb
            go_wp2_with fail
            refine (HAT.out).mono ?_
            rintro e w2 ⟨rfl, b2⟩
            go_wp2_with fail
            refine (HIT.out _ b2).mono ?_
            rintro e w3 ⟨rfl, b3⟩
            go_wp2_with fail
            go_ret
            exact ⟨rfl, HB0.out.trans ((B1.out.trans ((b2.trans (b3.mono b2.size)).mono B1.out.size)).mono HB0.out.size)⟩
          · obtain rfl : N = -2 := by rw [HN.out]; show (match numT t with | none => (-2 : Int) | some n => n) = _; rw [hnt, if_neg (fun h => h3 h.2.2)]
            have hq := str_ne (a := i) (b := tb) (fun e => h3 (by have h := congrArg (fun z : ByteArray => z.data.toList) e; rw [hi, htb] at h; simpa using h))
            clear hnt h1 h2 h3 hi htb
            go_wp2_with fail
            refine (HAT.out).mono ?_
            rintro e w2 ⟨rfl, b2⟩
            go_wp2_with fail
            refine (HIT.out _ b2).mono ?_
            rintro e w3 ⟨rfl, b3⟩
            go_wp2_with fail
            go_ret
            exact ⟨rfl, HB0.out.trans ((B1.out.trans ((b2.trans (b3.mono b2.size)).mono B1.out.size)).mono HB0.out.size)⟩
    · have hbad : ∀ n, Lib.atoiAll t ≠ .ok n := fun n e => hok ⟨n, e⟩
      obtain rfl : N = -2 := by rw [HN.out]; show (match numT t with | none => (-2 : Int) | some n => n) = _; rw [numT_bad hbad]
      have HAB := Lib.hid (atoi_bad t (by omega) hbad HG1.out)
      clear hok hbad hlt
      go_wp2_with fail
      refine (HAB.out).mono ?_
      rintro e w2 ⟨⟨M, rfl⟩, b2⟩
      go_wp2_with fail
      go_ret
      exact ⟨rfl, HB0.out.trans ((B1.out.trans (b2.mono B1.out.size)).mono HB0.out.size)⟩
end Go.Proofs.YtfpdmgmolhddnaaDoor
