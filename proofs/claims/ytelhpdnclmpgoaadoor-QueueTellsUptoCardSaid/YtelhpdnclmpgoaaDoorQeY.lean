/- Layer 10: slices.DeleteFunc. (Printed by gen/qey.py.) -/
import Derived.Test.YtelhpdnclmpgoaaDoorQeX
import Derived.Deep.DeepCutAuto
namespace Go.Proofs.YtelhpdnclmpgoaaDoor
open Go Go.RowKit Go.Sort
open Go.ChangeShapes Go.WideShapes Go.Deep
set_option linter.unusedSimpArgs false
set_option linter.unusedVariables false

/-- What isn't gone. -/
def keepR (now : Int) (x : ItR) : Bool := !gone now x.it
theorem df_start {w w1 : World} {B g c : Nat} {xs : List ItR} {p : ItR → Bool} {k : Nat} {x : ItR} (ho : w.ownsRow B 44 7 (.slice (some ⟨g, 0, none⟩) xs.length c) xs.length (xs.flatMap ItR.cells)) (b1 : Below w.heap.size w w1) (hx : xs[k]? = some x) (hp : p x = false) (hf : ∀ y ∈ xs.take k, p y = true) : DF w w1 B g c xs p k (k + 1) := by
  have e : (xs.take (k + 1)).filter p = xs.take k := by rw [List.take_add_one, hx]; simp only [List.filter_append, Option.toList_some]; rw [filter_all hf]; simp [hp]
  have hk := (List.getElem?_eq_some_iff.1 hx).1
  exact ⟨by rw [e, List.take_append_drop]; exact own_below ho b1, by rw [e, List.length_take]; omega, Nat.lt_succ_self k, grownBy_below b1 _⟩
theorem df_end {w wr : World} {B g c a : Nat} {xs : List ItR} {p : ItR → Bool} (h : DF w wr B g c xs p a (xs.length + 1) ∨ DF w wr B g c xs p a xs.length) (hal : a < xs.length) :
    ∃ (cur Z : Array Value), wr.heap[g]? = some (.cells cur 44 (0, 0)) ∧ xs.length ≤ c ∧ c ≤ 9223372036854775807 ∧
      (∀ ty, (Builtin.clear_ #[22] ty #[.slice (some ⟨g, a * 7, none⟩) (xs.length - a) (c - a)]).run Tryd.prog wr = .ok (.tuple #[]) (wr.setRow g Z)) ∧
      (wr.setRow g Z).ownsRow B 44 7 (.slice (some ⟨g, 0, none⟩) (xs.filter p).length c) (xs.filter p).length ((xs.filter p).flatMap ItR.cells) ∧ (xs.filter p).length = a ∧ w.grownBy (wr.setRow g Z) (some g) := by
  obtain ⟨row, len, gr⟩ : wr.ownsRow B 44 7 (.slice (some ⟨g, 0, none⟩) xs.length c) xs.length ((xs.filter p ++ xs.drop a).flatMap ItR.cells) ∧ (xs.filter p).length = a ∧ w.grownBy wr (some g) := by
    rcases h with h | h
    · have e : xs.take (xs.length + 1) = xs := List.take_of_length_le (by omega)
      have := h.row; have h2 := h.len; rw [e] at this h2; exact ⟨this, h2, h.gr⟩
    · have := h.row; have h2 := h.len; rw [List.take_length] at this h2; exact ⟨this, h2, h.gr⟩
  obtain ⟨hxl, h2⟩ := row
  rcases h2 with ⟨h2, _⟩ | ⟨g', cap, cur, he, hB, hg, hnc, hc63, hs, ht⟩
  · cases h2
  injection he with e1 e2 e3
  injection e1 with e1
  injection e1 with e1 _ _
  subst e1 e3
  have hcl : cur.toList.length = c * 7 := by rw [Array.length_toList, hs]
  have hmx : c ≤ 9223372036854775807 := by simpa [maxLen] using hc63
  obtain ⟨Z, hZ⟩ : ∃ Z, Z = (Builtin.zeroCells (Value.cells (.agg #[.int .i64 0, .bool false, .string ByteArray.empty, .string ByteArray.empty, .slice none 0 0, .bool false, .int .i64 0])) (xs.length - a)).toList := ⟨_, rfl⟩
  have hZl : Z.length = (xs.length - a) * 7 := by rw [hZ, zlenI]
  refine ⟨cur, (cur.toList.take (a * 7) ++ Z ++ cur.toList.drop (a * 7 + Z.length)).toArray, hg, hnc, hmx, fun ty => ?_, ⟨by rw [flat_len ItR.cells 7 (fun _ => rfl)], .inr ⟨g, c, _, rfl, hB, setRow_heap _ g cur _ _ (0, 0) hg, by rw [len]; omega, hc63, ?_, ?_⟩⟩, len, grownBy_trans gr ⟨rfl, rfl, rfl, by simp [World.setRow], fun k hk hne' => setRow_other _ g k _ (fun e => hne' (by rw [e]))⟩⟩
  · exact run_clear_rowK wr 22 44 ty _ _ Tryd.underlying22 zvalI g _ _ _ cur hg (by omega) Z hZ (by rw [hZl, ← Array.length_toList, hcl]; omega) (by rw [hZ]; exact zoneI _)
  · simp only [List.size_toArray, List.length_append, List.length_take, List.length_drop, hcl, hZl]; omega
  · have e7 : ((xs.filter p).flatMap ItR.cells).length = a * 7 := by rw [flat_len ItR.cells 7 (fun _ => rfl), len]
    have e1 : cur.toList.take (a * 7) = (xs.filter p).flatMap ItR.cells := by
      have := congrArg (List.take (a * 7)) ht
      rw [List.take_take, Nat.min_eq_left (by omega), List.flatMap_append, List.take_left' e7] at this
      exact this
    rw [len]
    show ((cur.toList.take (a * 7) ++ Z) ++ _).take (a * 7) = _
    rw [List.append_assoc, List.take_left' (by rw [e1]; exact e7), e1]

set_option maxRecDepth 100000 in
set_option maxHeartbeats 4000000 in
theorem deleteF_c {w : World} {B c g1 : Nat} {A : Option Addr} {xs : List ItR} (now : Int) (h1 : w.cell? ⟨g1, 0, none⟩ = some (.int .i64 now)) (ho : w.ownsRow B 44 7 (.slice A xs.length c) xs.length (xs.flatMap ItR.cells)) (hok : ∀ x ∈ xs, x.ok w) (hne : (Value.slice A xs.length c).ownBlock ≠ some g1) (hl : xs.length ≤ 1099511627776) :
    Calls Tryd.prog 41 #[.slice A xs.length c, .func (.func 42) #[] #[.pointer (some ⟨g1, 0, none⟩)]] w fun e w' => e = .returned (.slice A (xs.filter (keepR now)).length c) ∧ w'.ownsRow B 44 7 (.slice A (xs.filter (keepR now)).length c) (xs.filter (keepR now)).length ((xs.filter (keepR now)).flatMap ItR.cells) ∧ w.grownBy w' (Value.slice A xs.length c).ownBlock := by
  have HIX := Lib.hid (indexI_c now h1 ⟨own_rc ho, hok⟩ hl)
  have HO := Lib.hid ho
  have HN := Lib.hid h1
  have HNE := Lib.hid hne
  have HL := Lib.hid hl
  clear h1 ho hok hne hl
  go_enter Tryd.func41, Tryd.ntmps41
  go_wp2_with fail
  refine (HIX.out).mono ?_
  rintro e w1 ⟨i, hi, rfl, b1⟩
  rcases hi with ⟨rfl, hno⟩ | ⟨k, x0, rfl, hx0, hp0, hf0⟩
  · have e : xs.filter (keepR now) = xs := filter_all (fun x hx => by have h : gone now x.it = false := hno x hx; unfold keepR; rw [h]; rfl)
    have HE := Lib.hid e
    have HO1 := Lib.hid (own_below HO.out b1)
    have HB1 := Lib.hid b1
    clear hno b1 e HIX
    go_wp2_with fail
    go_ret
    exact ⟨by rw [HE.out]; rfl, by rw [HE.out]; exact HO1.out, grownBy_below HB1.out _⟩
  · have hk := (List.getElem?_eq_some_iff.1 hx0).1
    obtain ⟨g, hg⟩ : ∃ g, A = some ⟨g, 0, none⟩ := by
      rcases HO.out.2 with ⟨_, h0⟩ | ⟨g, cc, cur, h1, _⟩
      · omega
      · injection h1 with h1; exact ⟨g, h1⟩
    subst hg
    have H0 := Lib.hid (df_start (p := keepR now) HO.out b1 hx0 (by have h : gone now x0.it = true := hp0; unfold keepR; rw [h]; rfl) (fun y hy => by have h : gone now y.it = false := hf0 y hy; unfold keepR; rw [h]; rfl))
    have hwk : wrap64 ((k : Int) + 1) = ((k + 1 : Nat) : Int) := by have := HL.out; unfold wrap64; omega
    have hk1 : ((k : Int) == -1) = false := by rw [beq_eq_false_iff_ne]; omega
    have HKL : Hid (k + 1 ≤ xs.length) := Lib.hid hk
    have HWK := Lib.hid hwk
    clear hx0 hp0 hf0 b1 hk HIX
    go_wp2_with fail
    clear hk1
    go_loopw [5, 6] (fun i j wr => ∃ a b : Nat, i = .int .i64 a ∧ j = .int .i64 b ∧ b ≤ xs.length ∧ Hid (DF w wr B g c xs (keepR now) a b)) (fun _ j _ => xs.length - (intOf j).toNat)
    case atStart => exact ⟨k, k + 1, rfl, by first | rfl | (rw [HWK.out]), HKL.out, H0⟩
    case round =>
      clear H0 hwk
      obtain ⟨a, b, rfl, rfl, hb, HD⟩ := hrel
      by_cases hlt : b < xs.length
      · obtain ⟨x, hx⟩ : ∃ x, xs[b]? = some x := ⟨_, List.getElem?_eq_getElem hlt⟩
        have hal : a < xs.length := Nat.lt_trans HD.out.ab hlt
        obtain ⟨y, hy⟩ : ∃ y, xs[a]? = some y := ⟨_, List.getElem?_eq_getElem hal⟩
        have HX := Lib.hid hx
        have HY := Lib.hid hy
        have HLT := Lib.hid hlt
        have hbI : (b : Int) < (xs.length : Int) := by omega
        have haI : (a : Int) < (xs.length : Int) := by omega
        have hcs : ∀ w1, Below wr.heap.size wr w1 → ∀ j u, (x.cells)[j]? = some u → w1.cell? ⟨g, b * 7 + j, none⟩ = some u := fun w1 bl j u hu => own_cell (f := ItR.cells) (s := 7) (by omega) (fun _ => rfl) (HD.out.below bl).row (HD.out.at (Nat.le_of_lt HD.out.ab) HX.out) j u hu
        have q0 : wr.cell? ⟨g, b * 7, none⟩ = some (.int .i64 x.it.seq) := hcs wr (Below.refl _ _) 0 _ rfl
        have q1 := hcs wr (Below.refl _ _) 1 _ rfl
        have q2 := hcs wr (Below.refl _ _) 2 _ rfl
        have q3 := hcs wr (Below.refl _ _) 3 _ rfl
        have q4 := hcs wr (Below.refl _ _) 4 _ rfl
        have q5 := hcs wr (Below.refl _ _) 5 _ rfl
        have q6 := hcs wr (Below.refl _ _) 6 _ rfl
        clear hcs hx hy hlt hal hb
        go_upto_region 8 with fail
        obtain ⟨W7, hW7⟩ : ∃ W7, W7 = wr.alloc (.cells #[.int .i64 x.it.seq, .bool x.it.again, .string x.it.m.top, .string x.it.m.body, .slice x.pa x.it.m.ps.length x.pc, .bool x.it.m.dur, .int .i64 x.it.m.unt] 44) := ⟨_, rfl⟩
        rw [← hW7]
        have b7 : Below wr.heap.size wr W7 := by rw [hW7]; exact (Below.refl _ _).alloc (Nat.le_refl _) _
        have rv : W7.heap[wr.heap.size]? = some (.cells #[.int .i64 x.it.seq, .bool x.it.again, .string x.it.m.top, .string x.it.m.body, .slice x.pa x.it.m.ps.length x.pc, .bool x.it.m.dur, .int .i64 x.it.m.unt] 44 (0, 0)) := by rw [hW7]; exact heap_alloc_new wr _
        have HD7 := Lib.hid (HD.out.below b7)
        have hnw : W7.cell? ⟨g1, 0, none⟩ = some (.int .i64 now) := (World.cell?_of_block (by exact HD7.out.gr.block g1 (World.block_lt_of_cell? w _ HN.out) (fun e => HNE.out e.symm))).trans HN.out
        have HFX := Lib.hid (expireF_c (w := W7) x now hnw)
        have HRV := Lib.hid rv
        clear hW7 b7 rv hnw HD q0 q1 q2 q3 q4 q5 q6
        have v0 : W7.cell? ⟨wr.heap.size, 0, none⟩ = some (.int .i64 x.it.seq) := by simp only [World.cell?, HRV.out]; rfl
        have v1 : W7.cell? ⟨wr.heap.size, 1, none⟩ = some (.bool x.it.again) := by simp only [World.cell?, HRV.out]; rfl
        have v2 : W7.cell? ⟨wr.heap.size, 2, none⟩ = some (.string x.it.m.top) := by simp only [World.cell?, HRV.out]; rfl
        have v3 : W7.cell? ⟨wr.heap.size, 3, none⟩ = some (.string x.it.m.body) := by simp only [World.cell?, HRV.out]; rfl
        have v4 : W7.cell? ⟨wr.heap.size, 4, none⟩ = some (.slice x.pa x.it.m.ps.length x.pc) := by simp only [World.cell?, HRV.out]; rfl
        have v5 : W7.cell? ⟨wr.heap.size, 5, none⟩ = some (.bool x.it.m.dur) := by simp only [World.cell?, HRV.out]; rfl
        have v6 : W7.cell? ⟨wr.heap.size, 6, none⟩ = some (.int .i64 x.it.m.unt) := by simp only [World.cell?, HRV.out]; rfl
        go_wp2_with fail
        refine (HFX.out).mono ?_
        rintro e w8 ⟨rfl, b8⟩
        have HD8 := Lib.hid (HD7.out.below b8)
        have HRV8 := Lib.hid ((b8.block _ (Array.getElem?_eq_some_iff.1 HRV.out).1).trans HRV.out)
        clear b8 HD7 HRV HFX v0 v1 v2 v3 v4 v5 v6
        have hwb : wrap64 ((b : Int) + 1) = ((b + 1 : Nat) : Int) := by have := HL.out; have := HLT.out; unfold wrap64; omega
        have HWB := Lib.hid hwb
        cases hgn : gone now x.it with
        | true =>
          have HS := Lib.hid (HD8.out.skip HX.out (by unfold keepR; rw [hgn]; rfl))
          clear hgn hwb
          go_wp2_with fail
          go_roundw
          case rel => exact ⟨a, b + 1, rfl, by first | rfl | (rw [HWB.out]), HLT.out, HS⟩
          case measure => first | exact round_less1 HLT.out | (rw [HWB.out]; exact round_less1 HLT.out)
        | false =>
          have HS := Lib.hid (HD8.out.put HX.out (by unfold keepR; rw [hgn]; rfl))
          have hwa : wrap64 ((a : Int) + 1) = ((a + 1 : Nat) : Int) := by have := HL.out; have := HLT.out; have := HD8.out.ab; unfold wrap64; omega
          have HWA := Lib.hid hwa
          have hss : ∀ j u, (y.cells)[j]? = some u → w8.cell? ⟨g, a * 7 + j, none⟩ = some u := fun j u hu => own_cell (f := ItR.cells) (s := 7) (by omega) (fun _ => rfl) HD8.out.row (HD8.out.at (Nat.le_refl _) HY.out) j u hu
          have s0 : w8.cell? ⟨g, a * 7, none⟩ = some (.int .i64 y.it.seq) := hss 0 _ rfl
          have s1 := hss 1 _ rfl
          have s2 := hss 2 _ rfl
          have s3 := hss 3 _ rfl
          have s4 := hss 4 _ rfl
          have s5 := hss 5 _ rfl
          have s6 := hss 6 _ rfl
          have v0 : w8.cell? ⟨wr.heap.size, 0, none⟩ = some (.int .i64 x.it.seq) := by simp only [World.cell?, HRV8.out]; rfl
          have v1 : w8.cell? ⟨wr.heap.size, 1, none⟩ = some (.bool x.it.again) := by simp only [World.cell?, HRV8.out]; rfl
          have v2 : w8.cell? ⟨wr.heap.size, 2, none⟩ = some (.string x.it.m.top) := by simp only [World.cell?, HRV8.out]; rfl
          have v3 : w8.cell? ⟨wr.heap.size, 3, none⟩ = some (.string x.it.m.body) := by simp only [World.cell?, HRV8.out]; rfl
          have v4 : w8.cell? ⟨wr.heap.size, 4, none⟩ = some (.slice x.pa x.it.m.ps.length x.pc) := by simp only [World.cell?, HRV8.out]; rfl
          have v5 : w8.cell? ⟨wr.heap.size, 5, none⟩ = some (.bool x.it.m.dur) := by simp only [World.cell?, HRV8.out]; rfl
          have v6 : w8.cell? ⟨wr.heap.size, 6, none⟩ = some (.int .i64 x.it.m.unt) := by simp only [World.cell?, HRV8.out]; rfl
          have fz : ∀ j, w8.frozen? ⟨g, j, none⟩ = false := fun j => own_frz HD8.out.row j
          clear hgn hss hwa hwb
          go_wp2_with fail
          go_roundw
          case rel => exact ⟨a + 1, b + 1, by first | rfl | (rw [HWA.out]), by first | rfl | (rw [HWB.out]), HLT.out, HS⟩
          case measure => first | exact round_less1 HLT.out | (rw [HWB.out]; exact round_less1 HLT.out)
      · have hbe : b = xs.length := by omega
        subst hbe
        have hal : a < xs.length := HD.out.ab
        obtain ⟨cur, Z, hg, hnc, hmx, hclr, hfin, hlen, hgr⟩ := df_end (.inr HD.out) hal
        have HFIN := Lib.hid hfin
        have HGR := Lib.hid hgr
        have HLEN := Lib.hid hlen
        have hne3 : ¬ (c = a) := by omega
        have hic : a ≤ c := by omega
        have hin : a ≤ xs.length := by omega
        clear hfin hgr hlen hlt hb HD hg
        go_wp2_with fail
        go_ret
        exact ⟨by rw [HLEN.out]; rfl, HFIN.out, HGR.out⟩
end Go.Proofs.YtelhpdnclmpgoaaDoor
