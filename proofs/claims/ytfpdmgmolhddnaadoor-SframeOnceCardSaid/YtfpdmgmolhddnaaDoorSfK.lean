/- Layer 18: a whole frame: the walk. -/
import Derived.Test.YtfpdmgmolhddnaaDoorSfJ
import Derived.Deep.RegionHeld3
namespace Go.Proofs.YtfpdmgmolhddnaaDoor
open Go Go.RowKit Go.Sort
open Go.ChangeShapes Go.WideShapes Go.Deep
set_option linter.unusedSimpArgs false
set_option linter.unusedVariables false

theorem cells3_2 {w : World} {g : Nat} {t : TypeId} {c0 c1 c2 : Value} {fr : Nat × Nat} (h : w.heap[g]? = some (.cells #[c0, c1, c2] t fr)) (b : Value) : (w.setCell ⟨g, 2, none⟩ b).heap[g]? = some (.cells #[c0, c1, b] t fr) := by
  simp [World.setCell, Array.getElem?_modify, h]
theorem set_ne {w : World} {g k : Nat} (h : k ≠ g) (j : Nat) (u : Value) : (w.setCell ⟨g, j, none⟩ u).heap[k]? = w.heap[k]? := Below.heap_setCell w ⟨g, j, none⟩ u k h
theorem ext_take (r : L8) (n : Nat) : (⟨r.toArray⟩ : ByteArray).extract 0 n = ⟨(r.take n).toArray⟩ := ba_ext (by rw [take_data])
theorem ext_drop (r : L8) (n : Nat) (h : n ≤ r.length) : (⟨r.toArray⟩ : ByteArray).extract n (⟨r.toArray⟩ : ByteArray).size = ⟨(r.drop n).toArray⟩ := ba_ext (by rw [drop_data _ _ (by rw [str_sz]; exact h)])
theorem str_at (r : L8) (n : Nat) (h : n < (⟨r.toArray⟩ : ByteArray).size) : r[n]? = some ((⟨r.toArray⟩ : ByteArray)[n]'h) := by
  have := ba_at ⟨r.toArray⟩ n h
  rw [str_ls] at this
  exact this
set_option maxRecDepth 100000 in
set_option maxHeartbeats 4000000 in
theorem whole_c {w : World} (s : ByteArray) (hs : s.size ≤ 1073741824) (hg : GM w) (hG : G w) :
    Calls Tryd.prog 12 #[.string s] w (WPost (wholeP numT s.data.toList) w) := by
  obtain ⟨O, hO⟩ : ∃ o, o = wholeP numT s.data.toList := ⟨_, rfl⟩
  rw [← hO]
  rw [whole_head] at hO
  obtain ⟨W, hW⟩ : ∃ W, W = w.alloc (.cells #[.string ⟨#[]⟩, .slice none 0 0, .string ⟨#[]⟩] 25) := ⟨_, rfl⟩
  have b0 : Below w.heap.size w W := by rw [hW]; exact (Below.refl _ _).alloc (Nat.le_refl _) _
  have r0 : W.heap[w.heap.size]? = some (.cells #[.string ⟨#[]⟩, .slice none 0 0, .string ⟨#[]⟩] 25 (0, 0)) := by rw [hW]; exact heap_alloc_new w _
  have hsz : W.heap.size = w.heap.size + 1 := by rw [hW]; simp
  have hhd := head_c (w := W) s hs (hg.below b0)
  have hln := fun c hs' r (h : headP s.data.toList = some (some (c, hs', r))) => head_len h
  obtain ⟨H, hH⟩ : ∃ o, o = headP s.data.toList := ⟨_, rfl⟩
  rw [← hH] at hhd hO hln
  have HHD := Lib.hid hhd
  have HO := Lib.hid hO
  have HLN := Lib.hid hln
  have HS := Lib.hid hs
  have HB0 := Lib.hid b0
  have HGG := Lib.hid (hG.on b0)
  have HSD : Hid (s.data.toList.length ≤ 1073741824) := Lib.hid (by rw [ba_size]; exact hs)
  have HR0 : Hid (∀ w1, Below W.heap.size W w1 → w1.heap[w.heap.size]? = some (.cells #[.string ⟨#[]⟩, .slice none 0 0, .string ⟨#[]⟩] 25 (0, 0))) := Lib.hid (fun w1 b => (b.block (w.heap.size) (by omega)).trans r0)
  have HSZ := Lib.hid hsz
  have HW := Lib.hid hW
  clear hO hs hg hG b0 r0 hsz hW hhd hln hH
  go_enter Tryd.func12, Tryd.ntmps12
  go_upto_region 1 with fail
  rw [← HW.out]
  go_wp2_with fail
  refine (HHD.out).mono ?_
  clear HHD
  cases H with
  | none =>
    obtain rfl : O = none := HO.out
    rintro e w1 ⟨b1, rfl⟩
    go_wp2_with fail
    exact ⟨rfl, wpost_stop (HB0.out.trans (b1.mono HB0.out.size))⟩
  | some H =>
    cases H with
    | none =>
      obtain rfl : O = some none := HO.out
      rintro e w1 ⟨b1, rfl⟩
      have B1 := Lib.hid b1
      clear b1
      go_upto_region 2 with fail
      obtain ⟨V, hV⟩ : ∃ V, V = w1.alloc (.cells #[.string ⟨#[]⟩, .slice none 0 0, .string ⟨#[]⟩] 25) := ⟨_, rfl⟩
      rw [← hV]
      have bV : Below w1.heap.size w1 V := by rw [hV]; exact (Below.refl _ _).alloc (Nat.le_refl _) _
      have eV : V.heap[w1.heap.size]? = some (.cells #[.string ⟨#[]⟩, .slice none 0 0, .string ⟨#[]⟩] 25 (0, 0)) := by rw [hV]; exact heap_alloc_new w1 _
      have BV := Lib.hid (B1.out.trans (bV.mono B1.out.size))
      have h0 := HR0.out V BV.out
      have n1 : ¬ w.heap.size = w1.heap.size := by have := B1.out.size; have := HSZ.out; omega
      have n2 : ¬ w1.heap.size = w.heap.size := by have := B1.out.size; have := HSZ.out; omega
      have x0 : V.cell? ⟨w.heap.size, 0, none⟩ = some (.string ⟨#[]⟩) := (cell3 h0 0).trans rfl
      have x1 : V.cell? ⟨w.heap.size, 1, none⟩ = some (.slice none 0 0) := (cell3 h0 1).trans rfl
      have x2 : V.cell? ⟨w.heap.size, 2, none⟩ = some (.string ⟨#[]⟩) := (cell3 h0 2).trans rfl
      have y0 : V.cell? ⟨w1.heap.size, 0, none⟩ = some (.string ⟨#[]⟩) := (cell3 eV 0).trans rfl
      have y1 : V.cell? ⟨w1.heap.size, 1, none⟩ = some (.slice none 0 0) := (cell3 eV 1).trans rfl
      have y2 : V.cell? ⟨w1.heap.size, 2, none⟩ = some (.string ⟨#[]⟩) := (cell3 eV 2).trans rfl
      have fz : ∀ j, V.frozen? ⟨w.heap.size, j, none⟩ = false := fun j => frozen_of_row _ _ j _ _ h0
      have H0 := Lib.hid h0
      clear hV bV eV h0
      go_wp2_with fail
      refine sf_end (w := V) (g := w.heap.size) rfl _ _ _ H0.out rfl rfl ?_
      exact wpost_more (below3 (HB0.out.trans (BV.out.mono HB0.out.size)) (Nat.le_refl _) _ _ _)
    | some p =>
      obtain ⟨c, hs, r⟩ := p
      have hln2 := HLN.out c hs r rfl
      obtain ⟨N, hN⟩ : ∃ N, N = sizeP numT hs := ⟨_, rfl⟩
      have HOB : Hid (O = bodyP ⟨c, hs, []⟩ N r) := Lib.hid (by rw [hN]; exact HO.out)
      rintro e w1 ⟨b1, A, cp, rfl, hoh⟩
      have hrh := oh_rhd hoh
      obtain ⟨cb, hcb⟩ : ∃ cb : ByteArray, cb = ⟨c.toArray⟩ := ⟨_, rfl⟩
      obtain ⟨rb, hrb⟩ : ∃ rb : ByteArray, rb = ⟨r.toArray⟩ := ⟨_, rfl⟩
      rw [← hcb, ← hrb]
      have B1 := Lib.hid b1
      have HCB := Lib.hid hcb
      have HRB := Lib.hid hrb
      clear hcb hrb
      go_upto_region 2 with fail
      obtain ⟨V, hV⟩ : ∃ V, V = w1.alloc (.cells #[.string cb, .slice A hs.length cp, .string ⟨#[]⟩] 25) := ⟨_, rfl⟩
      rw [← hV]
      have bV : Below w1.heap.size w1 V := by rw [hV]; exact (Below.refl _ _).alloc (Nat.le_refl _) _
      have eV : V.heap[w1.heap.size]? = some (.cells #[.string cb, .slice A hs.length cp, .string ⟨#[]⟩] 25 (0, 0)) := by rw [hV]; exact heap_alloc_new w1 _
      have BV := Lib.hid (B1.out.trans (bV.mono B1.out.size))
      obtain ⟨K5, hK5⟩ : ∃ K, K = w1.heap.size := ⟨_, rfl⟩
      have n1 : ¬ w.heap.size = K5 := by rw [hK5]; have := B1.out.size; have := HSZ.out; omega
      have n2 : ¬ K5 = w.heap.size := by rw [hK5]; have := B1.out.size; have := HSZ.out; omega
      have HN1 := Lib.hid n1
      have HKW : Hid (W.heap.size ≤ K5) := Lib.hid (by rw [hK5]; exact B1.out.size)
      rw [← hK5] at eV
      rw [← hK5]
      have HRH := Lib.hid (rhd_below hrh bV)
      have HOV : Hid (OH V W.heap.size (.slice A hs.length cp) hs) := Lib.hid (own_below hoh bV)
      have HOK : Hid (∀ j, (Value.slice A hs.length cp).ownBlock = some j → j < K5) := Lib.hid (fun j hj => by rw [hK5]; exact own_lt' hoh hj)
      have HK5 : Hid (K5 < V.heap.size) := Lib.hid (Array.getElem?_eq_some_iff.1 eV).1
      have HE5 : Hid (∀ w2, Below V.heap.size V w2 → w2.heap[K5]? = some (.cells #[.string cb, .slice A hs.length cp, .string ⟨#[]⟩] 25 (0, 0))) := Lib.hid (fun w2 b => (b.block _ HK5.out).trans eV)
      have HBW : Hid (∀ {w2 : World}, Below V.heap.size V w2 → Below W.heap.size W w2) := Lib.hid (fun b => BV.out.trans (b.mono BV.out.size))
      have hsc := size_c (w := V) cb ⟨#[]⟩ hs HRH.out (by have := hln2.2.2; omega) (fun h hh => by have := hln2.1 h hh; have := HSD.out; omega) (HGG.out.on BV.out)
      rw [← hN] at hsc
      have HSC := Lib.hid hsc
      have HRL : Hid (r.length ≤ 1073741824) := Lib.hid (by have := hln2.2.1; have := HSD.out; omega)
      have hrs : (rb.size : Int) = r.length := by rw [HRB.out, str_sz]
      have hrsz : (rb.size : Int) ≤ 1073741824 := by rw [hrs]; have := HRL.out; omega
      have HRS := Lib.hid (show rb.size = r.length by rw [HRB.out, str_sz])
      have y0 : V.cell? ⟨K5, 0, none⟩ = some (.string cb) := (cell3 eV 0).trans rfl
      have y1 : V.cell? ⟨K5, 1, none⟩ = some (.slice A hs.length cp) := (cell3 eV 1).trans rfl
      have y2 : V.cell? ⟨K5, 2, none⟩ = some (.string ⟨#[]⟩) := (cell3 eV 2).trans rfl
      clear hV bV eV hK5 hrh hoh b1 hsc hN hln2 n1 n2 hrs
      go_wp2_with fail
      refine (HSC.out).mono ?_
      rintro e w2 ⟨rfl, b2⟩
      have B2 := Lib.hid b2
      have HO2 := Lib.hid (own_below HOV.out b2)
      clear b2 y0 y1 y2 HSC
      by_cases hN1 : N < -1
      · obtain rfl : O = none := by rw [HOB.out]; unfold bodyP; rw [if_pos hN1]
        have dN : decide (-1 ≤ N) = false := decide_eq_false (by omega)
        go_wp2_with fail
        try rw [dN]
        refine (unless_f _).mono ?_
        rintro e wq ⟨rfl, rfl⟩
        go_wp2_with fail
        exact ⟨rfl, wpost_stop (HB0.out.trans ((HBW.out B2.out).mono HB0.out.size))⟩
      · have dN : decide (-1 ≤ N) = true := decide_eq_true (by omega)
        go_wp2_with fail
        try rw [dN]
        refine (unless_t _).mono ?_
        rintro e wq ⟨rfl, rfl⟩
        clear dN
        by_cases hN2 : N < 0
        · have hix := Tryd.strings_IndexByte rb 0 wq
          rw [show ((0 : Int)).toNat.toUInt8 = 0 from rfl, show rb.data.toList = r by rw [HRB.out, str_ls]] at hix
          rcases cut_byte 0 r with ⟨h1, h2⟩ | ⟨n, hni, h2, h3, h0n⟩
          · rw [h2] at hix
            have HIX := Lib.hid hix
            by_cases hrl : r.length ≤ 1024
            · obtain rfl : O = some none := by rw [HOB.out]; unfold bodyP; rw [if_neg (show ¬ N < -1 by omega), if_pos hN2, h1]; simp only; rw [if_pos hrl]
              have dl : decide ((rb.size : Int) ≤ 1024) = true := decide_eq_true (by rw [HRS.out]; omega)
              clear hix h1 h2 hrl
              go_wp2_with fail
              refine (HIX.out).mono ?_
              rintro e wz ⟨rfl, rfl⟩
              go_wp2_with fail
              try rw [dl]
              refine (unless_t _).mono ?_
              rintro e wy ⟨rfl, rfl⟩
              obtain ⟨wq, hwq⟩ : ∃ q, q = wy := ⟨_, rfl⟩
              subst hwq
              have h0 := HR0.out wq (HBW.out B2.out)
              have h5 := HE5.out wq B2.out
              have n1 : ¬ w.heap.size = K5 := HN1.out
              have n2 : ¬ K5 = w.heap.size := fun e => HN1.out e.symm
              have x0 : wq.cell? ⟨w.heap.size, 0, none⟩ = some (.string ⟨#[]⟩) := (cell3 h0 0).trans rfl
              have x1 : wq.cell? ⟨w.heap.size, 1, none⟩ = some (.slice none 0 0) := (cell3 h0 1).trans rfl
              have x2 : wq.cell? ⟨w.heap.size, 2, none⟩ = some (.string ⟨#[]⟩) := (cell3 h0 2).trans rfl
              have y0 : wq.cell? ⟨K5, 0, none⟩ = some (.string cb) := (cell3 h5 0).trans rfl
              have y1 : wq.cell? ⟨K5, 1, none⟩ = some (.slice A hs.length cp) := (cell3 h5 1).trans rfl
              have y2 : wq.cell? ⟨K5, 2, none⟩ = some (.string ⟨#[]⟩) := (cell3 h5 2).trans rfl
              have fz : ∀ j, wq.frozen? ⟨w.heap.size, j, none⟩ = false := fun j => frozen_of_row _ _ j _ _ h0
              have H0 := Lib.hid h0
              clear h0 h5
              go_wp2_with fail
              refine sf_end (w := wq) (g := w.heap.size) rfl _ _ _ H0.out rfl rfl ?_
              exact wpost_more (below3 (HB0.out.trans ((HBW.out B2.out).mono HB0.out.size)) (Nat.le_refl _) _ _ _)
            · obtain rfl : O = none := by rw [HOB.out]; unfold bodyP; rw [if_neg (show ¬ N < -1 by omega), if_pos hN2, h1]; simp only; rw [if_neg hrl]
              have dl : decide ((rb.size : Int) ≤ 1024) = false := decide_eq_false (by rw [HRS.out]; omega)
              clear hix h1 h2 hrl
              go_wp2_with fail
              refine (HIX.out).mono ?_
              rintro e wz ⟨rfl, rfl⟩
              go_wp2_with fail
              try rw [dl]
              refine (unless_f _).mono ?_
              rintro e wp ⟨rfl, rfl⟩
              go_wp2_with fail
              exact ⟨rfl, wpost_stop (HB0.out.trans ((HBW.out B2.out).mono HB0.out.size))⟩
          · rw [h2] at hix
            have HIX := Lib.hid hix
            have htl : (r.take n).length = n := by rw [List.length_take]; omega
            by_cases hn : n ≤ 1024
            · obtain rfl : O = some (some (⟨c, hs, r.take n⟩, r.drop (n + 1))) := by rw [HOB.out]; unfold bodyP; rw [if_neg (show ¬ N < -1 by omega), if_pos hN2, h3]; simp only; rw [if_pos (by omega)]
              have dl : decide ((n : Int) ≤ 1024) = true := decide_eq_true (by omega)
              have hnn : ¬ (n : Int) < 0 := by omega
              have hln3 : ¬ (rb.size : Int) ≤ (n : Int) := by rw [HRS.out]; omega
              clear hix h2 h3 htl hn
              go_wp2_with fail
              refine (HIX.out).mono ?_
              rintro e wz ⟨rfl, rfl⟩
              go_wp2_with fail
              try rw [dl]
              refine (unless_t _).mono ?_
              rintro e wy ⟨rfl, rfl⟩
              obtain ⟨wq, hwq⟩ : ∃ q, q = wy := ⟨_, rfl⟩
              subst hwq
              have hnI : (n : Int) < (rb.size : Int) := by rw [HRS.out]; omega
              have hnI' : (n : Int) ≤ (rb.size : Int) := by omega
              have hn1' : (n : Int) + 1 ≤ (rb.size : Int) := by omega
              have hnb : n < rb.size := by omega
              have hw1 : wrap64 ((n : Int) + 1) = (n : Int) + 1 := by unfold wrap64; omega
              have hw2 : IntKind.i64.wrap ((n : Int) + 1) = (n : Int) + 1 := by rw [IntKind.wrap_i64]; unfold wrap64 at hw1; exact hw1
              have c0 : ((rb[n]'hnb).toNat : Int) = 0 := by
                obtain rfl := HRB.out
                have h := str_at r n hnb
                rw [h0n] at h
                injection h with h
                rw [← h]; rfl
              have h5 := HE5.out wq B2.out
              have y2 : wq.cell? ⟨K5, 2, none⟩ = some (.string ⟨#[]⟩) := (cell3 h5 2).trans rfl
              have fy : wq.frozen? ⟨K5, 2, none⟩ = false := frozen_of_row _ _ 2 _ _ h5
              have HNI := Lib.hid hni
              clear h0n hni
              go_wp2_with fail
              try rw [c0]
              refine (unless_t _).mono ?_
              rintro e wp ⟨rfl, rfl⟩
              go_upto_region 16 with fail
              obtain ⟨X, hX⟩ : ∃ X, X = wp.setCell ⟨K5, 2, none⟩ (.string (rb.extract 0 n)) := ⟨_, rfl⟩
              rw [← hX]
              have hx5 : X.heap[K5]? = some (.cells #[.string cb, .slice A hs.length cp, .string (rb.extract 0 n)] 25 (0, 0)) := by rw [hX]; exact cells3_2 h5 _
              have hx0 : X.heap[w.heap.size]? = some (.cells #[.string ⟨#[]⟩, .slice none 0 0, .string ⟨#[]⟩] 25 (0, 0)) := by rw [hX, set_ne HN1.out]; exact HR0.out wp (HBW.out B2.out)
              have HXG : Hid (wp.grownBy X (some K5)) := Lib.hid (by rw [hX]; exact grownBy_set _ _ _ _)
              have HXB : Hid (Below W.heap.size W X) := Lib.hid (by rw [hX]; exact (HBW.out B2.out).setCell (p := ⟨K5, 2, none⟩) HKW.out _)
              clear hX h5 y2 fy
              have n1 : ¬ w.heap.size = K5 := HN1.out
              have n2 : ¬ K5 = w.heap.size := fun e => HN1.out e.symm
              have x0 : X.cell? ⟨w.heap.size, 0, none⟩ = some (.string ⟨#[]⟩) := (cell3 hx0 0).trans rfl
              have x1 : X.cell? ⟨w.heap.size, 1, none⟩ = some (.slice none 0 0) := (cell3 hx0 1).trans rfl
              have x2 : X.cell? ⟨w.heap.size, 2, none⟩ = some (.string ⟨#[]⟩) := (cell3 hx0 2).trans rfl
              have y0 : X.cell? ⟨K5, 0, none⟩ = some (.string cb) := (cell3 hx5 0).trans rfl
              have y1 : X.cell? ⟨K5, 1, none⟩ = some (.slice A hs.length cp) := (cell3 hx5 1).trans rfl
              have y2 : X.cell? ⟨K5, 2, none⟩ = some (.string (rb.extract 0 n)) := (cell3 hx5 2).trans rfl
              have fz : ∀ j, X.frozen? ⟨w.heap.size, j, none⟩ = false := fun j => frozen_of_row _ _ j _ _ hx0
              have HX0 := Lib.hid hx0
              have HX5 := Lib.hid hx5
              clear hx0 hx5
              go_region
              go_wp2_with fail
              refine sf_end_d (g := w.heap.size) rfl (cells3_at HX0.out _ _ _) rfl rfl ?_
              have e1 : rb.extract 0 n = ⟨(r.take n).toArray⟩ := by rw [HRB.out]; exact ext_take r n
              have e2 : rb.extract (n + 1) rb.size = ⟨(r.drop (n + 1)).toArray⟩ := by rw [HRB.out]; exact ext_drop r (n + 1) (by have := HNI.out; omega)
              show WPost _ _ (.returned (.tuple #[.agg #[.string cb, .slice A hs.length cp, .string (rb.extract 0 n)], .string (rb.extract (n + 1) rb.size), .bool true])) _
              rw [e1, e2, HCB.out]
              have oX := own_other HO2.out HXG.out (fun j hj e => by injection e with e; have := HOK.out j hj; omega)
              have oY := own_other oX (grown3 X w.heap.size (.string ⟨c.toArray⟩) (.slice A hs.length cp) (.string ⟨(r.take n).toArray⟩)) (fun j hj e => by injection e with e; have := own_base HO2.out j hj; have := HSZ.out; omega)
              exact wpost_some (f := ⟨c, hs, r.take n⟩) (below3 (HB0.out.trans (HXB.out.mono HB0.out.size)) (Nat.le_refl _) _ _ _).drew (own_lower oY (by have := HSZ.out; omega))
            · obtain rfl : O = none := by rw [HOB.out]; unfold bodyP; rw [if_neg (show ¬ N < -1 by omega), if_pos hN2, h3]; simp only; rw [if_neg (by omega)]
              have dl : decide ((n : Int) ≤ 1024) = false := decide_eq_false (by omega)
              have hnn : ¬ (n : Int) < 0 := by omega
              clear hix h2 h3 htl hn
              go_wp2_with fail
              refine (HIX.out).mono ?_
              rintro e wz ⟨rfl, rfl⟩
              go_wp2_with fail
              try rw [dl]
              refine (unless_f _).mono ?_
              rintro e wp ⟨rfl, rfl⟩
              go_wp2_with fail
              exact ⟨rfl, wpost_stop (HB0.out.trans ((HBW.out B2.out).mono HB0.out.size))⟩
        · obtain ⟨n, rfl⟩ := Int.eq_ofNat_of_zero_le (show 0 ≤ N by omega)
          by_cases hnl : r.length ≤ n
          · obtain rfl : O = some none := by rw [HOB.out]; unfold bodyP; rw [if_neg (show ¬ ((n : Nat) : Int) < -1 by omega), if_neg (show ¬ ((n : Nat) : Int) < 0 by omega), if_pos (by simpa using hnl)]
            have dl : (rb.size : Int) ≤ (n : Int) := by rw [HRS.out]; omega
            clear hnl
            have h0 := HR0.out wq (HBW.out B2.out)
            have h5 := HE5.out wq B2.out
            have n1 : ¬ w.heap.size = K5 := HN1.out
            have n2 : ¬ K5 = w.heap.size := fun e => HN1.out e.symm
            have x0 : wq.cell? ⟨w.heap.size, 0, none⟩ = some (.string ⟨#[]⟩) := (cell3 h0 0).trans rfl
            have x1 : wq.cell? ⟨w.heap.size, 1, none⟩ = some (.slice none 0 0) := (cell3 h0 1).trans rfl
            have x2 : wq.cell? ⟨w.heap.size, 2, none⟩ = some (.string ⟨#[]⟩) := (cell3 h0 2).trans rfl
            have y0 : wq.cell? ⟨K5, 0, none⟩ = some (.string cb) := (cell3 h5 0).trans rfl
            have y1 : wq.cell? ⟨K5, 1, none⟩ = some (.slice A hs.length cp) := (cell3 h5 1).trans rfl
            have y2 : wq.cell? ⟨K5, 2, none⟩ = some (.string ⟨#[]⟩) := (cell3 h5 2).trans rfl
            have fz : ∀ j, wq.frozen? ⟨w.heap.size, j, none⟩ = false := fun j => frozen_of_row _ _ j _ _ h0
            have H0 := Lib.hid h0
            clear h0 h5
            go_wp2_with fail
            refine sf_end (w := wq) (g := w.heap.size) rfl _ _ _ H0.out rfl rfl ?_
            exact wpost_more (below3 (HB0.out.trans ((HBW.out B2.out).mono HB0.out.size)) (Nat.le_refl _) _ _ _)
          · have hni : n < r.length := by omega
            have hln3 : ¬ (rb.size : Int) ≤ (n : Int) := by rw [HRS.out]; omega
            by_cases h0n : r[n]? = some 0
            · obtain rfl : O = some (some (⟨c, hs, r.take n⟩, r.drop (n + 1))) := by rw [HOB.out]; unfold bodyP; rw [if_neg (show ¬ ((n : Nat) : Int) < -1 by omega), if_neg (show ¬ ((n : Nat) : Int) < 0 by omega), if_neg (by simpa using hnl)]; simp only [Int.toNat_natCast]; rw [if_pos h0n]
              clear hnl
              have hnI : (n : Int) < (rb.size : Int) := by rw [HRS.out]; omega
              have hnI' : (n : Int) ≤ (rb.size : Int) := by omega
              have hn1' : (n : Int) + 1 ≤ (rb.size : Int) := by omega
              have hnb : n < rb.size := by omega
              have hw1 : wrap64 ((n : Int) + 1) = (n : Int) + 1 := by unfold wrap64; omega
              have hw2 : IntKind.i64.wrap ((n : Int) + 1) = (n : Int) + 1 := by rw [IntKind.wrap_i64]; unfold wrap64 at hw1; exact hw1
              have c0 : ((rb[n]'hnb).toNat : Int) = 0 := by
                obtain rfl := HRB.out
                have h := str_at r n hnb
                rw [h0n] at h
                injection h with h
                rw [← h]; rfl
              have h5 := HE5.out wq B2.out
              have y2 : wq.cell? ⟨K5, 2, none⟩ = some (.string ⟨#[]⟩) := (cell3 h5 2).trans rfl
              have fy : wq.frozen? ⟨K5, 2, none⟩ = false := frozen_of_row _ _ 2 _ _ h5
              have HNI := Lib.hid hni
              clear h0n hni
              go_wp2_with fail
              try rw [c0]
              refine (unless_t _).mono ?_
              rintro e wp ⟨rfl, rfl⟩
              go_upto_region 16 with fail
              obtain ⟨X, hX⟩ : ∃ X, X = wp.setCell ⟨K5, 2, none⟩ (.string (rb.extract 0 n)) := ⟨_, rfl⟩
              rw [← hX]
              have hx5 : X.heap[K5]? = some (.cells #[.string cb, .slice A hs.length cp, .string (rb.extract 0 n)] 25 (0, 0)) := by rw [hX]; exact cells3_2 h5 _
              have hx0 : X.heap[w.heap.size]? = some (.cells #[.string ⟨#[]⟩, .slice none 0 0, .string ⟨#[]⟩] 25 (0, 0)) := by rw [hX, set_ne HN1.out]; exact HR0.out wp (HBW.out B2.out)
              have HXG : Hid (wp.grownBy X (some K5)) := Lib.hid (by rw [hX]; exact grownBy_set _ _ _ _)
              have HXB : Hid (Below W.heap.size W X) := Lib.hid (by rw [hX]; exact (HBW.out B2.out).setCell (p := ⟨K5, 2, none⟩) HKW.out _)
              clear hX h5 y2 fy
              have n1 : ¬ w.heap.size = K5 := HN1.out
              have n2 : ¬ K5 = w.heap.size := fun e => HN1.out e.symm
              have x0 : X.cell? ⟨w.heap.size, 0, none⟩ = some (.string ⟨#[]⟩) := (cell3 hx0 0).trans rfl
              have x1 : X.cell? ⟨w.heap.size, 1, none⟩ = some (.slice none 0 0) := (cell3 hx0 1).trans rfl
              have x2 : X.cell? ⟨w.heap.size, 2, none⟩ = some (.string ⟨#[]⟩) := (cell3 hx0 2).trans rfl
              have y0 : X.cell? ⟨K5, 0, none⟩ = some (.string cb) := (cell3 hx5 0).trans rfl
              have y1 : X.cell? ⟨K5, 1, none⟩ = some (.slice A hs.length cp) := (cell3 hx5 1).trans rfl
              have y2 : X.cell? ⟨K5, 2, none⟩ = some (.string (rb.extract 0 n)) := (cell3 hx5 2).trans rfl
              have fz : ∀ j, X.frozen? ⟨w.heap.size, j, none⟩ = false := fun j => frozen_of_row _ _ j _ _ hx0
              have HX0 := Lib.hid hx0
              have HX5 := Lib.hid hx5
              clear hx0 hx5
              go_region
              go_wp2_with fail
              refine sf_end_d (g := w.heap.size) rfl (cells3_at HX0.out _ _ _) rfl rfl ?_
              have e1 : rb.extract 0 n = ⟨(r.take n).toArray⟩ := by rw [HRB.out]; exact ext_take r n
              have e2 : rb.extract (n + 1) rb.size = ⟨(r.drop (n + 1)).toArray⟩ := by rw [HRB.out]; exact ext_drop r (n + 1) (by have := HNI.out; omega)
              show WPost _ _ (.returned (.tuple #[.agg #[.string cb, .slice A hs.length cp, .string (rb.extract 0 n)], .string (rb.extract (n + 1) rb.size), .bool true])) _
              rw [e1, e2, HCB.out]
              have oX := own_other HO2.out HXG.out (fun j hj e => by injection e with e; have := HOK.out j hj; omega)
              have oY := own_other oX (grown3 X w.heap.size (.string ⟨c.toArray⟩) (.slice A hs.length cp) (.string ⟨(r.take n).toArray⟩)) (fun j hj e => by injection e with e; have := own_base HO2.out j hj; have := HSZ.out; omega)
              exact wpost_some (f := ⟨c, hs, r.take n⟩) (below3 (HB0.out.trans (HXB.out.mono HB0.out.size)) (Nat.le_refl _) _ _ _).drew (own_lower oY (by have := HSZ.out; omega))
            · obtain rfl : O = none := by rw [HOB.out]; unfold bodyP; rw [if_neg (show ¬ ((n : Nat) : Int) < -1 by omega), if_neg (show ¬ ((n : Nat) : Int) < 0 by omega), if_neg (by simpa using hnl)]; simp only [Int.toNat_natCast]; rw [if_neg h0n]
              have hnI : (n : Int) < (rb.size : Int) := by rw [HRS.out]; omega
              have hnb : n < rb.size := by omega
              have c0 : ¬ ((rb[n]'hnb).toNat : Int) = 0 := fun e => h0n (by
                obtain rfl := HRB.out
                rw [str_at r n hnb]
                exact congrArg some (UInt8.toNat_inj.1 (show _ = 0 by omega)))
              have c1 : (((rb[n]'hnb).toNat : Int) == 0) = false := beq_eq_false_iff_ne.2 c0
              clear hnl h0n
              go_wp2_with fail
              try rw [c1]
              refine (unless_f _).mono ?_
              rintro e wp ⟨rfl, rfl⟩
              go_wp2_with fail
              exact ⟨rfl, wpost_stop (HB0.out.trans ((HBW.out B2.out).mono HB0.out.size))⟩
end Go.Proofs.YtfpdmgmolhddnaaDoor
