/- Layer 18: Next: the walk. -/
import Derived.Test.YtfpdmgmolhddnaaDoorSfL
namespace Go.Proofs.YtfpdmgmolhddnaaDoor
open Go Go.RowKit
open Go.ChangeShapes Go.WideShapes Go.Deep
set_option linter.unusedSimpArgs false
set_option linter.unusedVariables false

abbrev nextQ (s : L8) : Sfr × Nat × Int := nextP numT 41 40 s
def NPost (x : Sfr × Nat × Int) (w : World) (e : Ending) (w' : World) : Prop :=
  Below w.heap.size w w' ∧ ∃ A cp, e = .returned (.tuple #[.agg #[.string ⟨x.1.cmd.toArray⟩, .slice A x.1.hs.length cp, .string ⟨x.1.body.toArray⟩], .int .i64 x.2.1, .int .i64 x.2.2]) ∧ RHd w' (.slice A x.1.hs.length cp) x.1.hs
theorem npost_zero {w w' : World} {n : Nat} {e : Int} (b : Below w.heap.size w w') : NPost (noF, n, e) w (.returned (.tuple #[.agg #[.string ⟨#[]⟩, .slice none 0 0, .string ⟨#[]⟩], .int .i64 n, .int .i64 e])) w' :=
  ⟨b, none, 0, rfl, own_rc (own_nil w' 0 32 2)⟩
theorem results_next {P : Program} {fn : Func} {p q u : Tmp} {tS tI tE : TypeId} (h : fn.results = #[.cell p tS, .cell q tI, .cell u tE]) (tmps : Array Value) (w : World) (g g1 g2 : Nat) (t : TypeId) (cs : Array Value) (fr : Nat × Nat) (d : TypeDesc) (vn ve : Value)
    (hp : tmps.getD p undef = .pointer (some ⟨g, 0, none⟩)) (hq : tmps.getD q undef = .pointer (some ⟨g1, 0, none⟩)) (hu0 : tmps.getD u undef = .pointer (some ⟨g2, 0, none⟩)) (hg : w.heap[g]? = some (.cells cs t fr))
    (hu : P.underlying tS = some d) (hd : (match d with | .struct _ | .array _ _ => true | _ => false) = true) (hi : (P.info? tS).map (·.size) = some cs.size)
    (hn : (loadVar tI ⟨g1, 0, none⟩).run P w = .ok vn w) (he : (loadVar tE ⟨g2, 0, none⟩).run P w = .ok ve w) :
    (results fn tmps).run P w = .ok (.tuple #[.agg cs, vn, ve]) w := by
  have hp' : tmps[p]?.getD undef = .pointer (some ⟨g, 0, none⟩) := by simpa using hp
  have hq' : tmps[q]?.getD undef = .pointer (some ⟨g1, 0, none⟩) := by simpa using hq
  have hu' : tmps[u]?.getD undef = .pointer (some ⟨g2, 0, none⟩) := by simpa using hu0
  simp [results, h, hp', hq', hu', asAddr, run_loadVar_row w g t tS cs fr d hg hu hd hi, hn, he]
theorem load_int {w : World} {a : Addr} {v : Value} (h : w.cell? a = some v) : (loadVar 3 a).run Tryd.prog w = .ok v w := by
  simp [loadVar, go_sem, h]
theorem load_err {w : World} {a : Addr} {v : Value} (h : w.cell? a = some v) : (loadVar 26 a).run Tryd.prog w = .ok v w := by
  simp [loadVar, go_sem, h]
theorem cells1_at {w : World} {g : Nat} {t : TypeId} {c0 : Value} {fr : Nat × Nat} (h : w.heap[g]? = some (.cells #[c0] t fr)) (a : Value) : (w.setCell ⟨g, 0, none⟩ a).heap[g]? = some (.cells #[a] t fr) := by
  simp [World.setCell, Array.getElem?_modify, h]
theorem set5_rows {w : World} {g : Nat} {t t1 t2 : TypeId} {c0 c1 c2 d e0 : Value} (h0 : w.heap[g]? = some (.cells #[c0, c1, c2] t (0, 0))) (h1 : w.heap[g + 1]? = some (.cells #[d] t1 (0, 0))) (h2 : w.heap[g + 2]? = some (.cells #[e0] t2 (0, 0))) (a b c n e : Value) :
    (((((w.setCell ⟨g, 0, none⟩ a).setCell ⟨g, 1, none⟩ b).setCell ⟨g, 2, none⟩ c).setCell ⟨g + 1, 0, none⟩ n).setCell ⟨g + 2, 0, none⟩ e).heap[g]? = some (.cells #[a, b, c] t (0, 0)) ∧ (((((w.setCell ⟨g, 0, none⟩ a).setCell ⟨g, 1, none⟩ b).setCell ⟨g, 2, none⟩ c).setCell ⟨g + 1, 0, none⟩ n).setCell ⟨g + 2, 0, none⟩ e).cell? ⟨g + 1, 0, none⟩ = some n ∧ (((((w.setCell ⟨g, 0, none⟩ a).setCell ⟨g, 1, none⟩ b).setCell ⟨g, 2, none⟩ c).setCell ⟨g + 1, 0, none⟩ n).setCell ⟨g + 2, 0, none⟩ e).cell? ⟨g + 2, 0, none⟩ = some e := by
  have r0 := cells3_at h0 a b c
  have gr := grown3 w g a b c
  have r1 := (gr.block (g + 1) (Array.getElem?_eq_some_iff.1 h1).1 (fun e => by injection e with e; omega)).trans h1
  have r2 := (gr.block (g + 2) (Array.getElem?_eq_some_iff.1 h2).1 (fun e => by injection e with e; omega)).trans h2
  generalize (((w.setCell ⟨g, 0, none⟩ a).setCell ⟨g, 1, none⟩ b).setCell ⟨g, 2, none⟩ c) = X at *
  have q1 := cells1_at r1 n
  have q0 : (X.setCell ⟨g + 1, 0, none⟩ n).heap[g]? = _ := (set_ne (by omega) 0 n).trans r0
  have q2 : (X.setCell ⟨g + 1, 0, none⟩ n).heap[g + 2]? = _ := (set_ne (by omega) 0 n).trans r2
  generalize X.setCell ⟨g + 1, 0, none⟩ n = Y at *
  refine ⟨(set_ne (by omega) 0 e).trans q0, ?_, ?_⟩
  · exact (cell3 ((set_ne (show g + 1 ≠ g + 2 by omega) 0 e).trans q1) 0).trans rfl
  · exact (cell3 (cells1_at q2 e) 0).trans rfl
theorem below5 {B : Nat} {w w1 : World} (h : Below B w w1) {g : Nat} (hg : B ≤ g) (a b c n e : Value) : Below B w (((((w1.setCell ⟨g, 0, none⟩ a).setCell ⟨g, 1, none⟩ b).setCell ⟨g, 2, none⟩ c).setCell ⟨g + 1, 0, none⟩ n).setCell ⟨g + 2, 0, none⟩ e) :=
  ((below3 h hg a b c).setCell (p := ⟨g + 1, 0, none⟩) (Nat.le_succ_of_le hg) n).setCell (p := ⟨g + 2, 0, none⟩) (Nat.le_succ_of_le (Nat.le_succ_of_le hg)) e
theorem rhd_set5 {w : World} {g : Nat} {A : Option Addr} {cp base : Nat} {hs : List (L8 × L8)} (h : OH w base (.slice A hs.length cp) hs) (hb : g + 3 ≤ base) (a b c d e : Value) : RHd (((((w.setCell ⟨g, 0, none⟩ a).setCell ⟨g, 1, none⟩ b).setCell ⟨g, 2, none⟩ c).setCell ⟨g + 1, 0, none⟩ d).setCell ⟨g + 2, 0, none⟩ e) (.slice A hs.length cp) hs := by
  have o1 := own_other h (grown3 w g a b c) (fun j hj e => by injection e with e; have := own_base h j hj; omega)
  have o2 := own_other o1 (grownBy_set _ (g + 1) 0 d) (fun j hj e => by injection e with e; have := own_base h j hj; omega)
  exact oh_rhd (own_other o2 (grownBy_set _ (g + 2) 0 e) (fun j hj e => by injection e with e; have := own_base h j hj; omega))

set_option maxRecDepth 100000 in
set_option maxHeartbeats 2000000 in
theorem next_c {w : World} (s : ByteArray) (hs : s.size ≤ 1073741824) (hg : GM w) (hG : G w) :
    Calls Tryd.prog 6 #[.string s] w (NPost (nextQ s.data.toList) w) := by
  obtain ⟨O, hO⟩ : ∃ o, o = nextQ s.data.toList := ⟨_, rfl⟩
  rw [← hO]
  obtain ⟨W, hW⟩ : ∃ W, W = ((w.alloc (.cells #[.string ⟨#[]⟩, .slice none 0 0, .string ⟨#[]⟩] 25)).alloc (.cells #[.int .i64 0] 3)).alloc (.cells #[.int .i64 0] 26) := ⟨_, rfl⟩
  have b0 : Below w.heap.size w W := by rw [hW]; exact (((Below.refl _ _).alloc (Nat.le_refl _) _).alloc (by simp) _).alloc (by simp; omega) _
  have hsz : W.heap.size = w.heap.size + 3 := by rw [hW]; simp
  have HW := Lib.hid hW
  have HB0 := Lib.hid b0
  have HSZ := Lib.hid hsz
  have hmf : ∀ (fn : Fn) (first cap : Array Value) (w : World), (Instr.makeFunc fn first cap).run Tryd.prog w = .ok (.func fn first cap) w := fun _ _ _ _ => rfl
  have HO := Lib.hid hO
  have HS := Lib.hid hs
  have HGM := Lib.hid (hg.below b0)
  have HGG := Lib.hid (hG.on b0)
  obtain ⟨b, hb⟩ : ∃ b, b = blanksP s.data.toList := ⟨_, rfl⟩
  have hbl := blanks_c (w := W) s (by omega)
  rw [← hb] at hbl
  have HBL := Lib.hid hbl
  have hbs : b ≤ s.size := by rw [hb, ← ba_size]; exact (blanks_all _ _ (Nat.le_refl _)).1
  have hbI : (b : Int) ≤ (s.size : Int) := by omega
  have hb0 : (0 : Int) ≤ (b : Int) := by omega
  obtain ⟨s1, hs1⟩ : ∃ s1, s1 = s.extract b s.size := ⟨_, rfl⟩
  have hd1 : s1.data.toList = s.data.toList.drop b := by rw [hs1]; exact drop_data s b hbs
  have hl1 : s1.size ≤ s.size := by rw [hs1, ByteArray.size_extract]; omega
  have HS1 := Lib.hid hs1
  obtain ⟨m, hm⟩ : ∃ m, m = min s1.size 16384 := ⟨_, rfl⟩
  obtain ⟨s2, hs2⟩ : ∃ s2, s2 = s1.extract 0 m := ⟨_, rfl⟩
  have hd2 : s2.data.toList = (s.data.toList.drop b).take 16384 := by
    rw [hs2, take_data, hd1, hm]
    by_cases h : s1.size ≤ 16384
    · rw [Nat.min_eq_left h, List.take_of_length_le (by rw [← hd1, ba_size]; exact Nat.le_refl _), List.take_of_length_le (by rw [← hd1, ba_size]; exact h)]
    · rw [Nat.min_eq_right (by omega)]
  have hl2 : s2.size ≤ 1073741824 := by rw [hs2, ByteArray.size_extract]; omega
  have hOX : O = match wholeP numT s2.data.toList with
      | none => (noF, 0, 40)
      | some none => if s1.size < 16384 then (noF, b, 41) else (noF, 0, 40)
      | some (some (f, r)) => (f, b + m - r.length, 0) := by
    rw [hO, hd2, hb, hm]
    have e : s1.size = (s.data.toList.drop (blanksP s.data.toList)).length := by rw [← hb, ← hd1, ba_size]
    rw [e]
    rfl
  have HOX := Lib.hid hOX
  have HS2 := Lib.hid hs2
  have HM := Lib.hid hm
  have HL1 := Lib.hid (Nat.le_trans hl1 hs)
  have HWH := Lib.hid (fun w1 (bw : Below W.heap.size W w1) => whole_c (w := w1) s2 hl2 (HGM.out.below bw) (HGG.out.on bw))
  have hm0 : (0 : Int) ≤ (m : Int) := by omega
  have hm1 : (m : Int) ≤ (s1.size : Int) := by omega
  have HML : Hid ((m : Int) = min (s1.size : Int) 16384) := Lib.hid (by rw [hm]; omega)
  have HR0 : Hid (∀ w1, Below W.heap.size W w1 → w1.heap[w.heap.size]? = some (.cells #[.string ⟨#[]⟩, .slice none 0 0, .string ⟨#[]⟩] 25 (0, 0)) ∧ w1.heap[w.heap.size + 1]? = some (.cells #[.int .i64 0] 3 (0, 0)) ∧ w1.heap[w.heap.size + 1 + 1]? = some (.cells #[.int .i64 0] 26 (0, 0))) := Lib.hid (fun w1 bw => by
    have t0 : W.heap[w.heap.size]? = some (.cells #[.string ⟨#[]⟩, .slice none 0 0, .string ⟨#[]⟩] 25 (0, 0)) := by rw [hW]; exact (Below.heap_alloc _ _ _ (by simp; omega)).trans ((Below.heap_alloc _ _ _ (by simp)).trans (heap_alloc_new w _))
    have t1 : W.heap[w.heap.size + 1]? = some (.cells #[.int .i64 0] 3 (0, 0)) := by rw [hW]; exact (Below.heap_alloc _ _ _ (by simp)).trans (by have h := heap_alloc_new (w.alloc (.cells #[.string ⟨#[]⟩, .slice none 0 0, .string ⟨#[]⟩] 25)) (.cells #[.int .i64 0] 3); simpa using h)
    have t2 : W.heap[w.heap.size + 1 + 1]? = some (.cells #[.int .i64 0] 26 (0, 0)) := by rw [hW]; have h := heap_alloc_new ((w.alloc (.cells #[.string ⟨#[]⟩, .slice none 0 0, .string ⟨#[]⟩] 25)).alloc (.cells #[.int .i64 0] 3)) (.cells #[.int .i64 0] 26); simpa using h
    exact ⟨(bw.block _ (by omega)).trans t0, (bw.block _ (by omega)).trans t1, (bw.block _ (by omega)).trans t2⟩)
  clear hW b0 hsz hO hs hg hG hb hbl hbs hs1 hd1 hl1 hm hs2 hd2 hl2 hOX
  go_enter_defers Tryd.func6, Tryd.ntmps6
  go_upto_region 2 with fail
  rw [← HW.out]
  go_wp2_with fail
  refine (HBL.out).mono ?_
  rintro e w1 ⟨rfl, rfl⟩
  go_upto_region 4 with fail
  rw [← HS1.out]
  go_wp2_with fail
  rw [← HML.out, Int.toNat_natCast, ← HS2.out]
  refine (HWH.out _ (Below.refl _ _)).mono ?_
  clear HWH
  cases hP : wholeP numT s2.data.toList with
  | none =>
    rw [hP] at HOX
    obtain rfl : O = (noF, 0, 40) := HOX.out
    rintro e w2 ⟨b2, rfl⟩
    have h3 := HR0.out w2 b2
    have B2 := Lib.hid b2
    clear hP b2
    go_wp2_with fail
    refine leaves_cons (f := 10) (args := #[.pointer (some ⟨w.heap.size, 0, none⟩), .pointer (some ⟨w.heap.size + 1, 0, none⟩), .pointer (some ⟨w.heap.size + 1 + 1, 0, none⟩)]) (by simp) (by simp [go_sem]) ?_
    refine (ncatch_stop w.heap.size [] _ (HR0.out w2 B2.out).1 (HR0.out w2 B2.out).2.1 (HR0.out w2 B2.out).2.2).mono ?_
    rintro e u' w'' ⟨rfl, rfl, rfl⟩
    obtain ⟨X, hX⟩ : ∃ X, X = w2.alloc (.cells #[] 38) := ⟨_, rfl⟩
    have bX : Below w2.heap.size w2 X := by rw [hX]; exact (Below.refl _ _).alloc (Nat.le_refl _) _
    have hx := HR0.out X (B2.out.trans (bX.mono B2.out.size))
    obtain ⟨q0, q1, q2⟩ := set5_rows hx.1 hx.2.1 hx.2.2 (.string ⟨#[]⟩) (.slice none 0 0) (.string ⟨#[]⟩) (.int .i64 0) (.int .i64 40)
    have hcq : caught w2 w.heap.size = (((((X.setCell ⟨w.heap.size, 0, none⟩ (.string ⟨#[]⟩)).setCell ⟨w.heap.size, 1, none⟩ (.slice none 0 0)).setCell ⟨w.heap.size, 2, none⟩ (.string ⟨#[]⟩)).setCell ⟨w.heap.size + 1, 0, none⟩ (.int .i64 0)).setCell ⟨w.heap.size + 2, 0, none⟩ (.int .i64 40)) := by rw [hX]; rfl
    show ∃ v, (results Tryd.f6 _).run Tryd.prog (caught w2 w.heap.size) = .ok v (caught w2 w.heap.size) ∧ NPost _ w (.returned v) (caught w2 w.heap.size)
    rw [hcq]
    refine ⟨_, results_next rfl _ _ w.heap.size (w.heap.size + 1) (w.heap.size + 2) _ _ _ _ (.int .i64 0) (.int .i64 40) rfl rfl rfl q0 Tryd.underlying25 rfl (by kernel_rfl) (load_int q1) (load_err q2), ?_⟩
    exact npost_zero (n := 0) (below5 (HB0.out.trans ((B2.out.trans (bX.mono B2.out.size)).mono HB0.out.size)) (Nat.le_refl _) _ _ _ _ _)
  | some P =>
    cases P with
    | none =>
      rw [hP] at HOX
      rintro e w2 ⟨b2, c, A, n, cp, bd, rfl⟩
      have B2 := Lib.hid b2
      clear hP b2
      go_upto_region 5 with fail
      obtain ⟨V, hV⟩ : ∃ V, V = w2.alloc (.cells #[.string c, .slice A n cp, .string bd] 25) := ⟨_, rfl⟩
      rw [← hV]
      have bV : Below w2.heap.size w2 V := by rw [hV]; exact (Below.refl _ _).alloc (Nat.le_refl _) _
      have BV := Lib.hid (B2.out.trans (bV.mono B2.out.size))
      clear hV bV
      have h3 := HR0.out V BV.out
      have H3 := Lib.hid h3
      by_cases hlt : s1.size < 16384
      · obtain rfl : O = (noF, b, 41) := by
          have h := HOX.out
          rw [h]; exact if_pos hlt
        have dl : decide ((s1.size : Int) < 16384) = true := decide_eq_true (by omega)
        have x0 : V.cell? ⟨w.heap.size, 0, none⟩ = some (.string ⟨#[]⟩) := (cell3 h3.1 0).trans rfl
        have x1 : V.cell? ⟨w.heap.size, 1, none⟩ = some (.slice none 0 0) := (cell3 h3.1 1).trans rfl
        have x2 : V.cell? ⟨w.heap.size, 2, none⟩ = some (.string ⟨#[]⟩) := (cell3 h3.1 2).trans rfl
        have x3 : V.cell? ⟨w.heap.size + 1, 0, none⟩ = some (.int .i64 0) := (cell3 h3.2.1 0).trans rfl
        have x4 : V.cell? ⟨w.heap.size + 1 + 1, 0, none⟩ = some (.int .i64 0) := (cell3 h3.2.2 0).trans rfl
        have f0 : ∀ j, V.frozen? ⟨w.heap.size, j, none⟩ = false := fun j => frozen_of_row _ _ j _ _ h3.1
        have f1 : ∀ j, V.frozen? ⟨w.heap.size + 1, j, none⟩ = false := fun j => frozen_of_row _ _ j _ _ h3.2.1
        have f2 : ∀ j, V.frozen? ⟨w.heap.size + 1 + 1, j, none⟩ = false := fun j => frozen_of_row _ _ j _ _ h3.2.2
        have n1 : ¬ w.heap.size + 1 = w.heap.size := by omega
        have n2 : ¬ w.heap.size + 1 + 1 = w.heap.size := by omega
        have n3 : ¬ w.heap.size + 1 + 1 = w.heap.size + 1 := by omega
        clear h3 hlt
        go_wp2_with fail
        try rw [dl]
        refine (unless_t _).mono ?_
        rintro e wp ⟨rfl, rfl⟩
        go_wp2_with fail
        refine leaves_cons (f := 10) (args := #[.pointer (some ⟨w.heap.size, 0, none⟩), .pointer (some ⟨w.heap.size + 1, 0, none⟩), .pointer (some ⟨w.heap.size + 1 + 1, 0, none⟩)]) (by simp) (by simp [go_sem]) ?_
        refine (ncatch_idle _ _ _ _).mono ?_
        rintro e u' w'' ⟨rfl, rfl, rfl⟩
        obtain ⟨q0, q1, q2⟩ := set5_rows H3.out.1 H3.out.2.1 H3.out.2.2 (.string ⟨#[]⟩) (.slice none 0 0) (.string ⟨#[]⟩) (.int .i64 b) (.int .i64 41)
        show ∃ v, (results Tryd.f6 _).run Tryd.prog _ = .ok v _ ∧ NPost _ w (.returned v) _
        refine ⟨_, results_next rfl _ _ w.heap.size (w.heap.size + 1) (w.heap.size + 2) _ _ _ _ _ _ rfl rfl rfl q0 Tryd.underlying25 rfl (by kernel_rfl) (load_int q1) (load_err q2), ?_⟩
        exact npost_zero (n := b) (below5 (HB0.out.trans (BV.out.mono HB0.out.size)) (Nat.le_refl _) _ _ _ _ _)
      · obtain rfl : O = (noF, 0, 40) := by
          have h := HOX.out
          rw [h]; exact if_neg hlt
        have dl : decide ((s1.size : Int) < 16384) = false := decide_eq_false (by omega)
        clear h3 hlt
        go_wp2_with fail
        try rw [dl]
        refine (unless_f _).mono ?_
        rintro e wp ⟨rfl, rfl⟩
        go_wp2_with fail
        refine leaves_cons (f := 10) (args := #[.pointer (some ⟨w.heap.size, 0, none⟩), .pointer (some ⟨w.heap.size + 1, 0, none⟩), .pointer (some ⟨w.heap.size + 1 + 1, 0, none⟩)]) (by simp) (by simp [go_sem]) ?_
        refine (ncatch_stop w.heap.size [] _ (HR0.out wp BV.out).1 (HR0.out wp BV.out).2.1 (HR0.out wp BV.out).2.2).mono ?_
        rintro e u' w'' ⟨rfl, rfl, rfl⟩
        obtain ⟨X, hX⟩ : ∃ X, X = wp.alloc (.cells #[] 38) := ⟨_, rfl⟩
        have bX : Below wp.heap.size wp X := by rw [hX]; exact (Below.refl _ _).alloc (Nat.le_refl _) _
        have hx := HR0.out X (BV.out.trans (bX.mono BV.out.size))
        obtain ⟨q0, q1, q2⟩ := set5_rows hx.1 hx.2.1 hx.2.2 (.string ⟨#[]⟩) (.slice none 0 0) (.string ⟨#[]⟩) (.int .i64 0) (.int .i64 40)
        have hcq : caught wp w.heap.size = (((((X.setCell ⟨w.heap.size, 0, none⟩ (.string ⟨#[]⟩)).setCell ⟨w.heap.size, 1, none⟩ (.slice none 0 0)).setCell ⟨w.heap.size, 2, none⟩ (.string ⟨#[]⟩)).setCell ⟨w.heap.size + 1, 0, none⟩ (.int .i64 0)).setCell ⟨w.heap.size + 2, 0, none⟩ (.int .i64 40)) := by rw [hX]; rfl
        show ∃ v, (results Tryd.f6 _).run Tryd.prog (caught wp w.heap.size) = .ok v (caught wp w.heap.size) ∧ NPost _ w (.returned v) (caught wp w.heap.size)
        rw [hcq]
        refine ⟨_, results_next rfl _ _ w.heap.size (w.heap.size + 1) (w.heap.size + 2) _ _ _ _ (.int .i64 0) (.int .i64 40) rfl rfl rfl q0 Tryd.underlying25 rfl (by kernel_rfl) (load_int q1) (load_err q2), ?_⟩
        exact npost_zero (n := 0) (below5 (HB0.out.trans ((BV.out.trans (bX.mono BV.out.size)).mono HB0.out.size)) (Nat.le_refl _) _ _ _ _ _)
    | some p =>
      obtain ⟨f, r⟩ := p
      rw [hP] at HOX
      obtain rfl : O = (f, b + m - r.length, 0) := HOX.out
      have hrl : r.length < s2.size := by have := whole_le hP; rw [ba_size] at this; exact this
      have hs2m : s2.size ≤ m := by rw [HS2.out, ByteArray.size_extract]; omega
      rintro e w2 ⟨b2, A, cp, rfl, hoh⟩
      obtain ⟨rb, hrb⟩ : ∃ rb : ByteArray, rb = ⟨r.toArray⟩ := ⟨_, rfl⟩
      obtain ⟨cb, hcb⟩ : ∃ cb : ByteArray, cb = ⟨f.cmd.toArray⟩ := ⟨_, rfl⟩
      obtain ⟨bb, hbb⟩ : ∃ bb : ByteArray, bb = ⟨f.body.toArray⟩ := ⟨_, rfl⟩
      rw [← hrb, ← hcb, ← hbb]
      have hrs : rb.size = r.length := by rw [hrb, str_sz]
      have B2 := Lib.hid b2
      have HCB := Lib.hid hcb
      have HBB := Lib.hid hbb
      have HRS := Lib.hid hrs
      have HRL := Lib.hid (Nat.lt_of_lt_of_le hrl hs2m)
      have hbm : b ≤ 1073741824 := by have := HS.out; omega
      have hmm : min (s1.size : Int) 16384 = (m : Int) := HML.out.symm
      have hmm2 : m ≤ 16384 := by have := HM.out; omega
      have hw1 : wrap64 ((b : Int) + min (s1.size : Int) 16384) = (b : Int) + min (s1.size : Int) 16384 := by rw [hmm]; unfold wrap64; omega
      have hw2 : IntKind.i64.wrap ((b : Int) + min (s1.size : Int) 16384) = (b : Int) + min (s1.size : Int) 16384 := by rw [IntKind.wrap_i64]; unfold wrap64 at hw1; exact hw1
      have hw3 : wrap64 ((b : Int) + min (s1.size : Int) 16384 - (rb.size : Int)) = (b : Int) + min (s1.size : Int) 16384 - (rb.size : Int) := by have := HRL.out; rw [hmm]; unfold wrap64; omega
      have hw4 : IntKind.i64.wrap ((b : Int) + min (s1.size : Int) 16384 - (rb.size : Int)) = (b : Int) + min (s1.size : Int) 16384 - (rb.size : Int) := by rw [IntKind.wrap_i64]; unfold wrap64 at hw3; exact hw3
      clear hP hrb hcb hbb hrs hrl hs2m hbm hmm hmm2
      go_upto_region 5 with fail
      obtain ⟨V, hV⟩ : ∃ V, V = w2.alloc (.cells #[.string cb, .slice A f.hs.length cp, .string bb] 25) := ⟨_, rfl⟩
      rw [← hV]
      have bV : Below w2.heap.size w2 V := by rw [hV]; exact (Below.refl _ _).alloc (Nat.le_refl _) _
      have eV : V.heap[w2.heap.size]? = some (.cells #[.string cb, .slice A f.hs.length cp, .string bb] 25 (0, 0)) := by rw [hV]; exact heap_alloc_new w2 _
      have BV := Lib.hid (B2.out.trans (bV.mono B2.out.size))
      have HOV := Lib.hid (own_below hoh bV)
      have h3 := HR0.out V BV.out
      have H3 := Lib.hid h3
      have y0 : V.cell? ⟨w2.heap.size, 0, none⟩ = some (.string cb) := (cell3 eV 0).trans rfl
      have y1 : V.cell? ⟨w2.heap.size, 1, none⟩ = some (.slice A f.hs.length cp) := (cell3 eV 1).trans rfl
      have y2 : V.cell? ⟨w2.heap.size, 2, none⟩ = some (.string bb) := (cell3 eV 2).trans rfl
      have x0 : V.cell? ⟨w.heap.size, 0, none⟩ = some (.string ⟨#[]⟩) := (cell3 h3.1 0).trans rfl
      have x1 : V.cell? ⟨w.heap.size, 1, none⟩ = some (.slice none 0 0) := (cell3 h3.1 1).trans rfl
      have x2 : V.cell? ⟨w.heap.size, 2, none⟩ = some (.string ⟨#[]⟩) := (cell3 h3.1 2).trans rfl
      have x3 : V.cell? ⟨w.heap.size + 1, 0, none⟩ = some (.int .i64 0) := (cell3 h3.2.1 0).trans rfl
      have x4 : V.cell? ⟨w.heap.size + 1 + 1, 0, none⟩ = some (.int .i64 0) := (cell3 h3.2.2 0).trans rfl
      have f0 : ∀ j, V.frozen? ⟨w.heap.size, j, none⟩ = false := fun j => frozen_of_row _ _ j _ _ h3.1
      have f1 : ∀ j, V.frozen? ⟨w.heap.size + 1, j, none⟩ = false := fun j => frozen_of_row _ _ j _ _ h3.2.1
      have f2 : ∀ j, V.frozen? ⟨w.heap.size + 1 + 1, j, none⟩ = false := fun j => frozen_of_row _ _ j _ _ h3.2.2
      have n1 : ¬ w.heap.size + 1 = w.heap.size := by omega
      have n2 : ¬ w.heap.size + 1 + 1 = w.heap.size := by omega
      have n3 : ¬ w.heap.size + 1 + 1 = w.heap.size + 1 := by omega
      clear hV bV eV h3 hoh b2
      go_wp2_with fail
      refine leaves_cons (f := 10) (args := #[.pointer (some ⟨w.heap.size, 0, none⟩), .pointer (some ⟨w.heap.size + 1, 0, none⟩), .pointer (some ⟨w.heap.size + 1 + 1, 0, none⟩)]) (by simp) (by simp [go_sem]) ?_
      refine (ncatch_idle _ _ _ _).mono ?_
      rintro e u' w'' ⟨rfl, rfl, rfl⟩
      obtain ⟨q0, q1, q2⟩ := set5_rows H3.out.1 H3.out.2.1 H3.out.2.2 (.string cb) (.slice A f.hs.length cp) (.string bb) (.int .i64 ((b : Int) + min (s1.size : Int) 16384 - (rb.size : Int))) (.int .i64 0)
      show ∃ v, (results Tryd.f6 _).run Tryd.prog _ = .ok v _ ∧ NPost _ w (.returned v) _
      refine ⟨_, results_next rfl _ _ w.heap.size (w.heap.size + 1) (w.heap.size + 2) _ _ _ _ _ _ rfl rfl rfl q0 Tryd.underlying25 rfl (by kernel_rfl) (load_int q1) (load_err q2), ?_⟩
      have hz : ((b + m - r.length : Nat) : Int) = (b : Int) + min (s1.size : Int) 16384 - (rb.size : Int) := by have := HRL.out; rw [HRS.out, ← HML.out]; omega
      have hr5 := rhd_set5 (g := w.heap.size) HOV.out (by have := HSZ.out; omega) (.string cb) (.slice A f.hs.length cp) (.string bb) (.int .i64 ((b : Int) + min (s1.size : Int) 16384 - (rb.size : Int))) (.int .i64 0)
      refine ⟨below5 (HB0.out.trans (BV.out.mono HB0.out.size)) (Nat.le_refl _) _ _ _ _ _, A, cp, ?_, hr5⟩
      show Ending.returned (.tuple #[.agg #[.string cb, .slice A f.hs.length cp, .string bb], .int .i64 ((b : Int) + min (s1.size : Int) 16384 - (rb.size : Int)), .int .i64 0]) = .returned (.tuple #[.agg #[.string ⟨f.cmd.toArray⟩, .slice A f.hs.length cp, .string ⟨f.body.toArray⟩], .int .i64 ((b + m - r.length : Nat) : Int), .int .i64 0])
      rw [hz, HCB.out, HBB.out]
end Go.Proofs.YtfpdmgmolhddnaaDoor
