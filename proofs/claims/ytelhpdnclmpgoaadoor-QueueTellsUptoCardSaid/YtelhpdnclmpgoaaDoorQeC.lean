/- Layer 10: Push. (Printed by gen/qec.py.) -/
import Derived.Test.YtelhpdnclmpgoaaDoorQeK
import Derived.Deep.AppendLies
import Derived.Test.YtelhpdnclmpgoaaDoorQdE
import Derived.Test.YtelhpdnclmpgoaaDoorSld
namespace Go.Proofs.YtelhpdnclmpgoaaDoor
open Go Go.RowKit Go.Sort
open Go.ChangeShapes Go.WideShapes Go.Deep
set_option linter.unusedSimpArgs false
set_option linter.unusedVariables false

def pushR (q : Que) (m : Msg) : Que × Int :=
  if goodQ q = true ∧ q.seq < 1099511627776 then if m.good = true then if (q.items.length : Int) + q.held.length < q.depth then (⟨q.name, q.dur, q.depth, q.seq + 1, q.tag, q.items ++ [⟨q.seq + 1, false, m⟩], q.held⟩, 0) else (noQ, 35) else (noQ, 36) else (noQ, 1)
theorem goodQ_seq {q : Que} (h : goodQ q = true) : 0 ≤ q.seq := by
  unfold goodQ headQ at h
  simp only [Bool.and_eq_true, decide_eq_true_eq] at h
  exact h.1.1.1.1.1.2
theorem alloc3_0 (w : World) (a b c : Obj) : (((w.alloc a).alloc b).alloc c).heap[w.heap.size]? = some a := (Below.heap_alloc _ c _ (by simp; omega)).trans ((Below.heap_alloc _ b _ (by simp)).trans (heap_alloc_new w a))
theorem alloc3_1 (w : World) (a b c : Obj) : (((w.alloc a).alloc b).alloc c).heap[w.heap.size + 1]? = some b := (Below.heap_alloc _ c _ (by simp)).trans (by have h := heap_alloc_new (w.alloc a) b; simpa using h)
theorem alloc3_2 (w : World) (a b c : Obj) : (((w.alloc a).alloc b).alloc c).heap[w.heap.size + 2]? = some c := by have h := heap_alloc_new ((w.alloc a).alloc b) c; simpa using h
theorem ownq_no (w : World) (base : Nat) : OwnQ w base noQ noR :=
  ⟨own_nil _ _ _ _, own_nil _ _ _ _, (fun x h => by cases h), (fun x h => by cases h), rfl, rfl⟩

set_option maxRecDepth 100000 in
set_option maxHeartbeats 4000000 in
theorem push_c {w : World} (q : Que) (r : QuR) (m : Msg) {A : Option Addr} {c : Nat} (hq : QuIn w q r) (hf : q.fit) (hp : RPr w (.slice A m.ps.length c) m.ps) (hmf : m.fit) (hg : GM w) :
    Calls Tryd.prog 26 #[.agg #[.string q.name, .bool q.dur, .int .i64 q.depth, .int .i64 q.seq, .int .i64 q.tag, .slice r.ia r.is.length r.ic, .slice r.ha r.hs.length r.hc], .agg #[.string m.top, .string m.body, .slice A m.ps.length c, .bool m.dur, .int .i64 m.unt]] w fun e w' => ∃ r' : QuR, e = .returned (.tuple #[.agg #[.string (pushR q m).1.name, .bool (pushR q m).1.dur, .int .i64 (pushR q m).1.depth, .int .i64 (pushR q m).1.seq, .int .i64 (pushR q m).1.tag, .slice r'.ia r'.is.length r'.ic, .slice r'.ha r'.hs.length r'.hc], .int .i64 (pushR q m).2]) ∧ OwnW w' w.heap.size (pushR q m).1 r' ∧ Below w.heap.size w w' := by
  obtain ⟨pr, hpr⟩ : ∃ pr, pr = pushR q m := ⟨_, rfl⟩
  rw [← hpr]
  obtain ⟨W, hW⟩ : ∃ W, W = ((w.alloc (.cells #[.string q.name, .bool q.dur, .int .i64 q.depth, .int .i64 q.seq, .int .i64 q.tag, .slice r.ia r.is.length r.ic, .slice r.ha r.hs.length r.hc] 25)).alloc (.cells #[.string m.top, .string m.body, .slice A m.ps.length c, .bool m.dur, .int .i64 m.unt] 28)).alloc (.cells #[.string ⟨#[]⟩, .bool false, .int .i64 0, .int .i64 0, .int .i64 0, .slice none 0 0, .slice none 0 0] 25) := ⟨_, rfl⟩
  have b0 : Below w.heap.size w W := by rw [hW]; exact (((Below.refl _ _).alloc (Nat.le_refl _) _).alloc (by simp) _).alloc (by simp; omega) _
  have hsz : W.heap.size = w.heap.size + 3 := by rw [hW]; simp
  have r0 : W.heap[w.heap.size]? = some (.cells #[.string q.name, .bool q.dur, .int .i64 q.depth, .int .i64 q.seq, .int .i64 q.tag, .slice r.ia r.is.length r.ic, .slice r.ha r.hs.length r.hc] 25 (0, 0)) := by rw [hW]; exact alloc3_0 _ _ _ _
  have r1 : W.heap[w.heap.size + 1]? = some (.cells #[.string m.top, .string m.body, .slice A m.ps.length c, .bool m.dur, .int .i64 m.unt] 28 (0, 0)) := by rw [hW]; exact alloc3_1 _ _ _ _
  have r2 : W.heap[w.heap.size + 2]? = some (.cells #[.string ⟨#[]⟩, .bool false, .int .i64 0, .int .i64 0, .int .i64 0, .slice none 0 0, .slice none 0 0] 25 (0, 0)) := by rw [hW]; exact alloc3_2 _ _ _ _
  have hz : ∀ w1, Below W.heap.size W w1 → ∀ j u, (#[.string q.name, .bool q.dur, .int .i64 q.depth, .int .i64 q.seq, .int .i64 q.tag, .slice r.ia r.is.length r.ic, .slice r.ha r.hs.length r.hc] : Array Value)[j]? = some u → w1.cell? ⟨w.heap.size, j, none⟩ = some u := fun w1 b j u hj => by
    have := (b.block w.heap.size (by omega)).trans r0
    simp only [World.cell?, this]; exact hj
  have hm : ∀ w1, Below W.heap.size W w1 → ∀ j u, (#[.string m.top, .string m.body, .slice A m.ps.length c, .bool m.dur, .int .i64 m.unt] : Array Value)[j]? = some u → w1.cell? ⟨w.heap.size + 1, j, none⟩ = some u := fun w1 b j u hj => by
    have := (b.block (w.heap.size + 1) (by omega)).trans r1
    simp only [World.cell?, this]; exact hj
  have hx : ∀ w1, Below W.heap.size W w1 → ∀ j u, (#[.string ⟨#[]⟩, .bool false, .int .i64 0, .int .i64 0, .int .i64 0, .slice none 0 0, .slice none 0 0] : Array Value)[j]? = some u → w1.cell? ⟨w.heap.size + 2, j, none⟩ = some u := fun w1 b j u hj => by
    have := (b.block (w.heap.size + 2) (by omega)).trans r2
    simp only [World.cell?, this]; exact hj
  have hr : ∀ w1, Below W.heap.size W w1 → w1.heap[w.heap.size + 2]? = some (.cells #[.string ⟨#[]⟩, .bool false, .int .i64 0, .int .i64 0, .int .i64 0, .slice none 0 0, .slice none 0 0] 25 (0, 0)) := fun w1 b => (b.block (w.heap.size + 2) (by omega)).trans r2
  have hfz : ∀ w1, Below W.heap.size W w1 → ∀ j, w1.frozen? ⟨w.heap.size + 2, j, none⟩ = false := fun w1 b j => frozen_of_row _ _ j _ _ (hr w1 b)
  have HG := Lib.hid (goodQ_c q r (hq.below b0) hf (hg.below b0))
  have HME := Lib.hid (fun w1 (b : Below W.heap.size W w1) => message_c (w := w1) m (rc_below (rc_below hp b0) b) hmf ((hg.below b0).below b))
  have h1 : q.items.length = r.is.length := by rw [← hq.ip, List.length_map]
  have h2 : q.held.length = r.hs.length := by rw [← hq.hp, List.length_map]
  have HLE := Lib.hid (fun w1 (b : Below W.heap.size W w1) => len_c (w := w1) q r ((hq.below b0).below b) (by have := hf.il; have := hf.hl; omega))
  have HC := Lib.hid (fun w1 (b : Below W.heap.size W w1) => copy_c (w := w1) q r ((hq.below b0).below b) (by have := hf.il; omega) (by have := hf.hl; omega) (fun x hx => by have := (hf.im x.it (by rw [← hq.ip]; exact List.mem_map.2 ⟨x, hx, rfl⟩)).2.2.1; omega) (fun x hx => by have := (hf.hm x.pl (by rw [← hq.hp]; exact List.mem_map.2 ⟨x, hx, rfl⟩)).2.2.1; show x.r.it.m.ps.length * 56 ≤ _; have h' : x.r.it.m.ps.length ≤ 1048576 := this; omega))
  have HCP := Lib.hid (fun w1 (b : Below W.heap.size W w1) => copied_c (w := w1) m (rc_below (rc_below hp b0) b) (by have := hmf.2.2.1; omega))
  have HPR := Lib.hid hpr
  have HSZ := Lib.hid hsz
  have HW := Lib.hid hW
  have HB := Lib.hid b0
  have HZ := Lib.hid hz
  have HM := Lib.hid hm
  have HX := Lib.hid hx
  have HR := Lib.hid hr
  have HF := Lib.hid hfz
  have HFIT := Lib.hid hf
  have zz := hz W (Below.refl _ _)
  clear hpr hW b0 hsz r0 r1 r2 hz hm hx hr hfz hq hf hp hmf hg h1 h2
  have z0 := zz 0 _ rfl
  have z1 := zz 1 _ rfl
  have z2 := zz 2 _ rfl
  have z3 := zz 3 _ rfl
  have z4 := zz 4 _ rfl
  have z5 := zz 5 _ rfl
  have z6 := zz 6 _ rfl
  clear zz
  go_enter Tryd.func26, Tryd.ntmps26
  go_upto_region 1 with fail
  rw [← HW.out]
  go_wp2_with fail
  refine (HG.out).mono ?_
  rintro e w1 ⟨rfl, b1⟩
  clear z0 z1 z2 z3 z4 z5 z6
  have B1 := Lib.hid b1
  have z0 := HZ.out w1 B1.out 0 _ rfl
  have z1 := HZ.out w1 B1.out 1 _ rfl
  have z2 := HZ.out w1 B1.out 2 _ rfl
  have z3 := HZ.out w1 B1.out 3 _ rfl
  have z4 := HZ.out w1 B1.out 4 _ rfl
  have z5 := HZ.out w1 B1.out 5 _ rfl
  have z6 := HZ.out w1 B1.out 6 _ rfl
  have m0 := HM.out w1 B1.out 0 _ rfl
  have m1 := HM.out w1 B1.out 1 _ rfl
  have m2 := HM.out w1 B1.out 2 _ rfl
  have m3 := HM.out w1 B1.out 3 _ rfl
  have m4 := HM.out w1 B1.out 4 _ rfl
  have x0 := HX.out w1 B1.out 0 _ rfl
  have x1 := HX.out w1 B1.out 1 _ rfl
  have x2 := HX.out w1 B1.out 2 _ rfl
  have x3 := HX.out w1 B1.out 3 _ rfl
  have x4 := HX.out w1 B1.out 4 _ rfl
  have x5 := HX.out w1 B1.out 5 _ rfl
  have x6 := HX.out w1 B1.out 6 _ rfl
  have fz := HF.out w1 B1.out
  clear b1
  cases hgd : goodQ q with
  | false =>
    obtain rfl : pr = (noQ, 1) := by rw [HPR.out]; unfold pushR; rw [if_neg (fun h => by rw [hgd] at h; exact absurd h.1 (by decide))]
    go_wp2_with fail
    refine queue_end (w := w1) (g := w.heap.size + 2) rfl _ _ _ _ _ _ _ (HR.out _ B1.out) rfl rfl ?_
    exact ⟨noR, rfl, (ownq_no _ _).weak, below7 (HB.out.trans (Below.mono B1.out HB.out.size)) (by omega) _ _ _ _ _ _ _⟩
  | true =>
    by_cases hs : 1099511627776 ≤ q.seq
    · obtain rfl : pr = (noQ, 1) := by rw [HPR.out]; unfold pushR; rw [if_neg (fun h => by omega)]
      go_wp2_with fail
      refine queue_end (w := w1) (g := w.heap.size + 2) rfl _ _ _ _ _ _ _ (HR.out _ B1.out) rfl rfl ?_
      exact ⟨noR, rfl, (ownq_no _ _).weak, below7 (HB.out.trans (Below.mono B1.out HB.out.size)) (by omega) _ _ _ _ _ _ _⟩
    · have hs' : q.seq < 1099511627776 := by omega
      clear hs
      go_wp2_with fail
      refine (HME.out w1 B1.out).mono ?_
      rintro e w2 ⟨rfl, b2⟩
      clear z0 z1 z2 z3 z4 z5 z6 m0 m1 m2 m3 m4 x0 x1 x2 x3 x4 x5 x6 fz
      have B2 := Lib.hid (B1.out.trans (b2.mono B1.out.size))
      have z0 := HZ.out w2 B2.out 0 _ rfl
      have z1 := HZ.out w2 B2.out 1 _ rfl
      have z2 := HZ.out w2 B2.out 2 _ rfl
      have z3 := HZ.out w2 B2.out 3 _ rfl
      have z4 := HZ.out w2 B2.out 4 _ rfl
      have z5 := HZ.out w2 B2.out 5 _ rfl
      have z6 := HZ.out w2 B2.out 6 _ rfl
      have m0 := HM.out w2 B2.out 0 _ rfl
      have m1 := HM.out w2 B2.out 1 _ rfl
      have m2 := HM.out w2 B2.out 2 _ rfl
      have m3 := HM.out w2 B2.out 3 _ rfl
      have m4 := HM.out w2 B2.out 4 _ rfl
      have x0 := HX.out w2 B2.out 0 _ rfl
      have x1 := HX.out w2 B2.out 1 _ rfl
      have x2 := HX.out w2 B2.out 2 _ rfl
      have x3 := HX.out w2 B2.out 3 _ rfl
      have x4 := HX.out w2 B2.out 4 _ rfl
      have x5 := HX.out w2 B2.out 5 _ rfl
      have x6 := HX.out w2 B2.out 6 _ rfl
      have fz := HF.out w2 B2.out
      clear b2
      have HP2 : Hid (pr = if m.good = true then if (q.items.length : Int) + q.held.length < q.depth then (⟨q.name, q.dur, q.depth, q.seq + 1, q.tag, q.items ++ [⟨q.seq + 1, false, m⟩], q.held⟩, 0) else (noQ, 35) else (noQ, 36)) := Lib.hid (by rw [HPR.out]; unfold pushR; rw [if_pos ⟨hgd, hs'⟩])
      have HSQ := Lib.hid hs'
      have HGD := Lib.hid hgd
      clear hgd hs'
      cases hmg : m.good with
      | false =>
        obtain rfl : pr = (noQ, 36) := by rw [HP2.out, hmg]; rfl
        go_wp2_with fail
        refine queue_end (w := w2) (g := w.heap.size + 2) rfl _ _ _ _ _ _ _ (HR.out _ B2.out) rfl rfl ?_
        exact ⟨noR, rfl, (ownq_no _ _).weak, below7 (HB.out.trans (Below.mono B2.out HB.out.size)) (by omega) _ _ _ _ _ _ _⟩
      | true =>
        have HP3 : Hid (pr = if (q.items.length : Int) + q.held.length < q.depth then (⟨q.name, q.dur, q.depth, q.seq + 1, q.tag, q.items ++ [⟨q.seq + 1, false, m⟩], q.held⟩, 0) else (noQ, 35)) := Lib.hid (by rw [HP2.out, hmg, if_pos rfl])
        clear hmg
        go_upto_region 5 with fail
        by_cases hd : (q.items.length : Int) + q.held.length < q.depth
        · have HP4 : Hid (pr = (⟨q.name, q.dur, q.depth, q.seq + 1, q.tag, q.items ++ [⟨q.seq + 1, false, m⟩], q.held⟩, 0)) := Lib.hid (by rw [HP3.out, if_pos hd])
          go_cut [22] (fun v wx => v = .bool false ∧ Hid (Below W.heap.size W wx))
          case first =>
            go_region_with (go_at_call 17; refine (HLE.out w2.drew B2.out.drew).mono ?_; rintro e w3 ⟨rfl, b3⟩; have HB3 : Hid (Below W.heap.size W w3) := Lib.hid (B2.out.drew.trans (b3.mono B2.out.size)); have z2 := HZ.out w3 HB3.out 2 _ rfl; clear b3)
            all_goals (go_wp2_with fail; go_meet; exact ⟨by rw [decide_eq_false (show ¬ (q.depth ≤ (q.items.length : Int) + q.held.length) by omega)], HB3⟩)
          case rest =>
            obtain ⟨rfl, HB3⟩ := hcut
            clear hd z0 z1 z2 z3 z4 z5 z6 m0 m1 m2 m3 m4 x0 x1 x2 x3 x4 x5 x6 fz
            have z0 := HZ.out wc HB3.out 0 _ rfl
            have z1 := HZ.out wc HB3.out 1 _ rfl
            have z2 := HZ.out wc HB3.out 2 _ rfl
            have z3 := HZ.out wc HB3.out 3 _ rfl
            have z4 := HZ.out wc HB3.out 4 _ rfl
            have z5 := HZ.out wc HB3.out 5 _ rfl
            have z6 := HZ.out wc HB3.out 6 _ rfl
            go_wp2_with fail
            refine (HC.out wc HB3.out).mono ?_
            rintro e w4 ⟨r', rfl, ho, b4⟩
            obtain ⟨Bs, hBs⟩ : ∃ Bs, Bs = wc.heap.size := ⟨_, rfl⟩
            rw [← hBs] at ho
            have HBS : Hid (W.heap.size ≤ Bs ∧ Bs ≤ w4.heap.size) := Lib.hid ⟨by rw [hBs]; exact HB3.out.size, by rw [hBs]; exact b4.size⟩
            have HO := Lib.hid ho.weak
            clear hBs
            have HB4 := Lib.hid (HB3.out.trans (b4.mono HB3.out.size))
            have hsq0 : 0 ≤ q.seq := goodQ_seq HGD.out
            have hwq : IntKind.i64.wrap (q.seq + 1) = q.seq + 1 := IntWalk.i64_in _ (by have := HSQ.out; omega)
            have HS0 := Lib.hid hsq0
            clear ho b4 z0 z1 z2 z3 z4 z5 z6 hsq0
            go_upto_region 9 with fail
            obtain ⟨W6, hW6⟩ : ∃ W6, W6 = w4.alloc (.cells #[.string q.name, .bool q.dur, .int .i64 q.depth, .int .i64 (q.seq + 1), .int .i64 q.tag, .slice r'.ia r'.is.length r'.ic, .slice r'.ha r'.hs.length r'.hc] 25) := ⟨_, rfl⟩
            rw [← hW6]
            have bw6 : Below W.heap.size W W6 := by rw [hW6]; exact HB4.out.alloc HB4.out.size _
            have b46 : Below w4.heap.size w4 W6 := by rw [hW6]; exact (Below.refl _ _).alloc (Nat.le_refl _) _
            have hs6 : W6.heap.size = w4.heap.size + 1 := by rw [hW6]; simp
            have rG : W6.heap[w4.heap.size]? = some (.cells #[.string q.name, .bool q.dur, .int .i64 q.depth, .int .i64 (q.seq + 1), .int .i64 q.tag, .slice r'.ia r'.is.length r'.ic, .slice r'.ha r'.hs.length r'.hc] 25 (0, 0)) := by rw [hW6]; exact heap_alloc_new w4 _
            have hRG : ∀ w5, Below W6.heap.size W6 w5 → w5.heap[w4.heap.size]? = some (.cells #[.string q.name, .bool q.dur, .int .i64 q.depth, .int .i64 (q.seq + 1), .int .i64 q.tag, .slice r'.ia r'.is.length r'.ic, .slice r'.ha r'.hs.length r'.hc] 25 (0, 0)) := fun w5 b => (b.block _ (by omega)).trans rG
            have hc5 : ∀ w5, Below W6.heap.size W6 w5 → w5.cell? ⟨w4.heap.size, 5, none⟩ = some (.slice r'.ia r'.is.length r'.ic) := fun w5 b => by simp only [World.cell?, hRG w5 b]; rfl
            have hc3 : ∀ w5, Below W6.heap.size W6 w5 → w5.cell? ⟨w4.heap.size, 3, none⟩ = some (.int .i64 (q.seq + 1)) := fun w5 b => by simp only [World.cell?, hRG w5 b]; rfl
            have how : ∀ w5, Below W6.heap.size W6 w5 → ∀ o, (w5.alloc o).ownsRow Bs 44 7 (.slice r'.ia r'.is.length r'.ic) r'.is.length (r'.is.flatMap ItR.cells) := fun w5 b o =>
              own_below (own_below HO.out.io (b46.trans (b.mono b46.size))) ((Below.refl _ _).alloc (Nat.le_refl _) _)
            have hnl : r'.is.length ≤ 4294967296 := by have h := congrArg List.length HO.out.ip; rw [List.length_map] at h; have := HFIT.out.il; omega
            have HCC := Lib.hid (HCP.out W6.drew bw6.drew)
            have HRG := Lib.hid hRG
            have HC5 := Lib.hid hc5
            have HC3 := Lib.hid hc3
            have HOW := Lib.hid how
            have HNL := Lib.hid hnl
            have B46 := Lib.hid b46
            have BW6 := Lib.hid bw6
            have HS6 := Lib.hid hs6
            obtain ⟨i0, hi0, hzz⟩ := Option.map_eq_some_iff.1 infoI
            simp only [Prod.mk.injEq] at hzz
            obtain ⟨hz0, hz1, hz2⟩ := hzz
            have o5 := hc5 W6 (Below.refl _ _)
            have o3 := hc3 W6 (Below.refl _ _)
            have m0 := HM.out W6 bw6 0 _ rfl
            have m1 := HM.out W6 bw6 1 _ rfl
            have m2 := HM.out W6 bw6 2 _ rfl
            have m3 := HM.out W6 bw6 3 _ rfl
            have m4 := HM.out W6 bw6 4 _ rfl
            have hGK : ¬ w4.heap.size = w.heap.size + 1 := by have := HB4.out.size; have := HSZ.out; omega
            clear hW6 bw6 b46 hs6 rG hRG hc5 hc3 how hnl
            have HNE : Hid (some w4.heap.size ≠ (Value.slice r'.ia r'.is.length r'.ic).ownBlock) := Lib.hid (fun e => by have := own_lt' HO.out.io e.symm; omega)
            have HRA : Hid (∀ w5, Below W6.heap.size W6 w5 → ∀ o, (w5.alloc o).heap[w4.heap.size]? = some (.cells #[.string q.name, .bool q.dur, .int .i64 q.depth, .int .i64 (q.seq + 1), .int .i64 q.tag, .slice r'.ia r'.is.length r'.ic, .slice r'.ha r'.hs.length r'.hc] 25 (0, 0))) := Lib.hid (fun w5 b o => (Below.heap_alloc w5 o _ (by have := b.size; have := HS6.out; omega)).trans (HRG.out w5 b))
            have HLT : Hid (∀ w5, Below W6.heap.size W6 w5 → ∀ o, w4.heap.size < (w5.alloc o).heap.size) := Lib.hid (fun w5 b o => (Array.getElem?_eq_some_iff.1 (HRA.out w5 b o)).1)
            have HBL : Hid (∀ w5, Below W6.heap.size W6 w5 → ∀ o, Bs ≤ (w5.alloc o).heap.size) := Lib.hid (fun w5 b o => Nat.le_trans HBS.out.2 (Nat.le_of_lt (HLT.out w5 b o)))
            have HAS : Hid (∀ (w5 : World) o, w5.heap.size ≤ (w5.alloc o).heap.size) := Lib.hid (fun w5 o => ((Below.refl w5.heap.size w5).alloc (Nat.le_refl _) o).size)
            have H63 : Hid (r'.is.length + 1 ≤ maxLen) := Lib.hid (by have := HNL.out; unfold maxLen; omega)
            have H88 : Hid ((r'.is.length + 1) * 88 ≤ 140737488355328) := Lib.hid (by have := HNL.out; omega)
            go_cut [43] (fun v wx => ∃ (g cap : Nat) (A' : Option Addr) (c' : Nat), v = .slice (some ⟨g, 0, none⟩) (r'.is.length + 1) cap ∧ Hid (OwnW wx Bs ⟨q.name, q.dur, q.depth, q.seq + 1, q.tag, q.items ++ [⟨q.seq + 1, false, m⟩], q.held⟩ ⟨some ⟨g, 0, none⟩, cap, r'.is ++ [⟨⟨q.seq + 1, false, m⟩, A', c'⟩], r'.ha, r'.hc, r'.hs⟩) ∧ Hid (wx.heap[w4.heap.size]? = some (.cells #[.string q.name, .bool q.dur, .int .i64 q.depth, .int .i64 (q.seq + 1), .int .i64 q.tag, .slice (some ⟨g, 0, none⟩) (r'.is.length + 1) cap, .slice r'.ha r'.hs.length r'.hc] 25 (0, 0))) ∧ Hid (Below W.heap.size W wx))
            case first =>
              go_region_law (first
                | (refine step_append_lies _ rfl (.tmp 36) (.tmp 42) 22 rfl Bs 44 i0 _ 7 88 Tryd.underlying22 hi0 hz0 hz1 hz2 rfl (by decide) (.slice r'.ia r'.is.length r'.ic) r'.is.length (r'.is.flatMap ItR.cells) (by simp [Act.eval, Act.put]) (HOW.out w5 B5.out _) ⟨w5.heap.size, 0, none⟩ 1 1 [.int .i64 (q.seq + 1), .bool false, .string m.top, .string m.body, .slice A' m.ps.length c', .bool m.dur, .int .i64 m.unt] (by simp [Act.eval, Act.put]) rfl (World.news_of_block (heap_alloc_new w5 _)) (by intro u hu; simp only [List.mem_cons, List.not_mem_nil, or_false] at hu; rcases hu with rfl | rfl | rfl | rfl | rfl | rfl | rfl <;> rfl) (by decide) H63.out H88.out (HBL.out w5 B5.out _) _ rfl ?_; intro g cap w' o' gr at' lt'; have rg' := (gr.block w4.heap.size (HLT.out w5 B5.out _) HNE.out).trans (HRA.out w5 B5.out _); have o5 : w'.cell? ⟨w4.heap.size, 5, none⟩ = some (.slice r'.ia r'.is.length r'.ic) := (by simp only [World.cell?, rg']; rfl); have fz : w'.frozen? ⟨w4.heap.size, 5, none⟩ = false := frozen_of_row _ _ 5 _ _ rg'; have HL := Lib.hid (push_leaf (q.seq + 1) HO.out HBS.out B46.out BW6.out HS6.out B5.out R5.out HB5.out ((Below.refl _ _).alloc (Nat.le_refl _) _) rg' o' gr (at'.imp id (fun h => Nat.le_trans (HAS.out _ _) (Nat.le_of_eq h.symm)))); clear o' gr at' lt' rg')
                | (go_simp; go_at_call 38; refine (HCC.out).mono ?_; rintro e w5 ⟨A', c', rfl, r5, hb5, b5⟩; have B5 : Hid (Below W6.heap.size W6 w5) := Lib.hid (((Below.refl _ W6).drew).trans (b5.mono (Nat.le_refl _))); have R5 := Lib.hid r5; have HB5 := Lib.hid hb5; have o5 := HC5.out w5 B5.out; have o3 := HC3.out w5 B5.out; have o5x : ∀ o, (w5.alloc o).cell? ⟨w4.heap.size, 5, none⟩ = some (.slice r'.ia r'.is.length r'.ic) := (fun o => Lib.cell?_alloc_some _ o5); clear r5 hb5 b5))
              all_goals (
                go_wp2_with fail
                go_meet
                exact ⟨g, cap, A', c', rfl, HL.out⟩)
            case rest =>
              obtain ⟨g, cap, A', c', rfl, HOW', HRX, HBX⟩ := hcut
              obtain rfl : pr = _ := HP4.out
              clear o5 o3 m0 m1 m2 m3 m4
              have hgc : ∀ j u, (#[.string q.name, .bool q.dur, .int .i64 q.depth, .int .i64 (q.seq + 1), .int .i64 q.tag, .slice (some ⟨g, 0, none⟩) (r'.is.length + 1) cap, .slice r'.ha r'.hs.length r'.hc] : Array Value)[j]? = some u → wc.cell? ⟨w4.heap.size, j, none⟩ = some u := fun j u hj => by simp only [World.cell?, HRX.out]; exact hj
              have g0 := hgc 0 _ rfl
              have g1 := hgc 1 _ rfl
              have g2 := hgc 2 _ rfl
              have g3 := hgc 3 _ rfl
              have g4 := hgc 4 _ rfl
              have g5 := hgc 5 _ rfl
              have g6 := hgc 6 _ rfl
              have x0 := HX.out wc HBX.out 0 _ rfl
              have x1 := HX.out wc HBX.out 1 _ rfl
              have x2 := HX.out wc HBX.out 2 _ rfl
              have x3 := HX.out wc HBX.out 3 _ rfl
              have x4 := HX.out wc HBX.out 4 _ rfl
              have x5 := HX.out wc HBX.out 5 _ rfl
              have x6 := HX.out wc HBX.out 6 _ rfl
              have fz := HF.out wc HBX.out
              clear hgc
              go_wp2_with fail
              refine queue_end (w := wc) (g := w.heap.size + 2) rfl _ _ _ _ _ _ _ (HR.out _ HBX.out) rfl rfl ?_
              exact ⟨⟨some ⟨g, 0, none⟩, cap, r'.is ++ [⟨⟨q.seq + 1, false, m⟩, A', c'⟩], r'.ha, r'.hc, r'.hs⟩, by simp only [List.length_append, List.length_singleton]; rfl, (HOW'.out.far (grown7 _ _ _ _ _ _ _ _ _) (by have := HBS.out; have := HSZ.out; omega)).lower (by have := HBS.out; have := HSZ.out; omega), below7 (HB.out.trans (Below.mono HBX.out HB.out.size)) (by omega) _ _ _ _ _ _ _⟩
        · obtain rfl : pr = (noQ, 35) := by rw [HP3.out, if_neg hd]
          have hd' : q.depth ≤ (q.items.length : Int) + q.held.length := by omega
          clear hd
          go_region_with (go_at_call 17; refine (HLE.out w2.drew B2.out.drew).mono ?_; rintro e w3 ⟨rfl, b3⟩; have HB3 : Hid (Below W.heap.size W w3) := Lib.hid (B2.out.drew.trans (b3.mono B2.out.size)); have z0 := HZ.out w3 HB3.out 0 _ rfl; have z1 := HZ.out w3 HB3.out 1 _ rfl; have z2 := HZ.out w3 HB3.out 2 _ rfl; have z3 := HZ.out w3 HB3.out 3 _ rfl; have z4 := HZ.out w3 HB3.out 4 _ rfl; have z5 := HZ.out w3 HB3.out 5 _ rfl; have z6 := HZ.out w3 HB3.out 6 _ rfl; have m0 := HM.out w3 HB3.out 0 _ rfl; have m1 := HM.out w3 HB3.out 1 _ rfl; have m2 := HM.out w3 HB3.out 2 _ rfl; have m3 := HM.out w3 HB3.out 3 _ rfl; have m4 := HM.out w3 HB3.out 4 _ rfl; have x0 := HX.out w3 HB3.out 0 _ rfl; have x1 := HX.out w3 HB3.out 1 _ rfl; have x2 := HX.out w3 HB3.out 2 _ rfl; have x3 := HX.out w3 HB3.out 3 _ rfl; have x4 := HX.out w3 HB3.out 4 _ rfl; have x5 := HX.out w3 HB3.out 5 _ rfl; have x6 := HX.out w3 HB3.out 6 _ rfl; have fz := HF.out w3 HB3.out; clear b3)
          all_goals (
            go_wp2_with fail
            refine queue_end (w := w3) (g := w.heap.size + 2) rfl _ _ _ _ _ _ _ (HR.out _ HB3.out) rfl rfl ?_
            exact ⟨noR, rfl, (ownq_no _ _).weak, below7 (HB.out.trans (Below.mono HB3.out HB.out.size)) (by omega) _ _ _ _ _ _ _⟩)
end Go.Proofs.YtelhpdnclmpgoaaDoor
