/- Layer 10: Release. (Printed by gen/qer.py.) -/
import Derived.Test.YtelhpdnclmpgoaaDoorQeP
import Derived.Test.YtelhpdnclmpgoaaDoorQeS
import Derived.Deep.DeepCutAuto
namespace Go.Proofs.YtelhpdnclmpgoaaDoor
open Go Go.RowKit Go.Sort
open Go.ChangeShapes Go.WideShapes Go.Deep
set_option linter.unusedSimpArgs false
set_option linter.unusedVariables false

theorem goodQ_len {q : Que} (h : goodQ q = true) : q.items.length + q.held.length ≤ 64 := by
  unfold goodQ headQ at h
  simp only [Bool.and_eq_true, decide_eq_true_eq] at h
  have h1 := h.1.2
  have h2 := h.1.1.1.1.1.1.2
  omega
set_option maxRecDepth 100000 in
set_option maxHeartbeats 4000000 in
theorem release_c {w : World} (q : Que) (r : QuR) (cn sb : Int) (hq : QuIn w q r) (hf : q.fit) (hg : GM w) :
    Calls Tryd.prog 21 #[.agg #[.string q.name, .bool q.dur, .int .i64 q.depth, .int .i64 q.seq, .int .i64 q.tag, .slice r.ia r.is.length r.ic, .slice r.ha r.hs.length r.hc], .int .i64 cn, .int .i64 sb] w fun e w' => ∃ r' : QuR, e = .returned (.tuple #[.agg #[.string (releaseR q cn sb).1.name, .bool (releaseR q cn sb).1.dur, .int .i64 (releaseR q cn sb).1.depth, .int .i64 (releaseR q cn sb).1.seq, .int .i64 (releaseR q cn sb).1.tag, .slice r'.ia r'.is.length r'.ic, .slice r'.ha r'.hs.length r'.hc], .int .i64 (releaseR q cn sb).2]) ∧ OwnW w' w.heap.size (releaseR q cn sb).1 r' ∧ Below w.heap.size w w' := by
  obtain ⟨pr, hpr⟩ : ∃ pr, pr = releaseR q cn sb := ⟨_, rfl⟩
  rw [← hpr]
  obtain ⟨W, hW⟩ : ∃ W, W = ((w.alloc (.cells #[.string q.name, .bool q.dur, .int .i64 q.depth, .int .i64 q.seq, .int .i64 q.tag, .slice r.ia r.is.length r.ic, .slice r.ha r.hs.length r.hc] 25)).alloc (.cells #[.string ⟨#[]⟩, .bool false, .int .i64 0, .int .i64 0, .int .i64 0, .slice none 0 0, .slice none 0 0] 25)) := ⟨_, rfl⟩
  have b0 : Below w.heap.size w W := by rw [hW]; exact (((Below.refl _ _).alloc (Nat.le_refl _) _).alloc (by simp; try omega) _)
  have hsz : W.heap.size = w.heap.size + 2 := by rw [hW]; simp
  have r0 : W.heap[w.heap.size]? = some (.cells #[.string q.name, .bool q.dur, .int .i64 q.depth, .int .i64 q.seq, .int .i64 q.tag, .slice r.ia r.is.length r.ic, .slice r.ha r.hs.length r.hc] 25 (0, 0)) := by rw [hW]; exact alloc_keep _ (alloc_at _ _ _ (by simp))
  have HR0 : Hid (∀ w1, Below W.heap.size W w1 → w1.heap[w.heap.size]? = some (.cells #[.string q.name, .bool q.dur, .int .i64 q.depth, .int .i64 q.seq, .int .i64 q.tag, .slice r.ia r.is.length r.ic, .slice r.ha r.hs.length r.hc] 25 (0, 0))) := Lib.hid (fun w1 b => (b.block (w.heap.size) (by omega)).trans r0)
  have HZ0 : Hid (∀ w1, Below W.heap.size W w1 → ∀ j u, (#[.string q.name, .bool q.dur, .int .i64 q.depth, .int .i64 q.seq, .int .i64 q.tag, .slice r.ia r.is.length r.ic, .slice r.ha r.hs.length r.hc] : Array Value)[j]? = some u → w1.cell? ⟨w.heap.size, j, none⟩ = some u) := Lib.hid (fun w1 b j u hj => by simp only [World.cell?, HR0.out w1 b]; exact hj)
  have HF0 : Hid (∀ w1, Below W.heap.size W w1 → ∀ j, w1.frozen? ⟨w.heap.size, j, none⟩ = false) := Lib.hid (fun w1 b j => frozen_of_row _ _ j _ _ (HR0.out w1 b))
  have r1 : W.heap[w.heap.size + 1]? = some (.cells #[.string ⟨#[]⟩, .bool false, .int .i64 0, .int .i64 0, .int .i64 0, .slice none 0 0, .slice none 0 0] 25 (0, 0)) := by rw [hW]; exact alloc_at _ _ _ (by simp)
  have HR1 : Hid (∀ w1, Below W.heap.size W w1 → w1.heap[w.heap.size + 1]? = some (.cells #[.string ⟨#[]⟩, .bool false, .int .i64 0, .int .i64 0, .int .i64 0, .slice none 0 0, .slice none 0 0] 25 (0, 0))) := Lib.hid (fun w1 b => (b.block (w.heap.size + 1) (by omega)).trans r1)
  have HZ1 : Hid (∀ w1, Below W.heap.size W w1 → ∀ j u, (#[.string ⟨#[]⟩, .bool false, .int .i64 0, .int .i64 0, .int .i64 0, .slice none 0 0, .slice none 0 0] : Array Value)[j]? = some u → w1.cell? ⟨w.heap.size + 1, j, none⟩ = some u) := Lib.hid (fun w1 b j u hj => by simp only [World.cell?, HR1.out w1 b]; exact hj)
  have HF1 : Hid (∀ w1, Below W.heap.size W w1 → ∀ j, w1.frozen? ⟨w.heap.size + 1, j, none⟩ = false) := Lib.hid (fun w1 b j => frozen_of_row _ _ j _ _ (HR1.out w1 b))
  have HRX := HR1
  have h1 : q.items.length = r.is.length := by rw [← hq.ip, List.length_map]
  have h2 : q.held.length = r.hs.length := by rw [← hq.hp, List.length_map]
  have HG := Lib.hid (goodQ_c q r (hq.below b0) hf (hg.below b0))
  have HC := Lib.hid (fun w1 (b : Below W.heap.size W w1) => copy_c (w := w1) q r ((hq.below b0).below b) (by have := hf.il; omega) (by have := hf.hl; omega) (fun x hx => by have := (hf.im x.it (by rw [← hq.ip]; exact List.mem_map.2 ⟨x, hx, rfl⟩)).2.2.1; omega) (fun x hx => by have := (hf.hm x.pl (by rw [← hq.hp]; exact List.mem_map.2 ⟨x, hx, rfl⟩)).2.2.1; show x.r.it.m.ps.length * 56 ≤ _; have h' : x.r.it.m.ps.length ≤ 1048576 := this; omega))
  have HPR := Lib.hid hpr
  have HSZ := Lib.hid hsz
  have HW := Lib.hid hW
  have HB := Lib.hid b0
  have HFIT := Lib.hid hf
  have z0 := HZ0.out W (Below.refl _ _) 0 _ rfl
  have z1 := HZ0.out W (Below.refl _ _) 1 _ rfl
  have z2 := HZ0.out W (Below.refl _ _) 2 _ rfl
  have z3 := HZ0.out W (Below.refl _ _) 3 _ rfl
  have z4 := HZ0.out W (Below.refl _ _) 4 _ rfl
  have z5 := HZ0.out W (Below.refl _ _) 5 _ rfl
  have z6 := HZ0.out W (Below.refl _ _) 6 _ rfl
  clear hpr hW b0 hsz r0 r1 hq hf hg h1 h2
  go_enter Tryd.func21, Tryd.ntmps21
  go_upto_region 1 with fail
  rw [← HW.out]
  go_wp2_with fail
  refine (HG.out).mono ?_
  rintro e w1 ⟨rfl, b1⟩
  clear z0 z1 z2 z3 z4 z5 z6
  have B1 := Lib.hid b1
  clear b1
  cases hgd : goodQ q with
  | false =>
    obtain rfl : pr = (noQ, 1) := by rw [HPR.out]; unfold releaseR; rw [if_neg (by rw [hgd]; decide)]
    have x0 := HZ1.out w1 B1.out 0 _ rfl
    have x1 := HZ1.out w1 B1.out 1 _ rfl
    have x2 := HZ1.out w1 B1.out 2 _ rfl
    have x3 := HZ1.out w1 B1.out 3 _ rfl
    have x4 := HZ1.out w1 B1.out 4 _ rfl
    have x5 := HZ1.out w1 B1.out 5 _ rfl
    have x6 := HZ1.out w1 B1.out 6 _ rfl
    have fz := HF1.out w1 B1.out
    go_wp2_with fail
    refine queue_end (w := w1) (g := w.heap.size + 1) rfl _ _ _ _ _ _ _ (HRX.out _ B1.out) rfl rfl ?_
    exact ⟨noR, rfl, ownw_no _ _, below7 (HB.out.trans (Below.mono B1.out HB.out.size)) (by omega) _ _ _ _ _ _ _⟩
  | true =>
    have hpr2 : pr = (⟨q.name, q.dur, q.depth, q.seq, q.tag, (q.held.foldl (relOne cn sb) (q.items, [])).1, (q.held.foldl (relOne cn sb) (q.items, [])).2⟩, 0) := by rw [HPR.out]; unfold releaseR; rw [if_pos hgd]
    have HP2 := Lib.hid hpr2
    have HRI := Lib.hid (goodQ_rise hgd)
    have H64 : Hid (q.items.length + q.held.length ≤ 64) := Lib.hid (goodQ_len hgd)
    clear hpr2 hgd
    have z0 := HZ0.out w1 B1.out 0 _ rfl
    have z1 := HZ0.out w1 B1.out 1 _ rfl
    have z2 := HZ0.out w1 B1.out 2 _ rfl
    have z3 := HZ0.out w1 B1.out 3 _ rfl
    have z4 := HZ0.out w1 B1.out 4 _ rfl
    have z5 := HZ0.out w1 B1.out 5 _ rfl
    have z6 := HZ0.out w1 B1.out 6 _ rfl
    go_wp2_with fail
    refine (HC.out w1 B1.out).mono ?_
    rintro e w3 ⟨r1, rfl, ho, b3⟩
    clear z0 z1 z2 z3 z4 z5 z6
    have B3 := Lib.hid (B1.out.trans (b3.mono B1.out.size))
    have HS := Lib.hid (GQ.start (W := W) ho.weak B3.out B1.out.size b3.size)
    have HBS : Hid (W.heap.size ≤ w1.heap.size) := Lib.hid B1.out.size
    obtain ⟨Bs, hBs⟩ : ∃ Bs, Bs = w1.heap.size := ⟨_, rfl⟩
    rw [← hBs] at HS HBS
    clear ho b3 hBs
    go_upto_region 4 with fail
    obtain ⟨W4, hW4⟩ : ∃ W4, W4 = w3.alloc (.cells #[.string q.name, .bool q.dur, .int .i64 q.depth, .int .i64 q.seq, .int .i64 q.tag, .slice r1.ia r1.is.length r1.ic, .slice r1.ha r1.hs.length r1.hc] 25) := ⟨_, rfl⟩
    rw [← hW4] at HS
    rw [← hW4]
    have g6 := HS.out.cell 6 _ rfl
    have fz := HS.out.frz 6
    clear hW4
    go_upto_region 5 with fail
    have HN := Lib.hid HS.out.nilH
    obtain ⟨W5, hW5⟩ : ∃ W5, W5 = W4.setCell ⟨w3.heap.size, 6, none⟩ (.slice none 0 0) := ⟨_, rfl⟩
    rw [← hW5] at HN
    rw [← hW5]
    have HC5 := Lib.hid (HC.out W5 HN.out.bel)
    clear hW5 g6 fz HG HC
    have z0 := HZ0.out W5 HN.out.bel 0 _ rfl
    have z1 := HZ0.out W5 HN.out.bel 1 _ rfl
    have z2 := HZ0.out W5 HN.out.bel 2 _ rfl
    have z3 := HZ0.out W5 HN.out.bel 3 _ rfl
    have z4 := HZ0.out W5 HN.out.bel 4 _ rfl
    have z5 := HZ0.out W5 HN.out.bel 5 _ rfl
    have z6 := HZ0.out W5 HN.out.bel 6 _ rfl
    go_wp2_with fail
    refine (HC5.out).mono ?_
    rintro e w6 ⟨⟨ia2, ic2, is2, ha2, hc2, hs2⟩, rfl, ho2, b6⟩
    clear z0 z1 z2 z3 z4 z5 z6
    dsimp only
    have H0 : Hid (RlS W w6 Bs w3.heap.size q ha2 hc2 hs2 W5.heap.size 0 (q.items, []) ⟨r1.ia, r1.ic, r1.is, none, 0, []⟩) := Lib.hid (by
      have hN := HN.out
      have hG5 := hN.lt
      have own2 : ∀ x ∈ hs2, x.r.ok w6 ∧ ∀ a, x.r.pa = some a → W5.heap.size ≤ a.block := fun x hx => ⟨(ho2.hk x hx).1, fun a ha => ((ho2.hk x hx).2 a ha).1⟩
      have hoi : ∀ k, (QuR.mk r1.ia r1.ic r1.is none 0 []).oi = some k → k < W5.heap.size := fun k hk => own_lt' hN.own.io hk
      refine ⟨hN.below b6, ho2.ho, fun j hj => ?_, fun x hx => ?_, HRI.out, by show q.items.length + 0 ≤ q.items.length + 0; omega⟩
      · have := own_base ho2.ho j hj
        refine ⟨own_lt' ho2.ho hj, by omega, fun e => ?_, fun e => by cases e⟩
        have := hoi j e; omega
      · have hx' : x ∈ hs2 := by simpa using hx
        exact Lo.fresh (own2 x hx').1 (own2 x hx').2 (by have := hN.hB; omega) hG5 hoi (fun k e => by cases e))
    have HHP : Hid (hs2.map HlR.pl = q.held) := Lib.hid ho2.hp
    have HLN : Hid (q.items.length + hs2.length ≤ 64) := Lib.hid (by have h := congrArg List.length ho2.hp; rw [List.length_map] at h; have := H64.out; have h' : hs2.length = q.held.length := h; omega)
    clear ho2 b6 HN HC5 HRI
    have hfd : ∀ w : World, (Instr.field 25 (.agg #[.string q.name, .bool q.dur, .int .i64 q.depth, .int .i64 q.seq, .int .i64 q.tag, .slice ia2 is2.length ic2, .slice ha2 hs2.length hc2]) 6).run Tryd.prog w = .ok (.slice ha2 hs2.length hc2) w := fun _ => by kernel_rfl
    go_wp2_with fail
    clear hfd
    go_loopw [22] (fun i wr => ∃ (k : Nat) (p : List Itm × List Hld) (r' : QuR), k ≤ hs2.length ∧ i = .int .i64 k ∧ Hid (p = ((hs2.map HlR.pl).take k).foldl (relOne cn sb) (q.items, [])) ∧ Hid (RlS W wr Bs w3.heap.size q ha2 hc2 hs2 W5.heap.size k p r')) (fun i _ => hs2.length - (intOf i).toNat)
    case atStart => exact ⟨0, _, _, Nat.zero_le _, rfl, Lib.hid rfl, H0⟩
    case round =>
      clear H0
      obtain ⟨k, p, r', hk, rfl, HP, HS⟩ := hrel
      by_cases hlt : k < hs2.length
      · obtain ⟨x, hx⟩ : ∃ x, hs2[k]? = some x := ⟨_, List.getElem?_eq_getElem hlt⟩
        obtain ⟨g2, hg2⟩ : ∃ g2, ha2 = some ⟨g2, 0, none⟩ := by
          rcases HS.out.row.2 with ⟨_, h0⟩ | ⟨g, cc, cur, h1, _⟩
          · omega
          · injection h1 with h1; exact ⟨g, h1⟩
        subst hg2
        have hcs : ∀ j u, (x.cells)[j]? = some u → wr.cell? ⟨g2, k * 10 + j, none⟩ = some u := fun j u hu => own_cell (f := HlR.cells) (s := 10) (by omega) (fun _ => rfl) HS.out.row hx j u hu
        have y0 : wr.cell? ⟨g2, k * 10, none⟩ = some (.int .i64 x.tag) := hcs 0 _ rfl
        have y1 := hcs 1 _ rfl
        have y2 := hcs 2 _ rfl
        have y3 := hcs 3 _ rfl
        have y4 := hcs 4 _ rfl
        have y5 := hcs 5 _ rfl
        have y6 := hcs 6 _ rfl
        have y7 := hcs 7 _ rfl
        have y8 := hcs 8 _ rfl
        have y9 := hcs 9 _ rfl
        have hkI : (k : Int) < (hs2.length : Int) := by omega
        have HX := Lib.hid hx
        have HLT := Lib.hid hlt
        have HWK1 := Lib.hid (wk1 k _ hlt (by have := HLN.out; omega))
        have HPN : Hid (relOne cn sb p x.pl = ((hs2.map HlR.pl).take (k + 1)).foldl (relOne cn sb) (q.items, [])) := Lib.hid (by
          rw [List.take_add_one, List.getElem?_map, hx, List.foldl_append, ← HP.out]; rfl)
        clear hcs hx hlt hk
        go_upto_region 8 with fail
        obtain ⟨W7, hW7⟩ : ∃ W7, W7 = wr.alloc (.cells #[.int .i64 x.tag, .int .i64 x.conn, .int .i64 x.sub, .int .i64 x.r.it.seq, .bool x.r.it.again, .string x.r.it.m.top, .string x.r.it.m.body, .slice x.r.pa x.r.it.m.ps.length x.r.pc, .bool x.r.it.m.dur, .int .i64 x.r.it.m.unt] 46) := ⟨_, rfl⟩
        rw [← hW7]
        have rb : W7.heap[wr.heap.size]? = some (.cells #[.int .i64 x.tag, .int .i64 x.conn, .int .i64 x.sub, .int .i64 x.r.it.seq, .bool x.r.it.again, .string x.r.it.m.top, .string x.r.it.m.body, .slice x.r.pa x.r.it.m.ps.length x.r.pc, .bool x.r.it.m.dur, .int .i64 x.r.it.m.unt] 46 (0, 0)) := by rw [hW7]; exact heap_alloc_new wr _
        have HS7 := Lib.hid (HS.out.below (w' := W7) (by rw [hW7]; exact (Below.refl _ _).alloc (Nat.le_refl _) _))
        have HRB := Lib.hid rb
        clear hW7 rb y0 y1 y2 y3 y4 y5 y6 y7 y8 y9 HS
        have y0 : W7.cell? ⟨wr.heap.size, 0, none⟩ = some (.int .i64 x.tag) := by simp only [World.cell?, HRB.out]; rfl
        have y1 : W7.cell? ⟨wr.heap.size, 1, none⟩ = some (.int .i64 x.conn) := by simp only [World.cell?, HRB.out]; rfl
        have y2 : W7.cell? ⟨wr.heap.size, 2, none⟩ = some (.int .i64 x.sub) := by simp only [World.cell?, HRB.out]; rfl
        have y3 : W7.cell? ⟨wr.heap.size, 3, none⟩ = some (.int .i64 x.r.it.seq) := by simp only [World.cell?, HRB.out]; rfl
        have y4 : W7.cell? ⟨wr.heap.size, 4, none⟩ = some (.bool x.r.it.again) := by simp only [World.cell?, HRB.out]; rfl
        have y5 : W7.cell? ⟨wr.heap.size, 5, none⟩ = some (.string x.r.it.m.top) := by simp only [World.cell?, HRB.out]; rfl
        have y6 : W7.cell? ⟨wr.heap.size, 6, none⟩ = some (.string x.r.it.m.body) := by simp only [World.cell?, HRB.out]; rfl
        have y7 : W7.cell? ⟨wr.heap.size, 7, none⟩ = some (.slice x.r.pa x.r.it.m.ps.length x.r.pc) := by simp only [World.cell?, HRB.out]; rfl
        have y8 : W7.cell? ⟨wr.heap.size, 8, none⟩ = some (.bool x.r.it.m.dur) := by simp only [World.cell?, HRB.out]; rfl
        have y9 : W7.cell? ⟨wr.heap.size, 9, none⟩ = some (.int .i64 x.r.it.m.unt) := by simp only [World.cell?, HRB.out]; rfl
        cases hc : (x.conn == cn) with
        | false =>
          have HPK : Hid ((p.1, p.2 ++ [x.pl]) = ((hs2.map HlR.pl).take (k + 1)).foldl (relOne cn sb) (q.items, [])) := Lib.hid (by rw [← HPN.out]; unfold relOne; rw [if_neg (by show ¬ (x.conn == cn && (sb == -1 || x.sub == sb)) = true; rw [hc, Bool.false_and]; decide)])
          have HSO : Hid (∀ cs, RlS W (W7.alloc (.cells cs 46)) Bs w3.heap.size q (some ⟨g2, 0, none⟩) hc2 hs2 W5.heap.size k p r') := Lib.hid (fun o => HS7.out.below ((Below.refl _ _).alloc (Nat.le_refl _) _))
          have HOH : Hid (∀ cs, (W7.alloc (.cells cs 46)).ownsRow Bs 46 10 (.slice r'.ha r'.hs.length r'.hc) r'.hs.length (r'.hs.flatMap HlR.cells)) := Lib.hid (fun o => (HSO.out o).gq.own.ho)
          have HNB : Hid ((r'.hs.length + 1) * 112 ≤ 140737488355328 ∧ r'.hs.length + 1 ≤ 9223372036854775807) := Lib.hid (by
            have h1 := HS7.out.len; have h2 := congrArg List.length HS7.out.gq.own.hp; rw [List.length_map] at h2; have h3 : r'.hs.length = p.2.length := h2; have := HLT.out; have := HLN.out; omega)
          have HBB : Hid (∀ cs, Bs ≤ (W7.alloc (.cells cs 46)).heap.size) := Lib.hid (fun o => Nat.le_trans (HSO.out o).gq.hB (Nat.le_of_lt (HSO.out o).gq.lt))
          have HRC : Hid (RC (W7.alloc (.cells #[.int .i64 x.tag, .int .i64 x.conn, .int .i64 x.sub, .int .i64 x.r.it.seq, .bool x.r.it.again, .string x.r.it.m.top, .string x.r.it.m.body, .slice x.r.pa x.r.it.m.ps.length x.r.pc, .bool x.r.it.m.dur, .int .i64 x.r.it.m.unt] 46)) (.slice (some ⟨W7.heap.size, 0, none⟩) 1 1) 1 10 x.cells) := Lib.hid (rc_new W7 46 1 10 x.cells rfl (by decide))
          have H1C : Hid (∀ y ∈ x.cells, y.oneCell' = true) := Lib.hid (fun y hy => cells_oneH [x] y (by simpa using hy))
          have g6 := HS7.out.gq.cell 6 _ rfl
          clear HPN
          go_wp2_with (at_builtin; refine app_own (w0 := W7.alloc (.cells #[.int .i64 x.tag, .int .i64 x.conn, .int .i64 x.sub, .int .i64 x.r.it.seq, .bool x.r.it.again, .string x.r.it.m.top, .string x.r.it.m.body, .slice x.r.pa x.r.it.m.ps.length x.r.pc, .bool x.r.it.m.dur, .int .i64 x.r.it.m.unt] 46)) Bs 23 46 10 112 _ Tryd.underlying23 infoH rfl (by decide) rfl (.tmp 44) (.tmp 46) rfl _ _ r'.hs.length 1 (r'.hs.flatMap HlR.cells) x.cells rfl rfl (HOH.out _) HRC.out H1C.out (Below.refl _ _) HNB.out.1 HNB.out.2 (HBB.out _) ?_; intro v1 w8 o1 b1 g1 k1; obtain ⟨A1, c1, rfl⟩ := rc_any' (own_rc o1); have HAP := Lib.hid ((HSO.out _).app HX.out o1 g1 k1); clear o1 b1 g1 k1; have row8 := HAP.out.1; have g6 : w8.cell? ⟨w3.heap.size, 6, none⟩ = some (.slice r'.ha r'.hs.length r'.hc) := (by simp only [World.cell?, row8]; rfl); have fz : w8.frozen? ⟨w3.heap.size, 6, none⟩ = false := frozen_of_row _ _ 6 _ _ row8; clear row8)
          go_roundw
          case rel => exact (by obtain ⟨r'', hs8⟩ := HAP.out.2; exact ⟨k + 1, _, r'', HLT.out, by first | rfl | (rw [HWK1.out]; rfl), HPK, Lib.hid hs8⟩)
          case measure => first | exact round_less1 HLT.out | (rw [HWK1.out]; exact round_less1 HLT.out)
        | true =>
          cases hsb : (sb == -1) with
          | true =>
            have HPK : Hid ((insQ p.1 x.r.it, p.2) = ((hs2.map HlR.pl).take (k + 1)).foldl (relOne cn sb) (q.items, [])) := Lib.hid (by rw [← HPN.out]; unfold relOne; rw [if_pos (by show (x.conn == cn && (sb == -1 || x.sub == sb)) = true; rw [hc, hsb]; rfl)]; rfl)
            have HBK := Lib.hid (HS7.out.back HX.out (by have := HLT.out; have := HLN.out; omega))
            clear HPN
            go_wp2_with fail
            refine (HBK.out).mono ?_
            rintro e w8 ⟨rfl, r'', hs8⟩
            have HS8 := Lib.hid hs8
            clear hs8 HBK
            go_wp2_with fail
            go_roundw
            case rel => exact ⟨k + 1, _, _, HLT.out, by first | rfl | (rw [HWK1.out]; rfl), HPK, HS8⟩
            case measure => first | exact round_less1 HLT.out | (rw [HWK1.out]; exact round_less1 HLT.out)
          | false =>
            cases hss : (x.sub == sb) with
            | true =>
              have HPK : Hid ((insQ p.1 x.r.it, p.2) = ((hs2.map HlR.pl).take (k + 1)).foldl (relOne cn sb) (q.items, [])) := Lib.hid (by rw [← HPN.out]; unfold relOne; rw [if_pos (by show (x.conn == cn && (sb == -1 || x.sub == sb)) = true; rw [hc, hsb, hss]; rfl)]; rfl)
              have HBK := Lib.hid (HS7.out.back HX.out (by have := HLT.out; have := HLN.out; omega))
              clear HPN
              go_wp2_with fail
              refine (HBK.out).mono ?_
              rintro e w8 ⟨rfl, r'', hs8⟩
              have HS8 := Lib.hid hs8
              clear hs8 HBK
              go_wp2_with fail
              go_roundw
              case rel => exact ⟨k + 1, _, _, HLT.out, by first | rfl | (rw [HWK1.out]; rfl), HPK, HS8⟩
              case measure => first | exact round_less1 HLT.out | (rw [HWK1.out]; exact round_less1 HLT.out)
            | false =>
              have HPK : Hid ((p.1, p.2 ++ [x.pl]) = ((hs2.map HlR.pl).take (k + 1)).foldl (relOne cn sb) (q.items, [])) := Lib.hid (by rw [← HPN.out]; unfold relOne; rw [if_neg (by show ¬ (x.conn == cn && (sb == -1 || x.sub == sb)) = true; rw [hc, hsb, hss]; decide)])
              have HSO : Hid (∀ cs, RlS W (W7.alloc (.cells cs 46)) Bs w3.heap.size q (some ⟨g2, 0, none⟩) hc2 hs2 W5.heap.size k p r') := Lib.hid (fun o => HS7.out.below ((Below.refl _ _).alloc (Nat.le_refl _) _))
              have HOH : Hid (∀ cs, (W7.alloc (.cells cs 46)).ownsRow Bs 46 10 (.slice r'.ha r'.hs.length r'.hc) r'.hs.length (r'.hs.flatMap HlR.cells)) := Lib.hid (fun o => (HSO.out o).gq.own.ho)
              have HNB : Hid ((r'.hs.length + 1) * 112 ≤ 140737488355328 ∧ r'.hs.length + 1 ≤ 9223372036854775807) := Lib.hid (by
                have h1 := HS7.out.len; have h2 := congrArg List.length HS7.out.gq.own.hp; rw [List.length_map] at h2; have h3 : r'.hs.length = p.2.length := h2; have := HLT.out; have := HLN.out; omega)
              have HBB : Hid (∀ cs, Bs ≤ (W7.alloc (.cells cs 46)).heap.size) := Lib.hid (fun o => Nat.le_trans (HSO.out o).gq.hB (Nat.le_of_lt (HSO.out o).gq.lt))
              have HRC : Hid (RC (W7.alloc (.cells #[.int .i64 x.tag, .int .i64 x.conn, .int .i64 x.sub, .int .i64 x.r.it.seq, .bool x.r.it.again, .string x.r.it.m.top, .string x.r.it.m.body, .slice x.r.pa x.r.it.m.ps.length x.r.pc, .bool x.r.it.m.dur, .int .i64 x.r.it.m.unt] 46)) (.slice (some ⟨W7.heap.size, 0, none⟩) 1 1) 1 10 x.cells) := Lib.hid (rc_new W7 46 1 10 x.cells rfl (by decide))
              have H1C : Hid (∀ y ∈ x.cells, y.oneCell' = true) := Lib.hid (fun y hy => cells_oneH [x] y (by simpa using hy))
              have g6 := HS7.out.gq.cell 6 _ rfl
              clear HPN
              go_wp2_with (at_builtin; refine app_own (w0 := W7.alloc (.cells #[.int .i64 x.tag, .int .i64 x.conn, .int .i64 x.sub, .int .i64 x.r.it.seq, .bool x.r.it.again, .string x.r.it.m.top, .string x.r.it.m.body, .slice x.r.pa x.r.it.m.ps.length x.r.pc, .bool x.r.it.m.dur, .int .i64 x.r.it.m.unt] 46)) Bs 23 46 10 112 _ Tryd.underlying23 infoH rfl (by decide) rfl (.tmp 44) (.tmp 46) rfl _ _ r'.hs.length 1 (r'.hs.flatMap HlR.cells) x.cells rfl rfl (HOH.out _) HRC.out H1C.out (Below.refl _ _) HNB.out.1 HNB.out.2 (HBB.out _) ?_; intro v1 w8 o1 b1 g1 k1; obtain ⟨A1, c1, rfl⟩ := rc_any' (own_rc o1); have HAP := Lib.hid ((HSO.out _).app HX.out o1 g1 k1); clear o1 b1 g1 k1; have row8 := HAP.out.1; have g6 : w8.cell? ⟨w3.heap.size, 6, none⟩ = some (.slice r'.ha r'.hs.length r'.hc) := (by simp only [World.cell?, row8]; rfl); have fz : w8.frozen? ⟨w3.heap.size, 6, none⟩ = false := frozen_of_row _ _ 6 _ _ row8; clear row8)
              go_roundw
              case rel => exact (by obtain ⟨r'', hs8⟩ := HAP.out.2; exact ⟨k + 1, _, r'', HLT.out, by first | rfl | (rw [HWK1.out]; rfl), HPK, Lib.hid hs8⟩)
              case measure => first | exact round_less1 HLT.out | (rw [HWK1.out]; exact round_less1 HLT.out)
      · have hk2 : k = hs2.length := by omega
        subst hk2
        have hpp : p = q.held.foldl (relOne cn sb) (q.items, []) := by rw [HP.out, List.take_of_length_le (by simp), HHP.out]
        have hpr3 : pr = (⟨q.name, q.dur, q.depth, q.seq, q.tag, p.1, p.2⟩, 0) := by rw [HP2.out, ← hpp]
        subst hpr3
        have GQ9 := Lib.hid HS.out.gq
        clear hlt hk hpp HS HP
        have g0 := GQ9.out.cell 0 _ rfl
        have g1 := GQ9.out.cell 1 _ rfl
        have g2 := GQ9.out.cell 2 _ rfl
        have g3 := GQ9.out.cell 3 _ rfl
        have g4 := GQ9.out.cell 4 _ rfl
        have g5 := GQ9.out.cell 5 _ rfl
        have g6 := GQ9.out.cell 6 _ rfl
        have x0 := HZ1.out wr GQ9.out.bel 0 _ rfl
        have x1 := HZ1.out wr GQ9.out.bel 1 _ rfl
        have x2 := HZ1.out wr GQ9.out.bel 2 _ rfl
        have x3 := HZ1.out wr GQ9.out.bel 3 _ rfl
        have x4 := HZ1.out wr GQ9.out.bel 4 _ rfl
        have x5 := HZ1.out wr GQ9.out.bel 5 _ rfl
        have x6 := HZ1.out wr GQ9.out.bel 6 _ rfl
        have fz := HF1.out wr GQ9.out.bel
        go_wp2_with fail
        refine queue_end (w := wr) (g := w.heap.size + 1) rfl _ _ _ _ _ _ _ (HRX.out _ GQ9.out.bel) rfl rfl ?_
        exact ⟨r', rfl, (OwnW.far GQ9.out.own.toW (grown7 _ _ _ _ _ _ _ _ _) (by have := HBS.out; have := HSZ.out; omega)).lower (by have := HBS.out; have := HSZ.out; omega), below7 (HB.out.trans (Below.mono GQ9.out.bel HB.out.size)) (by omega) _ _ _ _ _ _ _⟩
end Go.Proofs.YtelhpdnclmpgoaaDoor
