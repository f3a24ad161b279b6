/- Layer 10: Settle. (Printed by gen/qes.py.) -/
import Derived.Test.YtelhpdnclmpgoaaDoorQeK
import Derived.Test.YtelhpdnclmpgoaaDoorQdE
import Derived.Deep.DeepCutAuto
namespace Go.Proofs.YtelhpdnclmpgoaaDoor
open Go Go.RowKit Go.Sort
open Go.ChangeShapes Go.WideShapes Go.Deep
set_option linter.unusedSimpArgs false
set_option linter.unusedVariables false

def isP (tg cn : Int) (h : Hld) : Bool := h.tag == tg && h.conn == cn
def settleR (q : Que) (cn tg : Int) (ag : Bool) : Que × Int :=
  if goodQ q = true then
    match q.held.findIdx? (isP tg cn) with
    | none => (noQ, 33)
    | some k => match q.held[k]? with
      | none => (noQ, 33)
      | some h => (⟨q.name, q.dur, q.depth, q.seq, q.tag, if ag = true then insQ q.items h.it else q.items, q.held.eraseIdx k⟩, 0)
  else (noQ, 1)
theorem first_none {xs : List HlR} {l : List Hld} {tg cn : Int} (h : ∀ x ∈ xs, isB tg cn x = false) (hl : xs.map HlR.pl = l) : l.findIdx? (isP tg cn) = none := by
  subst hl
  rw [List.findIdx?_eq_none_iff]
  intro y hy
  obtain ⟨x, hx, rfl⟩ := List.mem_map.1 hy
  exact h x hx
theorem first_some {xs : List HlR} {l : List Hld} {tg cn : Int} {k : Nat} {x : HlR} (hx : xs[k]? = some x) (hp : isB tg cn x = true) (h : ∀ y ∈ xs.take k, isB tg cn y = false) (hl : xs.map HlR.pl = l) : l.findIdx? (isP tg cn) = some k ∧ l[k]? = some x.pl := by
  subst hl
  have hk := (List.getElem?_eq_some_iff.1 hx).1
  have e : xs[k] = x := (List.getElem?_eq_some_iff.1 hx).2
  refine ⟨?_, by rw [List.getElem?_map, hx]; rfl⟩
  rw [List.findIdx?_eq_some_iff_getElem]
  refine ⟨by simpa using hk, by rw [List.getElem_map, e]; exact hp, fun j hj => ?_⟩
  rw [List.getElem_map]
  have := h xs[j] (by rw [List.mem_take_iff_getElem]; exact ⟨j, by omega, rfl⟩)
  show ¬ isB tg cn xs[j] = true
  rw [this]; decide
theorem goodI_all {sq : Int} : ∀ {xs : List Itm} {l : Int}, goodI sq l xs = true → (∀ x ∈ xs, l < x.seq ∧ x.seq ≤ sq ∧ x.m.good = true) ∧ xs.Pairwise (fun a b => a.seq < b.seq)
  | [], l, _ => ⟨(fun x h => by cases h), List.Pairwise.nil⟩
  | x :: r, l, h => by
    simp only [goodI, Bool.and_eq_true, decide_eq_true_eq] at h
    obtain ⟨⟨⟨h1, h2⟩, h3⟩, h4⟩ := h
    have ih := goodI_all h4
    refine ⟨fun y hy => ?_, List.pairwise_cons.2 ⟨fun y hy => (ih.1 y hy).1, ih.2⟩⟩
    rcases List.mem_cons.1 hy with rfl | hy
    · exact ⟨h1, h2, h3⟩
    · have := ih.1 y hy; exact ⟨by omega, this.2⟩
theorem goodQ_rise {q : Que} (h : goodQ q = true) : Rise q.items := by
  unfold goodQ at h
  simp only [Bool.and_eq_true] at h
  exact (goodI_all h.2.1).2.imp (fun h => by omega)

set_option maxRecDepth 100000 in
set_option maxHeartbeats 4000000 in
theorem settle_c {w : World} (q : Que) (r : QuR) (cn tg : Int) (ag : Bool) (hq : QuIn w q r) (hf : q.fit) (hg : GM w) :
    Calls Tryd.prog 28 #[.agg #[.string q.name, .bool q.dur, .int .i64 q.depth, .int .i64 q.seq, .int .i64 q.tag, .slice r.ia r.is.length r.ic, .slice r.ha r.hs.length r.hc], .int .i64 cn, .int .i64 tg, .bool ag] w fun e w' => ∃ r' : QuR, e = .returned (.tuple #[.agg #[.string (settleR q cn tg ag).1.name, .bool (settleR q cn tg ag).1.dur, .int .i64 (settleR q cn tg ag).1.depth, .int .i64 (settleR q cn tg ag).1.seq, .int .i64 (settleR q cn tg ag).1.tag, .slice r'.ia r'.is.length r'.ic, .slice r'.ha r'.hs.length r'.hc], .int .i64 (settleR q cn tg ag).2]) ∧ OwnW w' w.heap.size (settleR q cn tg ag).1 r' ∧ Below w.heap.size w w' := by
  obtain ⟨pr, hpr⟩ : ∃ pr, pr = settleR q cn tg ag := ⟨_, rfl⟩
  rw [← hpr]
  obtain ⟨W, hW⟩ : ∃ W, W = ((((w.alloc (.cells #[.string q.name, .bool q.dur, .int .i64 q.depth, .int .i64 q.seq, .int .i64 q.tag, .slice r.ia r.is.length r.ic, .slice r.ha r.hs.length r.hc] 25)).alloc (.cells #[.int .i64 cn] 3)).alloc (.cells #[.int .i64 tg] 3)).alloc (.cells #[.string ⟨#[]⟩, .bool false, .int .i64 0, .int .i64 0, .int .i64 0, .slice none 0 0, .slice none 0 0] 25)) := ⟨_, rfl⟩
  have b0 : Below w.heap.size w W := by rw [hW]; exact (((((Below.refl _ _).alloc (Nat.le_refl _) _).alloc (by simp; try omega) _).alloc (by simp; try omega) _).alloc (by simp; try omega) _)
  have hsz : W.heap.size = w.heap.size + 4 := by rw [hW]; simp
  have r0 : W.heap[w.heap.size]? = some (.cells #[.string q.name, .bool q.dur, .int .i64 q.depth, .int .i64 q.seq, .int .i64 q.tag, .slice r.ia r.is.length r.ic, .slice r.ha r.hs.length r.hc] 25 (0, 0)) := by rw [hW]; exact alloc_keep _ (alloc_keep _ (alloc_keep _ (alloc_at _ _ _ (by simp))))
  have HR0 : Hid (∀ w1, Below W.heap.size W w1 → w1.heap[w.heap.size]? = some (.cells #[.string q.name, .bool q.dur, .int .i64 q.depth, .int .i64 q.seq, .int .i64 q.tag, .slice r.ia r.is.length r.ic, .slice r.ha r.hs.length r.hc] 25 (0, 0))) := Lib.hid (fun w1 b => (b.block (w.heap.size) (by omega)).trans r0)
  have HZ0 : Hid (∀ w1, Below W.heap.size W w1 → ∀ j u, (#[.string q.name, .bool q.dur, .int .i64 q.depth, .int .i64 q.seq, .int .i64 q.tag, .slice r.ia r.is.length r.ic, .slice r.ha r.hs.length r.hc] : Array Value)[j]? = some u → w1.cell? ⟨w.heap.size, j, none⟩ = some u) := Lib.hid (fun w1 b j u hj => by simp only [World.cell?, HR0.out w1 b]; exact hj)
  have HF0 : Hid (∀ w1, Below W.heap.size W w1 → ∀ j, w1.frozen? ⟨w.heap.size, j, none⟩ = false) := Lib.hid (fun w1 b j => frozen_of_row _ _ j _ _ (HR0.out w1 b))
  have r1 : W.heap[w.heap.size + 1]? = some (.cells #[.int .i64 cn] 3 (0, 0)) := by rw [hW]; exact alloc_keep _ (alloc_keep _ (alloc_at _ _ _ (by simp)))
  have HR1 : Hid (∀ w1, Below W.heap.size W w1 → w1.heap[w.heap.size + 1]? = some (.cells #[.int .i64 cn] 3 (0, 0))) := Lib.hid (fun w1 b => (b.block (w.heap.size + 1) (by omega)).trans r1)
  have HZ1 : Hid (∀ w1, Below W.heap.size W w1 → ∀ j u, (#[.int .i64 cn] : Array Value)[j]? = some u → w1.cell? ⟨w.heap.size + 1, j, none⟩ = some u) := Lib.hid (fun w1 b j u hj => by simp only [World.cell?, HR1.out w1 b]; exact hj)
  have HF1 : Hid (∀ w1, Below W.heap.size W w1 → ∀ j, w1.frozen? ⟨w.heap.size + 1, j, none⟩ = false) := Lib.hid (fun w1 b j => frozen_of_row _ _ j _ _ (HR1.out w1 b))
  have r2 : W.heap[w.heap.size + 2]? = some (.cells #[.int .i64 tg] 3 (0, 0)) := by rw [hW]; exact alloc_keep _ (alloc_at _ _ _ (by simp))
  have HR2 : Hid (∀ w1, Below W.heap.size W w1 → w1.heap[w.heap.size + 2]? = some (.cells #[.int .i64 tg] 3 (0, 0))) := Lib.hid (fun w1 b => (b.block (w.heap.size + 2) (by omega)).trans r2)
  have HZ2 : Hid (∀ w1, Below W.heap.size W w1 → ∀ j u, (#[.int .i64 tg] : Array Value)[j]? = some u → w1.cell? ⟨w.heap.size + 2, j, none⟩ = some u) := Lib.hid (fun w1 b j u hj => by simp only [World.cell?, HR2.out w1 b]; exact hj)
  have HF2 : Hid (∀ w1, Below W.heap.size W w1 → ∀ j, w1.frozen? ⟨w.heap.size + 2, j, none⟩ = false) := Lib.hid (fun w1 b j => frozen_of_row _ _ j _ _ (HR2.out w1 b))
  have r3 : W.heap[w.heap.size + 3]? = some (.cells #[.string ⟨#[]⟩, .bool false, .int .i64 0, .int .i64 0, .int .i64 0, .slice none 0 0, .slice none 0 0] 25 (0, 0)) := by rw [hW]; exact alloc_at _ _ _ (by simp)
  have HR3 : Hid (∀ w1, Below W.heap.size W w1 → w1.heap[w.heap.size + 3]? = some (.cells #[.string ⟨#[]⟩, .bool false, .int .i64 0, .int .i64 0, .int .i64 0, .slice none 0 0, .slice none 0 0] 25 (0, 0))) := Lib.hid (fun w1 b => (b.block (w.heap.size + 3) (by omega)).trans r3)
  have HZ3 : Hid (∀ w1, Below W.heap.size W w1 → ∀ j u, (#[.string ⟨#[]⟩, .bool false, .int .i64 0, .int .i64 0, .int .i64 0, .slice none 0 0, .slice none 0 0] : Array Value)[j]? = some u → w1.cell? ⟨w.heap.size + 3, j, none⟩ = some u) := Lib.hid (fun w1 b j u hj => by simp only [World.cell?, HR3.out w1 b]; exact hj)
  have HF3 : Hid (∀ w1, Below W.heap.size W w1 → ∀ j, w1.frozen? ⟨w.heap.size + 3, j, none⟩ = false) := Lib.hid (fun w1 b j => frozen_of_row _ _ j _ _ (HR3.out w1 b))
  have HRX := HR3
  have h1 : q.items.length = r.is.length := by rw [← hq.ip, List.length_map]
  have h2 : q.held.length = r.hs.length := by rw [← hq.hp, List.length_map]
  have HG := Lib.hid (goodQ_c q r (hq.below b0) hf (hg.below b0))
  have HIX := Lib.hid (fun w1 (b : Below W.heap.size W w1) => indexH_c (w := w1) tg cn (HZ2.out w1 b 0 _ rfl) (HZ1.out w1 b 0 _ rfl) ((hq.held.below b0).below b) (by have := hf.hl; omega))
  have HC := Lib.hid (fun w1 (b : Below W.heap.size W w1) => copy_c (w := w1) q r ((hq.below b0).below b) (by have := hf.il; omega) (by have := hf.hl; omega) (fun x hx => by have := (hf.im x.it (by rw [← hq.ip]; exact List.mem_map.2 ⟨x, hx, rfl⟩)).2.2.1; omega) (fun x hx => by have := (hf.hm x.pl (by rw [← hq.hp]; exact List.mem_map.2 ⟨x, hx, rfl⟩)).2.2.1; show x.r.it.m.ps.length * 56 ≤ _; have h' : x.r.it.m.ps.length ≤ 1048576 := this; omega))
  have HPR := Lib.hid hpr
  have HSZ := Lib.hid hsz
  have HW := Lib.hid hW
  have HB := Lib.hid b0
  have HFIT := Lib.hid hf
  have HHP := Lib.hid hq.hp
  have HL2 := Lib.hid h2
  have z0 := HZ0.out W (Below.refl _ _) 0 _ rfl
  have z1 := HZ0.out W (Below.refl _ _) 1 _ rfl
  have z2 := HZ0.out W (Below.refl _ _) 2 _ rfl
  have z3 := HZ0.out W (Below.refl _ _) 3 _ rfl
  have z4 := HZ0.out W (Below.refl _ _) 4 _ rfl
  have z5 := HZ0.out W (Below.refl _ _) 5 _ rfl
  have z6 := HZ0.out W (Below.refl _ _) 6 _ rfl
  clear hpr hW b0 hsz r0 r1 r2 r3 hq hf hg h1 h2
  go_enter Tryd.func28, Tryd.ntmps28
  go_upto_region 1 with fail
  rw [← HW.out]
  go_wp2_with fail
  refine (HG.out).mono ?_
  rintro e w1 ⟨rfl, b1⟩
  clear z0 z1 z2 z3 z4 z5 z6
  have B1 := Lib.hid b1
  have z6 := HZ0.out w1 b1 6 _ rfl
  have x0 := HZ3.out w1 b1 0 _ rfl
  have x1 := HZ3.out w1 b1 1 _ rfl
  have x2 := HZ3.out w1 b1 2 _ rfl
  have x3 := HZ3.out w1 b1 3 _ rfl
  have x4 := HZ3.out w1 b1 4 _ rfl
  have x5 := HZ3.out w1 b1 5 _ rfl
  have x6 := HZ3.out w1 b1 6 _ rfl
  have fz := HF3.out w1 b1
  clear b1
  cases hgd : goodQ q with
  | false =>
    obtain rfl : pr = (noQ, 1) := by rw [HPR.out]; unfold settleR; rw [if_neg (by rw [hgd]; decide)]
    go_wp2_with fail
    refine queue_end (w := w1) (g := w.heap.size + 3) rfl _ _ _ _ _ _ _ (HRX.out _ B1.out) rfl rfl ?_
    exact ⟨noR, rfl, ownw_no _ _, below7 (HB.out.trans (Below.mono B1.out HB.out.size)) (by omega) _ _ _ _ _ _ _⟩
  | true =>
    have HGD := Lib.hid hgd
    go_wp2_with fail
    refine (HIX.out w1 B1.out).mono ?_
    rintro e w2 ⟨i, hi, rfl, b2⟩
    clear z6 fz x0 x1 x2 x3 x4 x5 x6
    have B2 := Lib.hid (B1.out.trans (b2.mono B1.out.size))
    clear b2
    rcases hi with ⟨rfl, hno⟩ | ⟨k, x, rfl, hx, hpx, hfirst⟩
    · obtain rfl : pr = (noQ, 33) := by rw [HPR.out]; unfold settleR; rw [if_pos hgd, first_none hno HHP.out]
      clear hno
      have x0 := HZ3.out w2 B2.out 0 _ rfl
      have x1 := HZ3.out w2 B2.out 1 _ rfl
      have x2 := HZ3.out w2 B2.out 2 _ rfl
      have x3 := HZ3.out w2 B2.out 3 _ rfl
      have x4 := HZ3.out w2 B2.out 4 _ rfl
      have x5 := HZ3.out w2 B2.out 5 _ rfl
      have x6 := HZ3.out w2 B2.out 6 _ rfl
      have fz := HF3.out w2 B2.out
      go_wp2_with fail
      refine queue_end (w := w2) (g := w.heap.size + 3) rfl _ _ _ _ _ _ _ (HRX.out _ B2.out) rfl rfl ?_
      exact ⟨noR, rfl, ownw_no _ _, below7 (HB.out.trans (Below.mono B2.out HB.out.size)) (by omega) _ _ _ _ _ _ _⟩
    · have hfs := first_some hx hpx hfirst HHP.out
      have hrise := goodQ_rise hgd
      have hpr2 : pr = (⟨q.name, q.dur, q.depth, q.seq, q.tag, if ag = true then insQ q.items x.r.it else q.items, q.held.eraseIdx k⟩, 0) := by rw [HPR.out]; unfold settleR; rw [if_pos hgd, hfs.1]; simp only [hfs.2]; rfl
      have HP2 := Lib.hid hpr2
      have HRI := Lib.hid hrise
      have HFS := Lib.hid hfs
      have hkl : k < r.hs.length := (List.getElem?_eq_some_iff.1 hx).1
      have HKL := Lib.hid hkl
      have hk0 : ¬ ((k : Int) < 0) := by omega
      clear hfs hrise hpr2 hkl hx hpx hfirst hgd
      have z0 := HZ0.out w2 B2.out 0 _ rfl
      have z1 := HZ0.out w2 B2.out 1 _ rfl
      have z2 := HZ0.out w2 B2.out 2 _ rfl
      have z3 := HZ0.out w2 B2.out 3 _ rfl
      have z4 := HZ0.out w2 B2.out 4 _ rfl
      have z5 := HZ0.out w2 B2.out 5 _ rfl
      have z6 := HZ0.out w2 B2.out 6 _ rfl
      go_wp2_with fail
      refine (HC.out w2 B2.out).mono ?_
      rintro e w3 ⟨r', rfl, ho, b3⟩
      clear z0 z1 z2 z3 z4 z5 z6
      have B3 := Lib.hid (B2.out.trans (b3.mono B2.out.size))
      have HS := Lib.hid (GQ.start (W := W) ho.weak B3.out B2.out.size b3.size)
      have hx' : ∃ x', r'.hs[k]? = some x' ∧ x'.pl = x.pl := by
        have h := HFS.out.2
        rw [← ho.hp, List.getElem?_map] at h
        obtain ⟨x', h1, h2⟩ := Option.map_eq_some_iff.1 h
        exact ⟨x', h1, h2⟩
      obtain ⟨x', hx', hpl⟩ := hx'
      have HX := Lib.hid hx'
      have HPL := Lib.hid hpl
      have hkI : (k : Int) < (r'.hs.length : Int) := by have := (List.getElem?_eq_some_iff.1 hx').1; omega
      have HBS : Hid (W.heap.size ≤ w2.heap.size) := Lib.hid B2.out.size
      obtain ⟨Bs, hBs⟩ : ∃ Bs, Bs = w2.heap.size := ⟨_, rfl⟩
      rw [← hBs] at HS HBS
      clear ho b3 hx' hpl hBs
      go_upto_region 7 with fail
      obtain ⟨W4, hW4⟩ : ∃ W4, W4 = w3.alloc (.cells #[.string q.name, .bool q.dur, .int .i64 q.depth, .int .i64 q.seq, .int .i64 q.tag, .slice r'.ia r'.is.length r'.ic, .slice r'.ha r'.hs.length r'.hc] 25) := ⟨_, rfl⟩
      rw [← hW4] at HS
      rw [← hW4]
      have s4 : W4.heap.size = w3.heap.size + 1 := by rw [hW4]; simp
      obtain ⟨g, hge⟩ := HS.out.ptrH (Nat.lt_of_le_of_lt (Nat.zero_le _) (List.getElem?_eq_some_iff.1 HX.out).1)
      have HGE := Lib.hid hge
      have HS4 := Lib.hid s4
      have g6 := HS.out.cell 6 _ rfl
      rw [hge] at g6
      have y3 := HS.out.cellH hge HX.out 3 _ rfl
      have y4 := HS.out.cellH hge HX.out 4 _ rfl
      have y5 := HS.out.cellH hge HX.out 5 _ rfl
      have y6 := HS.out.cellH hge HX.out 6 _ rfl
      have y7 := HS.out.cellH hge HX.out 7 _ rfl
      have y8 := HS.out.cellH hge HX.out 8 _ rfl
      have y9 := HS.out.cellH hge HX.out 9 _ rfl
      have HLO := Lib.hid (HS.out.own.hk x' (List.mem_of_getElem? HX.out))
      clear hW4 hge s4
      go_upto_region 8 with fail
      obtain ⟨W5, hW5⟩ : ∃ W5, W5 = W4.alloc (.cells #[.int .i64 x'.r.it.seq, .bool x'.r.it.again, .string x'.r.it.m.top, .string x'.r.it.m.body, .slice x'.r.pa x'.r.it.m.ps.length x'.r.pc, .bool x'.r.it.m.dur, .int .i64 x'.r.it.m.unt] 44) := ⟨_, rfl⟩
      rw [← hW5]
      have b5 : Below W4.heap.size W4 W5 := by rw [hW5]; exact (Below.refl _ _).alloc (Nat.le_refl _) _
      have HS5 := Lib.hid (HS.out.below b5)
      have HLO5 := Lib.hid (HLO.out.to (grownBy_below b5 _) (.inr (.inr rfl)) (.inl rfl) (.inl rfl))
      have rit : W5.heap[W4.heap.size]? = some (.cells #[.int .i64 x'.r.it.seq, .bool x'.r.it.again, .string x'.r.it.m.top, .string x'.r.it.m.body, .slice x'.r.pa x'.r.it.m.ps.length x'.r.pc, .bool x'.r.it.m.dur, .int .i64 x'.r.it.m.unt] 44 (0, 0)) := by rw [hW5]; exact heap_alloc_new W4 _
      have HRIT := Lib.hid rit
      have HD := Lib.hid (HS5.out.delH HGE.out HX.out)
      have hgl : g < W4.heap.size := own_lt' HS.out.own.ho (by rw [HGE.out]; rfl)
      have HGL := Lib.hid hgl
      have g6 := HS5.out.cell 6 _ rfl
      rw [HGE.out] at g6
      have hw1 : wrap64 ((k : Int) + 1) = (k : Int) + 1 := by have := HKL.out; have := HFIT.out.hl; have := HL2.out; unfold wrap64; omega
      have hw2 : IntKind.i64.wrap ((k : Int) + 1) = (k : Int) + 1 := by rw [IntKind.wrap_i64]; unfold wrap64 at hw1; exact hw1
      clear hW5 b5 rit hgl y3 y4 y5 y6 y7 y8 y9 HIX HG HC
      go_wp2_with fail
      refine (HD.out).mono ?_
      rintro e w6 ⟨rfl, row6, gq6, gr6, lo6⟩
      have hgG : w3.heap.size < W4.heap.size := by have := HS4.out; omega
      have rit6 : (w6.setCell ⟨w3.heap.size, 6, none⟩ (.slice (some ⟨g, 0, none⟩) (r'.hs.eraseIdx k).length r'.hc)).heap[W4.heap.size]? = some (.cells #[.int .i64 x'.r.it.seq, .bool x'.r.it.again, .string x'.r.it.m.top, .string x'.r.it.m.body, .slice x'.r.pa x'.r.it.m.ps.length x'.r.pc, .bool x'.r.it.m.dur, .int .i64 x'.r.it.m.unt] 44 (0, 0)) :=
        heap_set (by omega) _ _ ((gr6.block _ (Array.getElem?_eq_some_iff.1 HRIT.out).1 (fun e => by injection e with e; have := HGL.out; omega)).trans HRIT.out)
      have g6 : w6.cell? ⟨w3.heap.size, 6, none⟩ = some (.slice r'.ha r'.hs.length r'.hc) := by simp only [World.cell?, row6]; rfl
      have fz : w6.frozen? ⟨w3.heap.size, 6, none⟩ = false := frozen_of_row _ _ 6 _ _ row6
      have HRIT6 := Lib.hid rit6
      have GQ6 := Lib.hid gq6
      have LO6 := Lib.hid (lo6 _ HLO5.out)
      clear row6 gq6 gr6 lo6 hgG rit6
      go_upto_region 9 with fail
      obtain ⟨W7, hW7⟩ : ∃ W7, W7 = w6.setCell ⟨w3.heap.size, 6, none⟩ (.slice (some ⟨g, 0, none⟩) (r'.hs.eraseIdx k).length r'.hc) := ⟨_, rfl⟩
      rw [← hW7]
      rw [← hW7] at GQ6 LO6 HRIT6
      clear hW7 g6 fz
      cases ag with
      | false =>
        have hpr3 : pr = (⟨q.name, q.dur, q.depth, q.seq, q.tag, q.items, q.held.eraseIdx k⟩, 0) := HP2.out
        subst hpr3
        have g0 := GQ6.out.cell 0 _ rfl
        have g1 := GQ6.out.cell 1 _ rfl
        have g2 := GQ6.out.cell 2 _ rfl
        have g3 := GQ6.out.cell 3 _ rfl
        have g4 := GQ6.out.cell 4 _ rfl
        have g5 := GQ6.out.cell 5 _ rfl
        have g6 := GQ6.out.cell 6 _ rfl
        have x0 := HZ3.out W7 GQ6.out.bel 0 _ rfl
        have x1 := HZ3.out W7 GQ6.out.bel 1 _ rfl
        have x2 := HZ3.out W7 GQ6.out.bel 2 _ rfl
        have x3 := HZ3.out W7 GQ6.out.bel 3 _ rfl
        have x4 := HZ3.out W7 GQ6.out.bel 4 _ rfl
        have x5 := HZ3.out W7 GQ6.out.bel 5 _ rfl
        have x6 := HZ3.out W7 GQ6.out.bel 6 _ rfl
        have fz := HF3.out W7 GQ6.out.bel
        go_wp2_with fail
        refine queue_end (w := W7) (g := w.heap.size + 3) rfl _ _ _ _ _ _ _ (HRX.out _ GQ6.out.bel) rfl rfl ?_
        exact ⟨⟨r'.ia, r'.ic, r'.is, some ⟨g, 0, none⟩, r'.hc, r'.hs.eraseIdx k⟩, rfl, (OwnW.far GQ6.out.own.toW (grown7 _ _ _ _ _ _ _ _ _) (by have := HBS.out; have := HSZ.out; omega)).lower (by have := HBS.out; have := HSZ.out; omega), below7 (HB.out.trans (Below.mono GQ6.out.bel HB.out.size)) (by omega) _ _ _ _ _ _ _⟩
      | true =>
        have hpr3 : pr = (⟨q.name, q.dur, q.depth, q.seq, q.tag, insQ q.items x'.r.it, q.held.eraseIdx k⟩, 0) := by rw [HP2.out, if_pos rfl, show x.r.it = x'.r.it from (congrArg Hld.it HPL.out).symm]
        subst hpr3
        have HBK := Lib.hid (GQ6.out.back LO6.out HRI.out (by show q.items.length ≤ _; have := HFIT.out.il; omega))
        have y0 : W7.cell? ⟨W4.heap.size, 0, none⟩ = some (.int .i64 x'.r.it.seq) := by simp only [World.cell?, HRIT6.out]; rfl
        have y1 : W7.cell? ⟨W4.heap.size, 1, none⟩ = some (.bool x'.r.it.again) := by simp only [World.cell?, HRIT6.out]; rfl
        have y2 : W7.cell? ⟨W4.heap.size, 2, none⟩ = some (.string x'.r.it.m.top) := by simp only [World.cell?, HRIT6.out]; rfl
        have y3 : W7.cell? ⟨W4.heap.size, 3, none⟩ = some (.string x'.r.it.m.body) := by simp only [World.cell?, HRIT6.out]; rfl
        have y4 : W7.cell? ⟨W4.heap.size, 4, none⟩ = some (.slice x'.r.pa x'.r.it.m.ps.length x'.r.pc) := by simp only [World.cell?, HRIT6.out]; rfl
        have y5 : W7.cell? ⟨W4.heap.size, 5, none⟩ = some (.bool x'.r.it.m.dur) := by simp only [World.cell?, HRIT6.out]; rfl
        have y6 : W7.cell? ⟨W4.heap.size, 6, none⟩ = some (.int .i64 x'.r.it.m.unt) := by simp only [World.cell?, HRIT6.out]; rfl
        go_wp2_with fail
        refine (HBK.out).mono ?_
        rintro e w8 ⟨rfl, A, c, ns, gq8, -, -⟩
        have GQ8 := Lib.hid gq8
        clear gq8 HBK y0 y1 y2 y3 y4 y5 y6
        have g0 := GQ8.out.cell 0 _ rfl
        have g1 := GQ8.out.cell 1 _ rfl
        have g2 := GQ8.out.cell 2 _ rfl
        have g3 := GQ8.out.cell 3 _ rfl
        have g4 := GQ8.out.cell 4 _ rfl
        have g5 := GQ8.out.cell 5 _ rfl
        have g6 := GQ8.out.cell 6 _ rfl
        have x0 := HZ3.out w8 GQ8.out.bel 0 _ rfl
        have x1 := HZ3.out w8 GQ8.out.bel 1 _ rfl
        have x2 := HZ3.out w8 GQ8.out.bel 2 _ rfl
        have x3 := HZ3.out w8 GQ8.out.bel 3 _ rfl
        have x4 := HZ3.out w8 GQ8.out.bel 4 _ rfl
        have x5 := HZ3.out w8 GQ8.out.bel 5 _ rfl
        have x6 := HZ3.out w8 GQ8.out.bel 6 _ rfl
        have fz := HF3.out w8 GQ8.out.bel
        go_wp2_with fail
        refine queue_end (w := w8) (g := w.heap.size + 3) rfl _ _ _ _ _ _ _ (HRX.out _ GQ8.out.bel) rfl rfl ?_
        exact ⟨⟨A, c, ns, some ⟨g, 0, none⟩, r'.hc, r'.hs.eraseIdx k⟩, rfl, (OwnW.far GQ8.out.own.toW (grown7 _ _ _ _ _ _ _ _ _) (by have := HBS.out; have := HSZ.out; omega)).lower (by have := HBS.out; have := HSZ.out; omega), below7 (HB.out.trans (Below.mono GQ8.out.bel HB.out.size)) (by omega) _ _ _ _ _ _ _⟩
end Go.Proofs.YtelhpdnclmpgoaaDoor
