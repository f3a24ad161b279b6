/- Layer 10: Expire. (Printed by gen/qez.py.) -/
import Derived.Test.YtelhpdnclmpgoaaDoorQeY
import Derived.Test.YtelhpdnclmpgoaaDoorQeR
import Derived.Deep.DeepCutAuto
namespace Go.Proofs.YtelhpdnclmpgoaaDoor
open Go Go.RowKit Go.Sort
open Go.ChangeShapes Go.WideShapes Go.Deep
set_option linter.unusedSimpArgs false
set_option linter.unusedVariables false

def expireR (q : Que) (now : Int) : Que × Int := if goodQ q = true then (⟨q.name, q.dur, q.depth, q.seq, q.tag, q.items.filter (fun x => !gone now x), q.held⟩, 0) else (noQ, 1)
theorem own_len (A : Option Addr) (n m c : Nat) : (Value.slice A n c).ownBlock = (Value.slice A m c).ownBlock := by cases A <;> rfl
theorem GQ.expire {W wx : World} {base G K : Nat} {q : Que} {r : QuR} (h : GQ W wx base G q r) (now : Int) (hc : wx.cell? ⟨K, 0, none⟩ = some (.int .i64 now)) (hK : K < base) (hl : r.is.length ≤ 1099511627776) :
    Calls Tryd.prog 41 #[.slice r.ia r.is.length r.ic, .func (.func 42) #[] #[.pointer (some ⟨K, 0, none⟩)]] wx fun e w' => e = .returned (.slice r.ia (r.is.filter (keepR now)).length r.ic) ∧
      w'.heap[G]? = some (.cells #[.string q.name, .bool q.dur, .int .i64 q.depth, .int .i64 q.seq, .int .i64 q.tag, .slice r.ia r.is.length r.ic, .slice r.ha r.hs.length r.hc] 25 (0, 0)) ∧
      GQ W (w'.setCell ⟨G, 5, none⟩ (.slice r.ia (r.is.filter (keepR now)).length r.ic)) base G ⟨q.name, q.dur, q.depth, q.seq, q.tag, q.items.filter (fun x => !gone now x), q.held⟩ ⟨r.ia, r.ic, r.is.filter (keepR now), r.ha, r.hc, r.hs⟩ := by
  refine (deleteF_c now hc h.own.io (fun x hx => (h.own.ik x hx).ok) (fun e => by have := own_base h.own.io _ e; omega) hl).mono ?_
  rintro e w' ⟨rfl, o', gr⟩
  have row' := (gr.block G h.lt (fun e => h.own.ig e.symm)).trans h.row
  have oG := h.own.itemsTo h.lt gr o' (.inl (own_len _ _ _ _)) (fun y hy => h.own.ik y (List.mem_filter.1 hy).1) (its := q.items.filter (fun x => !gone now x)) (by rw [← h.own.ip, List.filter_map]; rfl) q.name q.dur q.depth q.seq q.tag
  exact ⟨rfl, row', ⟨oG.setG (grownBy_set _ _ _ _), cells7_5 row' _, Below.setCell (h.bel.grown gr h.bel.size (fun j hj => by have := own_base h.own.io j hj; have := h.hW; omega)) (Nat.le_trans h.hW h.hB) _, h.hW, h.hB⟩⟩

set_option maxRecDepth 100000 in
set_option maxHeartbeats 4000000 in
theorem expire_c {w : World} (q : Que) (r : QuR) (now : Int) (hq : QuIn w q r) (hf : q.fit) (hg : GM w) :
    Calls Tryd.prog 23 #[.agg #[.string q.name, .bool q.dur, .int .i64 q.depth, .int .i64 q.seq, .int .i64 q.tag, .slice r.ia r.is.length r.ic, .slice r.ha r.hs.length r.hc], .int .i64 now] w fun e w' => ∃ r' : QuR, e = .returned (.tuple #[.agg #[.string (expireR q now).1.name, .bool (expireR q now).1.dur, .int .i64 (expireR q now).1.depth, .int .i64 (expireR q now).1.seq, .int .i64 (expireR q now).1.tag, .slice r'.ia r'.is.length r'.ic, .slice r'.ha r'.hs.length r'.hc], .int .i64 (expireR q now).2]) ∧ OwnW w' w.heap.size (expireR q now).1 r' ∧ Below w.heap.size w w' := by
  obtain ⟨pr, hpr⟩ : ∃ pr, pr = expireR q now := ⟨_, rfl⟩
  rw [← hpr]
  obtain ⟨W, hW⟩ : ∃ W, W = (((w.alloc (.cells #[.string q.name, .bool q.dur, .int .i64 q.depth, .int .i64 q.seq, .int .i64 q.tag, .slice r.ia r.is.length r.ic, .slice r.ha r.hs.length r.hc] 25)).alloc (.cells #[.int .i64 now] 3)).alloc (.cells #[.string ⟨#[]⟩, .bool false, .int .i64 0, .int .i64 0, .int .i64 0, .slice none 0 0, .slice none 0 0] 25)) := ⟨_, rfl⟩
  have b0 : Below w.heap.size w W := by rw [hW]; exact ((((Below.refl _ _).alloc (Nat.le_refl _) _).alloc (by simp; try omega) _).alloc (by simp; try omega) _)
  have hsz : W.heap.size = w.heap.size + 3 := by rw [hW]; simp
  have r0 : W.heap[w.heap.size]? = some (.cells #[.string q.name, .bool q.dur, .int .i64 q.depth, .int .i64 q.seq, .int .i64 q.tag, .slice r.ia r.is.length r.ic, .slice r.ha r.hs.length r.hc] 25 (0, 0)) := by rw [hW]; exact alloc_keep _ (alloc_keep _ (alloc_at _ _ _ (by simp)))
  have HR0 : Hid (∀ w1, Below W.heap.size W w1 → w1.heap[w.heap.size]? = some (.cells #[.string q.name, .bool q.dur, .int .i64 q.depth, .int .i64 q.seq, .int .i64 q.tag, .slice r.ia r.is.length r.ic, .slice r.ha r.hs.length r.hc] 25 (0, 0))) := Lib.hid (fun w1 b => (b.block (w.heap.size) (by omega)).trans r0)
  have HZ0 : Hid (∀ w1, Below W.heap.size W w1 → ∀ j u, (#[.string q.name, .bool q.dur, .int .i64 q.depth, .int .i64 q.seq, .int .i64 q.tag, .slice r.ia r.is.length r.ic, .slice r.ha r.hs.length r.hc] : Array Value)[j]? = some u → w1.cell? ⟨w.heap.size, j, none⟩ = some u) := Lib.hid (fun w1 b j u hj => by simp only [World.cell?, HR0.out w1 b]; exact hj)
  have HF0 : Hid (∀ w1, Below W.heap.size W w1 → ∀ j, w1.frozen? ⟨w.heap.size, j, none⟩ = false) := Lib.hid (fun w1 b j => frozen_of_row _ _ j _ _ (HR0.out w1 b))
  have r1 : W.heap[w.heap.size + 1]? = some (.cells #[.int .i64 now] 3 (0, 0)) := by rw [hW]; exact alloc_keep _ (alloc_at _ _ _ (by simp))
  have HR1 : Hid (∀ w1, Below W.heap.size W w1 → w1.heap[w.heap.size + 1]? = some (.cells #[.int .i64 now] 3 (0, 0))) := Lib.hid (fun w1 b => (b.block (w.heap.size + 1) (by omega)).trans r1)
  have HZ1 : Hid (∀ w1, Below W.heap.size W w1 → ∀ j u, (#[.int .i64 now] : Array Value)[j]? = some u → w1.cell? ⟨w.heap.size + 1, j, none⟩ = some u) := Lib.hid (fun w1 b j u hj => by simp only [World.cell?, HR1.out w1 b]; exact hj)
  have HF1 : Hid (∀ w1, Below W.heap.size W w1 → ∀ j, w1.frozen? ⟨w.heap.size + 1, j, none⟩ = false) := Lib.hid (fun w1 b j => frozen_of_row _ _ j _ _ (HR1.out w1 b))
  have r2 : W.heap[w.heap.size + 2]? = some (.cells #[.string ⟨#[]⟩, .bool false, .int .i64 0, .int .i64 0, .int .i64 0, .slice none 0 0, .slice none 0 0] 25 (0, 0)) := by rw [hW]; exact alloc_at _ _ _ (by simp)
  have HR2 : Hid (∀ w1, Below W.heap.size W w1 → w1.heap[w.heap.size + 2]? = some (.cells #[.string ⟨#[]⟩, .bool false, .int .i64 0, .int .i64 0, .int .i64 0, .slice none 0 0, .slice none 0 0] 25 (0, 0))) := Lib.hid (fun w1 b => (b.block (w.heap.size + 2) (by omega)).trans r2)
  have HZ2 : Hid (∀ w1, Below W.heap.size W w1 → ∀ j u, (#[.string ⟨#[]⟩, .bool false, .int .i64 0, .int .i64 0, .int .i64 0, .slice none 0 0, .slice none 0 0] : Array Value)[j]? = some u → w1.cell? ⟨w.heap.size + 2, j, none⟩ = some u) := Lib.hid (fun w1 b j u hj => by simp only [World.cell?, HR2.out w1 b]; exact hj)
  have HF2 : Hid (∀ w1, Below W.heap.size W w1 → ∀ j, w1.frozen? ⟨w.heap.size + 2, j, none⟩ = false) := Lib.hid (fun w1 b j => frozen_of_row _ _ j _ _ (HR2.out w1 b))
  have HRX := HR2
  have h1 : q.items.length = r.is.length := by rw [← hq.ip, List.length_map]
  have h2 : q.held.length = r.hs.length := by rw [← hq.hp, List.length_map]
  have HG := Lib.hid (goodQ_c q r (hq.below b0) hf (hg.below b0))
  have HC := Lib.hid (fun w1 (b : Below W.heap.size W w1) => copy_c (w := w1) q r ((hq.below b0).below b) (by have := hf.il; omega) (by have := hf.hl; omega) (fun x hx => by have := (hf.im x.it (by rw [← hq.ip]; exact List.mem_map.2 ⟨x, hx, rfl⟩)).2.2.1; omega) (fun x hx => by have := (hf.hm x.pl (by rw [← hq.hp]; exact List.mem_map.2 ⟨x, hx, rfl⟩)).2.2.1; show x.r.it.m.ps.length * 56 ≤ _; have h' : x.r.it.m.ps.length ≤ 1048576 := this; omega))
  have HPR := Lib.hid hpr
  have HSZ := Lib.hid hsz
  have HW := Lib.hid hW
  have HB := Lib.hid b0
  have z0 := HZ0.out W (Below.refl _ _) 0 _ rfl
  have z1 := HZ0.out W (Below.refl _ _) 1 _ rfl
  have z2 := HZ0.out W (Below.refl _ _) 2 _ rfl
  have z3 := HZ0.out W (Below.refl _ _) 3 _ rfl
  have z4 := HZ0.out W (Below.refl _ _) 4 _ rfl
  have z5 := HZ0.out W (Below.refl _ _) 5 _ rfl
  have z6 := HZ0.out W (Below.refl _ _) 6 _ rfl
  clear hpr hW b0 hsz r0 r1 r2 hq hf hg h1 h2
  go_enter Tryd.func23, Tryd.ntmps23
  go_upto_region 1 with fail
  rw [← HW.out]
  go_wp2_with fail
  refine (HG.out).mono ?_
  rintro e w1 ⟨rfl, b1⟩
  clear z0 z1 z2 z3 z4 z5 z6
  have B1 := Lib.hid b1
  clear b1
  cases hgd : goodQ q with
  | false =>
    obtain rfl : pr = (noQ, 1) := by rw [HPR.out]; unfold expireR; rw [if_neg (by rw [hgd]; decide)]
    have x0 := HZ2.out w1 B1.out 0 _ rfl
    have x1 := HZ2.out w1 B1.out 1 _ rfl
    have x2 := HZ2.out w1 B1.out 2 _ rfl
    have x3 := HZ2.out w1 B1.out 3 _ rfl
    have x4 := HZ2.out w1 B1.out 4 _ rfl
    have x5 := HZ2.out w1 B1.out 5 _ rfl
    have x6 := HZ2.out w1 B1.out 6 _ rfl
    have fz := HF2.out w1 B1.out
    go_wp2_with fail
    refine queue_end (w := w1) (g := w.heap.size + 2) rfl _ _ _ _ _ _ _ (HRX.out _ B1.out) rfl rfl ?_
    exact ⟨noR, rfl, ownw_no _ _, below7 (HB.out.trans (Below.mono B1.out HB.out.size)) (by omega) _ _ _ _ _ _ _⟩
  | true =>
    have hpr2 : pr = (⟨q.name, q.dur, q.depth, q.seq, q.tag, q.items.filter (fun x => !gone now x), q.held⟩, 0) := by rw [HPR.out]; unfold expireR; rw [if_pos hgd]
    have HP2 := Lib.hid hpr2
    have H64 : Hid (q.items.length + q.held.length ≤ 64) := Lib.hid (goodQ_len hgd)
    clear hpr2 hgd
    have z0 := HZ0.out w1 B1.out 0 _ rfl
    have z1 := HZ0.out w1 B1.out 1 _ rfl
    have z2 := HZ0.out w1 B1.out 2 _ rfl
    have z3 := HZ0.out w1 B1.out 3 _ rfl
    have z4 := HZ0.out w1 B1.out 4 _ rfl
    have z5 := HZ0.out w1 B1.out 5 _ rfl
    have z6 := HZ0.out w1 B1.out 6 _ rfl
    go_wp2_with fail
    refine (HC.out w1 B1.out).mono ?_
    rintro e w3 ⟨r1, rfl, ho, b3⟩
    clear z0 z1 z2 z3 z4 z5 z6
    have B3 := Lib.hid (B1.out.trans (b3.mono B1.out.size))
    have HS := Lib.hid (GQ.start (W := W) ho.weak B3.out B1.out.size b3.size)
    have HBS : Hid (W.heap.size ≤ w1.heap.size) := Lib.hid B1.out.size
    obtain ⟨Bs, hBs⟩ : ∃ Bs, Bs = w1.heap.size := ⟨_, rfl⟩
    rw [← hBs] at HS HBS
    clear ho b3 hBs
    go_upto_region 4 with fail
    obtain ⟨W4, hW4⟩ : ∃ W4, W4 = w3.alloc (.cells #[.string q.name, .bool q.dur, .int .i64 q.depth, .int .i64 q.seq, .int .i64 q.tag, .slice r1.ia r1.is.length r1.ic, .slice r1.ha r1.hs.length r1.hc] 25) := ⟨_, rfl⟩
    rw [← hW4] at HS
    rw [← hW4]
    have HD := Lib.hid (HS.out.expire (K := w.heap.size + 1) now (HZ1.out W4 HS.out.bel 0 _ rfl) (by have := HBS.out; have := HSZ.out; omega) (by have h := congrArg List.length HS.out.own.ip; rw [List.length_map] at h; have := H64.out; omega))
    have g5 := HS.out.cell 5 _ rfl
    clear hW4
    go_wp2_with fail
    refine (HD.out).mono ?_
    rintro e w6 ⟨rfl, row6, gq6⟩
    clear g5 HD
    have g5 : w6.cell? ⟨w3.heap.size, 5, none⟩ = some (.slice r1.ia r1.is.length r1.ic) := by simp only [World.cell?, row6]; rfl
    have fz : w6.frozen? ⟨w3.heap.size, 5, none⟩ = false := frozen_of_row _ _ 5 _ _ row6
    have GQ6 := Lib.hid gq6
    clear row6 gq6
    go_upto_region 5 with fail
    obtain ⟨W7, hW7⟩ : ∃ W7, W7 = w6.setCell ⟨w3.heap.size, 5, none⟩ (.slice r1.ia (r1.is.filter (keepR now)).length r1.ic) := ⟨_, rfl⟩
    rw [← hW7]
    rw [← hW7] at GQ6
    clear hW7 g5 fz
    have hpr3 := HP2.out
    subst hpr3
    have g0 := GQ6.out.cell 0 _ rfl
    have g1 := GQ6.out.cell 1 _ rfl
    have g2 := GQ6.out.cell 2 _ rfl
    have g3 := GQ6.out.cell 3 _ rfl
    have g4 := GQ6.out.cell 4 _ rfl
    have g5 := GQ6.out.cell 5 _ rfl
    have g6 := GQ6.out.cell 6 _ rfl
    have x0 := HZ2.out W7 GQ6.out.bel 0 _ rfl
    have x1 := HZ2.out W7 GQ6.out.bel 1 _ rfl
    have x2 := HZ2.out W7 GQ6.out.bel 2 _ rfl
    have x3 := HZ2.out W7 GQ6.out.bel 3 _ rfl
    have x4 := HZ2.out W7 GQ6.out.bel 4 _ rfl
    have x5 := HZ2.out W7 GQ6.out.bel 5 _ rfl
    have x6 := HZ2.out W7 GQ6.out.bel 6 _ rfl
    have fz := HF2.out W7 GQ6.out.bel
    go_wp2_with fail
    refine queue_end (w := W7) (g := w.heap.size + 2) rfl _ _ _ _ _ _ _ (HRX.out _ GQ6.out.bel) rfl rfl ?_
    exact ⟨⟨r1.ia, r1.ic, r1.is.filter (keepR now), r1.ha, r1.hc, r1.hs⟩, rfl, (OwnW.far GQ6.out.own.toW (grown7 _ _ _ _ _ _ _ _ _) (by have := HBS.out; have := HSZ.out; omega)).lower (by have := HBS.out; have := HSZ.out; omega), below7 (HB.out.trans (Below.mono GQ6.out.bel HB.out.size)) (by omega) _ _ _ _ _ _ _⟩
end Go.Proofs.YtelhpdnclmpgoaaDoor
