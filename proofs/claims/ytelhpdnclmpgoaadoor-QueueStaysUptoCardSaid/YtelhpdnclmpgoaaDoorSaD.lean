/- Texts of this claim, joined: QfD. -/
import Derived.Test.YtelhpdnclmpgoaaDoorSaP
import Derived.Test.YtelhpdnclmpgoaaDoorQeW
/- Layer 10: a call of any kind. (Printed by gen/qfd.py.) -/
namespace Go.Proofs.YtelhpdnclmpgoaaDoor
open Go Go.RowKit Go.Sort
open Go.ChangeShapes Go.WideShapes Go.Deep
set_option linter.unusedSimpArgs false
set_option linter.unusedVariables false

/-- Block K holds nothing of the queue. -/
structure QF (K : Nat) (r : QuR) : Prop where
  i : 0 < r.is.length → ∀ a, r.ia = some a → a.block ≠ K
  h : 0 < r.hs.length → ∀ a, r.ha = some a → a.block ≠ K
  ik : ∀ x ∈ r.is, 0 < x.it.m.ps.length → ∀ a, x.pa = some a → a.block ≠ K
  hk : ∀ x ∈ r.hs, 0 < x.r.it.m.ps.length → ∀ a, x.r.pa = some a → a.block ≠ K
theorem QF.ofOwn {w : World} {base K : Nat} {q : Que} {r : QuR} (h : OwnW w base q r) (hK : K < base) : QF K r :=
  ⟨fun _ a ha => by have := own_base h.io a.block (by rw [ha]; rfl); omega, fun _ a ha => by have := own_base h.ho a.block (by rw [ha]; rfl); omega,
    fun x hx hn a ha => by have := ((h.ik x hx).2 hn a ha).1; omega, fun x hx hn a ha => by have := ((h.hk x hx).2 hn a ha).1; omega⟩
theorem QF.ofIn {w : World} {K : Nat} {q : Que} {r : QuR} (h : QuIn w q r) (hK : w.heap.size ≤ K) : QF K r :=
  ⟨fun hn a ha => by have h1 := h.items.1; rw [ha] at h1; have := rc_lt h1 hn (by decide); omega, fun hn a ha => by have h1 := h.held.1; rw [ha] at h1; have := rc_lt h1 hn (by decide); omega,
    fun x hx hn a ha => by have := (h.items.2 x hx).lt hn ha; omega, fun x hx hn a ha => by have := (h.held.2 x hx).lt hn ha; omega⟩
theorem QuIn.set {w w2 : World} {K : Nat} {q : Que} {r : QuR} (h : QuIn w q r) (f : QF K r) (gr : w.grownBy w2 (some K)) : QuIn w2 q r := by
  have old : ∀ y : ItR, y.ok w → (0 < y.it.m.ps.length → ∀ a, y.pa = some a → a.block ≠ K) → y.ok w2 := fun y h1 h2 =>
    rc_keep h1 (fun hn A n c he hlt => gr.block _ hlt (fun e => by injection he with he; injection e with e; exact h2 hn A he e))
  exact ⟨⟨rc_keep h.items.1 (fun hn A n c he hlt => gr.block _ hlt (fun e => by injection he with he; injection e with e; exact f.i hn A he e)), fun x hx => old x (h.items.2 x hx) (f.ik x hx)⟩,
    ⟨rc_keep h.held.1 (fun hn A n c he hlt => gr.block _ hlt (fun e => by injection he with he; injection e with e; exact f.h hn A he e)), fun x hx => old x.r (h.held.2 x hx) (f.hk x hx)⟩, h.ip, h.hp⟩

set_option maxRecDepth 100000 in
set_option maxHeartbeats 4000000 in
theorem does_c {w : World} (q : Que) (r : QuR) (o : OpP) {A : Option Addr} {c : Nat} (hq : QuIn w q r) (hf : q.fit) (hp : RPr w (.slice A o.m.ps.length c) o.m.ps) (hm : o.m.fit) (hg : GM w) :
    Calls Tryd.prog 24 #[.agg #[.string q.name, .bool q.dur, .int .i64 q.depth, .int .i64 q.seq, .int .i64 q.tag, .slice r.ia r.is.length r.ic, .slice r.ha r.hs.length r.hc], .agg #[.int .i64 o.kind, .int .i64 o.conn, .int .i64 o.n, .bool o.flag, .string o.m.top, .string o.m.body, .slice A o.m.ps.length c, .bool o.m.dur, .int .i64 o.m.unt]] w fun e w' => ∃ (r' : QuR) (x' : ItR), e = .returned (.tuple #[.agg #[.string (doesR q o).1.name, .bool (doesR q o).1.dur, .int .i64 (doesR q o).1.depth, .int .i64 (doesR q o).1.seq, .int .i64 (doesR q o).1.tag, .slice r'.ia r'.is.length r'.ic, .slice r'.ha r'.hs.length r'.hc], .int .i64 (doesR q o).2.1, .agg #[.int .i64 x'.it.seq, .bool x'.it.again, .string x'.it.m.top, .string x'.it.m.body, .slice x'.pa x'.it.m.ps.length x'.pc, .bool x'.it.m.dur, .int .i64 x'.it.m.unt], .int .i64 (doesR q o).2.2.2]) ∧ QuIn w' (doesR q o).1 r' ∧ x'.it = (doesR q o).2.2.1 ∧ (∀ K, K < w.heap.size → QF K r → QF K r') ∧ Below w.heap.size w w' := by
  obtain ⟨pr, hpr⟩ : ∃ pr, pr = doesR q o := ⟨_, rfl⟩
  rw [← hpr]
  obtain ⟨W, hW⟩ : ∃ W, W = (((((w.alloc (.cells #[.string q.name, .bool q.dur, .int .i64 q.depth, .int .i64 q.seq, .int .i64 q.tag, .slice r.ia r.is.length r.ic, .slice r.ha r.hs.length r.hc] 25)).alloc (.cells #[.int .i64 o.kind, .int .i64 o.conn, .int .i64 o.n, .bool o.flag, .string o.m.top, .string o.m.body, .slice A o.m.ps.length c, .bool o.m.dur, .int .i64 o.m.unt] 30)).alloc (.cells #[.string ⟨#[]⟩, .bool false, .int .i64 0, .int .i64 0, .int .i64 0, .slice none 0 0, .slice none 0 0] 25)).alloc (.cells #[.int .i64 0, .bool false, .string ⟨#[]⟩, .string ⟨#[]⟩, .slice none 0 0, .bool false, .int .i64 0] 44)).alloc (.cells #[.string q.name, .bool q.dur, .int .i64 q.depth, .int .i64 q.seq, .int .i64 q.tag, .slice r.ia r.is.length r.ic, .slice r.ha r.hs.length r.hc] 25)) := ⟨_, rfl⟩
  have b0 : Below w.heap.size w W := by rw [hW]; exact ((((((Below.refl _ _).alloc (Nat.le_refl _) _).alloc (by simp; try omega) _).alloc (by simp; try omega) _).alloc (by simp; try omega) _).alloc (by simp; try omega) _)
  have hsz : W.heap.size = w.heap.size + 5 := by rw [hW]; simp
  have r0 : W.heap[w.heap.size]? = some (.cells #[.string q.name, .bool q.dur, .int .i64 q.depth, .int .i64 q.seq, .int .i64 q.tag, .slice r.ia r.is.length r.ic, .slice r.ha r.hs.length r.hc] 25 (0, 0)) := by rw [hW]; exact alloc_keep _ (alloc_keep _ (alloc_keep _ (alloc_keep _ (alloc_at _ _ _ (by simp)))))
  have HR0 : Hid (∀ w1, Below W.heap.size W w1 → w1.heap[w.heap.size]? = some (.cells #[.string q.name, .bool q.dur, .int .i64 q.depth, .int .i64 q.seq, .int .i64 q.tag, .slice r.ia r.is.length r.ic, .slice r.ha r.hs.length r.hc] 25 (0, 0))) := Lib.hid (fun w1 b => (b.block (w.heap.size) (by omega)).trans r0)
  have HZ0 : Hid (∀ w1, Below W.heap.size W w1 → ∀ j u, (#[.string q.name, .bool q.dur, .int .i64 q.depth, .int .i64 q.seq, .int .i64 q.tag, .slice r.ia r.is.length r.ic, .slice r.ha r.hs.length r.hc] : Array Value)[j]? = some u → w1.cell? ⟨w.heap.size, j, none⟩ = some u) := Lib.hid (fun w1 b j u hj => by simp only [World.cell?, HR0.out w1 b]; exact hj)
  have HF0 : Hid (∀ w1, Below W.heap.size W w1 → ∀ j, w1.frozen? ⟨w.heap.size, j, none⟩ = false) := Lib.hid (fun w1 b j => frozen_of_row _ _ j _ _ (HR0.out w1 b))
  have r1 : W.heap[w.heap.size + 1]? = some (.cells #[.int .i64 o.kind, .int .i64 o.conn, .int .i64 o.n, .bool o.flag, .string o.m.top, .string o.m.body, .slice A o.m.ps.length c, .bool o.m.dur, .int .i64 o.m.unt] 30 (0, 0)) := by rw [hW]; exact alloc_keep _ (alloc_keep _ (alloc_keep _ (alloc_at _ _ _ (by simp))))
  have HR1 : Hid (∀ w1, Below W.heap.size W w1 → w1.heap[w.heap.size + 1]? = some (.cells #[.int .i64 o.kind, .int .i64 o.conn, .int .i64 o.n, .bool o.flag, .string o.m.top, .string o.m.body, .slice A o.m.ps.length c, .bool o.m.dur, .int .i64 o.m.unt] 30 (0, 0))) := Lib.hid (fun w1 b => (b.block (w.heap.size + 1) (by omega)).trans r1)
  have HZ1 : Hid (∀ w1, Below W.heap.size W w1 → ∀ j u, (#[.int .i64 o.kind, .int .i64 o.conn, .int .i64 o.n, .bool o.flag, .string o.m.top, .string o.m.body, .slice A o.m.ps.length c, .bool o.m.dur, .int .i64 o.m.unt] : Array Value)[j]? = some u → w1.cell? ⟨w.heap.size + 1, j, none⟩ = some u) := Lib.hid (fun w1 b j u hj => by simp only [World.cell?, HR1.out w1 b]; exact hj)
  have HF1 : Hid (∀ w1, Below W.heap.size W w1 → ∀ j, w1.frozen? ⟨w.heap.size + 1, j, none⟩ = false) := Lib.hid (fun w1 b j => frozen_of_row _ _ j _ _ (HR1.out w1 b))
  have r2 : W.heap[w.heap.size + 2]? = some (.cells #[.string ⟨#[]⟩, .bool false, .int .i64 0, .int .i64 0, .int .i64 0, .slice none 0 0, .slice none 0 0] 25 (0, 0)) := by rw [hW]; exact alloc_keep _ (alloc_keep _ (alloc_at _ _ _ (by simp)))
  have HR2 : Hid (∀ w1, Below W.heap.size W w1 → w1.heap[w.heap.size + 2]? = some (.cells #[.string ⟨#[]⟩, .bool false, .int .i64 0, .int .i64 0, .int .i64 0, .slice none 0 0, .slice none 0 0] 25 (0, 0))) := Lib.hid (fun w1 b => (b.block (w.heap.size + 2) (by omega)).trans r2)
  have HZ2 : Hid (∀ w1, Below W.heap.size W w1 → ∀ j u, (#[.string ⟨#[]⟩, .bool false, .int .i64 0, .int .i64 0, .int .i64 0, .slice none 0 0, .slice none 0 0] : Array Value)[j]? = some u → w1.cell? ⟨w.heap.size + 2, j, none⟩ = some u) := Lib.hid (fun w1 b j u hj => by simp only [World.cell?, HR2.out w1 b]; exact hj)
  have HF2 : Hid (∀ w1, Below W.heap.size W w1 → ∀ j, w1.frozen? ⟨w.heap.size + 2, j, none⟩ = false) := Lib.hid (fun w1 b j => frozen_of_row _ _ j _ _ (HR2.out w1 b))
  have r3 : W.heap[w.heap.size + 3]? = some (.cells #[.int .i64 0, .bool false, .string ⟨#[]⟩, .string ⟨#[]⟩, .slice none 0 0, .bool false, .int .i64 0] 44 (0, 0)) := by rw [hW]; exact alloc_keep _ (alloc_at _ _ _ (by simp))
  have HR3 : Hid (∀ w1, Below W.heap.size W w1 → w1.heap[w.heap.size + 3]? = some (.cells #[.int .i64 0, .bool false, .string ⟨#[]⟩, .string ⟨#[]⟩, .slice none 0 0, .bool false, .int .i64 0] 44 (0, 0))) := Lib.hid (fun w1 b => (b.block (w.heap.size + 3) (by omega)).trans r3)
  have HZ3 : Hid (∀ w1, Below W.heap.size W w1 → ∀ j u, (#[.int .i64 0, .bool false, .string ⟨#[]⟩, .string ⟨#[]⟩, .slice none 0 0, .bool false, .int .i64 0] : Array Value)[j]? = some u → w1.cell? ⟨w.heap.size + 3, j, none⟩ = some u) := Lib.hid (fun w1 b j u hj => by simp only [World.cell?, HR3.out w1 b]; exact hj)
  have HF3 : Hid (∀ w1, Below W.heap.size W w1 → ∀ j, w1.frozen? ⟨w.heap.size + 3, j, none⟩ = false) := Lib.hid (fun w1 b j => frozen_of_row _ _ j _ _ (HR3.out w1 b))
  have r4 : W.heap[w.heap.size + 4]? = some (.cells #[.string q.name, .bool q.dur, .int .i64 q.depth, .int .i64 q.seq, .int .i64 q.tag, .slice r.ia r.is.length r.ic, .slice r.ha r.hs.length r.hc] 25 (0, 0)) := by rw [hW]; exact alloc_at _ _ _ (by simp)
  have HR4 : Hid (∀ w1, Below W.heap.size W w1 → w1.heap[w.heap.size + 4]? = some (.cells #[.string q.name, .bool q.dur, .int .i64 q.depth, .int .i64 q.seq, .int .i64 q.tag, .slice r.ia r.is.length r.ic, .slice r.ha r.hs.length r.hc] 25 (0, 0))) := Lib.hid (fun w1 b => (b.block (w.heap.size + 4) (by omega)).trans r4)
  have HZ4 : Hid (∀ w1, Below W.heap.size W w1 → ∀ j u, (#[.string q.name, .bool q.dur, .int .i64 q.depth, .int .i64 q.seq, .int .i64 q.tag, .slice r.ia r.is.length r.ic, .slice r.ha r.hs.length r.hc] : Array Value)[j]? = some u → w1.cell? ⟨w.heap.size + 4, j, none⟩ = some u) := Lib.hid (fun w1 b j u hj => by simp only [World.cell?, HR4.out w1 b]; exact hj)
  have HF4 : Hid (∀ w1, Below W.heap.size W w1 → ∀ j, w1.frozen? ⟨w.heap.size + 4, j, none⟩ = false) := Lib.hid (fun w1 b j => frozen_of_row _ _ j _ _ (HR4.out w1 b))
  have HQ := Lib.hid (hq.below b0)
  have HPS := Lib.hid (rc_below hp b0)
  have HQ0 := Lib.hid hq
  have HF := Lib.hid hf
  have HM := Lib.hid hm
  have HGM := Lib.hid (hg.below b0)
  have HPR := Lib.hid hpr
  have HSZ := Lib.hid hsz
  have HW := Lib.hid hW
  have HB := Lib.hid b0
  have z0 := HZ0.out W (Below.refl _ _) 0 _ rfl
  have z1 := HZ0.out W (Below.refl _ _) 1 _ rfl
  have z2 := HZ0.out W (Below.refl _ _) 2 _ rfl
  have z3 := HZ0.out W (Below.refl _ _) 3 _ rfl
  have z4 := HZ0.out W (Below.refl _ _) 4 _ rfl
  have z5 := HZ0.out W (Below.refl _ _) 5 _ rfl
  have z6 := HZ0.out W (Below.refl _ _) 6 _ rfl
  have o0 := HZ1.out W (Below.refl _ _) 0 _ rfl
  have o1 := HZ1.out W (Below.refl _ _) 1 _ rfl
  have o2 := HZ1.out W (Below.refl _ _) 2 _ rfl
  have o3 := HZ1.out W (Below.refl _ _) 3 _ rfl
  have o4 := HZ1.out W (Below.refl _ _) 4 _ rfl
  have o5 := HZ1.out W (Below.refl _ _) 5 _ rfl
  have o6 := HZ1.out W (Below.refl _ _) 6 _ rfl
  have o7 := HZ1.out W (Below.refl _ _) 7 _ rfl
  have o8 := HZ1.out W (Below.refl _ _) 8 _ rfl
  clear hpr hW b0 hsz r0 r1 r2 r3 r4 hq hf hp hm hg
  go_enter Tryd.func24, Tryd.ntmps24
  go_upto_region 2 with fail
  rw [← HW.out]
  obtain ⟨K4, hK4⟩ : ∃ K, K = w.heap.size + 4 := ⟨_, rfl⟩
  obtain ⟨K3, hK3⟩ : ∃ K, K = w.heap.size + 3 := ⟨_, rfl⟩
  obtain ⟨K2, hK2⟩ : ∃ K, K = w.heap.size + 2 := ⟨_, rfl⟩
  rw [show w.heap.size + 1 + 1 + 1 + 1 = K4 from hK4.symm, show w.heap.size + 1 + 1 + 1 = K3 from hK3.symm, show w.heap.size + 1 + 1 = K2 from hK2.symm]
  rw [← hK4] at HR4 HZ4 HF4
  rw [← hK3] at HR3 HZ3 HF3
  rw [← hK2] at HR2 HZ2 HF2
  have n42 : ¬ K4 = K2 := by omega
  have n43 : ¬ K4 = K3 := by omega
  have n23 : ¬ K2 = K3 := by omega
  have n32 : ¬ K3 = K2 := by omega
  have n24 : ¬ K2 = K4 := by omega
  have n34 : ¬ K3 = K4 := by omega
  have HK := Lib.hid (And.intro hK2 (And.intro hK3 hK4))
  clear hK2 hK3 hK4
  by_cases h0 : o.kind = 0
  · skip
    have hb0 : (o.kind == 0) = true := by rw [h0]; rfl
    have hpr1 : pr = ((pushR q o.m).1, 0, noI, (pushR q o.m).2) := by rw [HPR.out]; unfold doesR; rw [if_pos h0]
    obtain ⟨pp, hpp⟩ : ∃ pp, pp = pushR q o.m := ⟨_, rfl⟩
    have hc := push_c (w := W) q r o.m HQ.out HF.out HPS.out HM.out HGM.out
    rw [← hpp] at hc hpr1
    subst hpr1
    have HC := Lib.hid hc
    clear hc hpp
    go_wp2_with fail
    refine (HC.out).mono ?_
    rintro e w5 ⟨r', rfl, ho, b5⟩
    clear z0 z1 z2 z3 z4 z5 z6 o0 o1 o2 o3 o4 o5 o6 o7 o8
    have HO := Lib.hid ho
    have B5 := Lib.hid b5
    clear ho b5 HC
    have x0 := HZ4.out w5 B5.out 0 _ rfl
    have x1 := HZ4.out w5 B5.out 1 _ rfl
    have x2 := HZ4.out w5 B5.out 2 _ rfl
    have x3 := HZ4.out w5 B5.out 3 _ rfl
    have x4 := HZ4.out w5 B5.out 4 _ rfl
    have x5 := HZ4.out w5 B5.out 5 _ rfl
    have x6 := HZ4.out w5 B5.out 6 _ rfl
    have y0 := HZ2.out w5 B5.out 0 _ rfl
    have y1 := HZ2.out w5 B5.out 1 _ rfl
    have y2 := HZ2.out w5 B5.out 2 _ rfl
    have y3 := HZ2.out w5 B5.out 3 _ rfl
    have y4 := HZ2.out w5 B5.out 4 _ rfl
    have y5 := HZ2.out w5 B5.out 5 _ rfl
    have y6 := HZ2.out w5 B5.out 6 _ rfl
    have u0 := HZ3.out w5 B5.out 0 _ rfl
    have u1 := HZ3.out w5 B5.out 1 _ rfl
    have u2 := HZ3.out w5 B5.out 2 _ rfl
    have u3 := HZ3.out w5 B5.out 3 _ rfl
    have u4 := HZ3.out w5 B5.out 4 _ rfl
    have u5 := HZ3.out w5 B5.out 5 _ rfl
    have u6 := HZ3.out w5 B5.out 6 _ rfl
    have fx := HF4.out w5 B5.out
    have fy := HF2.out w5 B5.out
    have fu := HF3.out w5 B5.out
    go_upto_region 13 with fail
    obtain ⟨V5, hV5⟩ : ∃ V, V = (((((((w5.setCell ⟨K4, 0, none⟩ (.string pp.1.name)).setCell ⟨K4, 1, none⟩ (.bool pp.1.dur)).setCell ⟨K4, 2, none⟩ (.int .i64 pp.1.depth)).setCell ⟨K4, 3, none⟩ (.int .i64 pp.1.seq)).setCell ⟨K4, 4, none⟩ (.int .i64 pp.1.tag)).setCell ⟨K4, 5, none⟩ (.slice r'.ia r'.is.length r'.ic)).setCell ⟨K4, 6, none⟩ (.slice r'.ha r'.hs.length r'.hc)) := ⟨_, rfl⟩
    rw [← hV5]
    have e4 : V5.heap[K4]? = some (.cells #[.string pp.1.name, .bool pp.1.dur, .int .i64 pp.1.depth, .int .i64 pp.1.seq, .int .i64 pp.1.tag, .slice r'.ia r'.is.length r'.ic, .slice r'.ha r'.hs.length r'.hc] 25 (0, 0)) := by rw [hV5]; exact cells7_at (HR4.out w5 B5.out) _ _ _ _ _ _ _
    have e2 : V5.heap[K2]? = some (.cells #[.string ⟨#[]⟩, .bool false, .int .i64 0, .int .i64 0, .int .i64 0, .slice none 0 0, .slice none 0 0] 25 (0, 0)) := by rw [hV5]; exact set7_ne n24 _ _ _ _ _ _ _ (HR2.out w5 B5.out)
    have e3 : V5.heap[K3]? = some (.cells #[.int .i64 0, .bool false, .string ⟨#[]⟩, .string ⟨#[]⟩, .slice none 0 0, .bool false, .int .i64 0] 44 (0, 0)) := by rw [hV5]; exact set7_ne n34 _ _ _ _ _ _ _ (HR3.out w5 B5.out)
    have HV5 := Lib.hid (HO.out.far (w2 := V5) (by rw [hV5]; exact grown7 w5 K4 _ _ _ _ _ _ _) (by have := HSZ.out; have := HK.out; omega))
    have BV5 : Hid (Below w.heap.size w V5) := Lib.hid (by rw [hV5]; exact below7 (HB.out.trans (Below.mono B5.out HB.out.size)) (by have := HK.out; omega) _ _ _ _ _ _ _)
    have E2 := Lib.hid e2
    have E3 := Lib.hid e3
    clear hV5 fx fy fu x0 x1 x2 x3 x4 x5 x6 y0 y1 y2 y3 y4 y5 y6 u0 u1 u2 u3 u4 u5 u6
    have x0 : V5.cell? ⟨K4, 0, none⟩ = some (.string pp.1.name) := by simp only [World.cell?, e4]; rfl
    have x1 : V5.cell? ⟨K4, 1, none⟩ = some (.bool pp.1.dur) := by simp only [World.cell?, e4]; rfl
    have x2 : V5.cell? ⟨K4, 2, none⟩ = some (.int .i64 pp.1.depth) := by simp only [World.cell?, e4]; rfl
    have x3 : V5.cell? ⟨K4, 3, none⟩ = some (.int .i64 pp.1.seq) := by simp only [World.cell?, e4]; rfl
    have x4 : V5.cell? ⟨K4, 4, none⟩ = some (.int .i64 pp.1.tag) := by simp only [World.cell?, e4]; rfl
    have x5 : V5.cell? ⟨K4, 5, none⟩ = some (.slice r'.ia r'.is.length r'.ic) := by simp only [World.cell?, e4]; rfl
    have x6 : V5.cell? ⟨K4, 6, none⟩ = some (.slice r'.ha r'.hs.length r'.hc) := by simp only [World.cell?, e4]; rfl
    have y0 : V5.cell? ⟨K2, 0, none⟩ = some (.string ⟨#[]⟩) := by simp only [World.cell?, e2]; rfl
    have y1 : V5.cell? ⟨K2, 1, none⟩ = some (.bool false) := by simp only [World.cell?, e2]; rfl
    have y2 : V5.cell? ⟨K2, 2, none⟩ = some (.int .i64 0) := by simp only [World.cell?, e2]; rfl
    have y3 : V5.cell? ⟨K2, 3, none⟩ = some (.int .i64 0) := by simp only [World.cell?, e2]; rfl
    have y4 : V5.cell? ⟨K2, 4, none⟩ = some (.int .i64 0) := by simp only [World.cell?, e2]; rfl
    have y5 : V5.cell? ⟨K2, 5, none⟩ = some (.slice none 0 0) := by simp only [World.cell?, e2]; rfl
    have y6 : V5.cell? ⟨K2, 6, none⟩ = some (.slice none 0 0) := by simp only [World.cell?, e2]; rfl
    have u0 : V5.cell? ⟨K3, 0, none⟩ = some (.int .i64 0) := by simp only [World.cell?, e3]; rfl
    have u1 : V5.cell? ⟨K3, 1, none⟩ = some (.bool false) := by simp only [World.cell?, e3]; rfl
    have u2 : V5.cell? ⟨K3, 2, none⟩ = some (.string ⟨#[]⟩) := by simp only [World.cell?, e3]; rfl
    have u3 : V5.cell? ⟨K3, 3, none⟩ = some (.string ⟨#[]⟩) := by simp only [World.cell?, e3]; rfl
    have u4 : V5.cell? ⟨K3, 4, none⟩ = some (.slice none 0 0) := by simp only [World.cell?, e3]; rfl
    have u5 : V5.cell? ⟨K3, 5, none⟩ = some (.bool false) := by simp only [World.cell?, e3]; rfl
    have u6 : V5.cell? ⟨K3, 6, none⟩ = some (.int .i64 0) := by simp only [World.cell?, e3]; rfl
    have fy : ∀ j, V5.frozen? ⟨K2, j, none⟩ = false := fun j => frozen_of_row _ _ j _ _ e2
    have fu : ∀ j, V5.frozen? ⟨K3, j, none⟩ = false := fun j => frozen_of_row _ _ j _ _ e3
    clear e2 e3 e4
    go_wp2_with fail
    refine take_end (w := V5) (g := K2) (g2 := K3) rfl _ _ _ _ _ _ _ _ _ _ _ _ _ _ E2.out E3.out n23 rfl rfl rfl ?_
    exact ⟨r', ⟨noI, none, 0⟩, rfl, (HV5.out.qin.set (QF.ofOwn HO.out (by have := HSZ.out; have := HK.out; omega)) (grown7 _ K2 _ _ _ _ _ _ _)).set (QF.ofOwn HO.out (by have := HSZ.out; have := HK.out; omega)) (grown7 _ K3 _ _ _ _ _ _ _), rfl, (fun K hK _ => QF.ofOwn HO.out (by have := HSZ.out; omega)), below7 (below7 BV5.out (by have := HK.out; omega) _ _ _ _ _ _ _) (by have := HK.out; omega) _ _ _ _ _ _ _⟩
  · skip
    by_cases h1 : o.kind = 1
    · skip
      have hb0 : (o.kind == 0) = false := by rw [beq_eq_false_iff_ne]; exact h0
      have hb1 : (o.kind == 1) = true := by rw [h1]; rfl
      have hpr1 : pr = takeR q o.conn o.n o.flag := by rw [HPR.out]; unfold doesR; rw [if_neg h0, if_pos h1]
      obtain ⟨pp, hpp⟩ : ∃ pp, pp = takeR q o.conn o.n o.flag := ⟨_, rfl⟩
      have hc := take_c (w := W) q r o.conn o.n o.flag HQ.out HF.out HGM.out
      rw [← hpp] at hc hpr1
      subst hpr1
      have HC := Lib.hid hc
      clear hc hpp
      go_wp2_with fail
      refine (HC.out).mono ?_
      rintro e w5 ⟨r', x', rfl, ho, hx, -, -, b5⟩
      clear z0 z1 z2 z3 z4 z5 z6 o0 o1 o2 o3 o4 o5 o6 o7 o8
      have HO := Lib.hid ho
      have HX := Lib.hid hx
      have B5 := Lib.hid b5
      clear ho hx b5 HC
      have y0 := HZ2.out w5 B5.out 0 _ rfl
      have y1 := HZ2.out w5 B5.out 1 _ rfl
      have y2 := HZ2.out w5 B5.out 2 _ rfl
      have y3 := HZ2.out w5 B5.out 3 _ rfl
      have y4 := HZ2.out w5 B5.out 4 _ rfl
      have y5 := HZ2.out w5 B5.out 5 _ rfl
      have y6 := HZ2.out w5 B5.out 6 _ rfl
      have u0 := HZ3.out w5 B5.out 0 _ rfl
      have u1 := HZ3.out w5 B5.out 1 _ rfl
      have u2 := HZ3.out w5 B5.out 2 _ rfl
      have u3 := HZ3.out w5 B5.out 3 _ rfl
      have u4 := HZ3.out w5 B5.out 4 _ rfl
      have u5 := HZ3.out w5 B5.out 5 _ rfl
      have u6 := HZ3.out w5 B5.out 6 _ rfl
      have fy := HF2.out w5 B5.out
      have fu := HF3.out w5 B5.out
      go_wp2_with fail
      refine take_end (w := w5) (g := K2) (g2 := K3) rfl _ _ _ _ _ _ _ _ _ _ _ _ _ _ (HR2.out _ B5.out) (HR3.out _ B5.out) n23 rfl rfl rfl ?_
      exact ⟨r', x', rfl, (HO.out.qin.set (QF.ofOwn HO.out (by have := HSZ.out; have := HK.out; omega)) (grown7 _ K2 _ _ _ _ _ _ _)).set (QF.ofOwn HO.out (by have := HSZ.out; have := HK.out; omega)) (grown7 _ K3 _ _ _ _ _ _ _), HX.out, (fun K hK _ => QF.ofOwn HO.out (by have := HSZ.out; omega)), below7 (below7 (HB.out.trans (Below.mono B5.out HB.out.size)) (by have := HK.out; omega) _ _ _ _ _ _ _) (by have := HK.out; omega) _ _ _ _ _ _ _⟩
    · skip
      by_cases h2 : o.kind = 2
      · skip
        have hb0 : (o.kind == 0) = false := by rw [beq_eq_false_iff_ne]; exact h0
        have hb1 : (o.kind == 1) = false := by rw [beq_eq_false_iff_ne]; exact h1
        have hb2 : (o.kind == 2) = true := by rw [h2]; rfl
        have hpr1 : pr = ((settleR q o.conn o.n o.flag).1, 0, noI, (settleR q o.conn o.n o.flag).2) := by rw [HPR.out]; unfold doesR; rw [if_neg h0, if_neg h1, if_pos h2]
        obtain ⟨pp, hpp⟩ : ∃ pp, pp = settleR q o.conn o.n o.flag := ⟨_, rfl⟩
        have hc := settle_c (w := W) q r o.conn o.n o.flag HQ.out HF.out HGM.out
        rw [← hpp] at hc hpr1
        subst hpr1
        have HC := Lib.hid hc
        clear hc hpp
        go_wp2_with fail
        refine (HC.out).mono ?_
        rintro e w5 ⟨r', rfl, ho, b5⟩
        clear z0 z1 z2 z3 z4 z5 z6 o0 o1 o2 o3 o4 o5 o6 o7 o8
        have HO := Lib.hid ho
        have B5 := Lib.hid b5
        clear ho b5 HC
        have x0 := HZ4.out w5 B5.out 0 _ rfl
        have x1 := HZ4.out w5 B5.out 1 _ rfl
        have x2 := HZ4.out w5 B5.out 2 _ rfl
        have x3 := HZ4.out w5 B5.out 3 _ rfl
        have x4 := HZ4.out w5 B5.out 4 _ rfl
        have x5 := HZ4.out w5 B5.out 5 _ rfl
        have x6 := HZ4.out w5 B5.out 6 _ rfl
        have y0 := HZ2.out w5 B5.out 0 _ rfl
        have y1 := HZ2.out w5 B5.out 1 _ rfl
        have y2 := HZ2.out w5 B5.out 2 _ rfl
        have y3 := HZ2.out w5 B5.out 3 _ rfl
        have y4 := HZ2.out w5 B5.out 4 _ rfl
        have y5 := HZ2.out w5 B5.out 5 _ rfl
        have y6 := HZ2.out w5 B5.out 6 _ rfl
        have u0 := HZ3.out w5 B5.out 0 _ rfl
        have u1 := HZ3.out w5 B5.out 1 _ rfl
        have u2 := HZ3.out w5 B5.out 2 _ rfl
        have u3 := HZ3.out w5 B5.out 3 _ rfl
        have u4 := HZ3.out w5 B5.out 4 _ rfl
        have u5 := HZ3.out w5 B5.out 5 _ rfl
        have u6 := HZ3.out w5 B5.out 6 _ rfl
        have fx := HF4.out w5 B5.out
        have fy := HF2.out w5 B5.out
        have fu := HF3.out w5 B5.out
        go_upto_region 13 with fail
        obtain ⟨V5, hV5⟩ : ∃ V, V = (((((((w5.setCell ⟨K4, 0, none⟩ (.string pp.1.name)).setCell ⟨K4, 1, none⟩ (.bool pp.1.dur)).setCell ⟨K4, 2, none⟩ (.int .i64 pp.1.depth)).setCell ⟨K4, 3, none⟩ (.int .i64 pp.1.seq)).setCell ⟨K4, 4, none⟩ (.int .i64 pp.1.tag)).setCell ⟨K4, 5, none⟩ (.slice r'.ia r'.is.length r'.ic)).setCell ⟨K4, 6, none⟩ (.slice r'.ha r'.hs.length r'.hc)) := ⟨_, rfl⟩
        rw [← hV5]
        have e4 : V5.heap[K4]? = some (.cells #[.string pp.1.name, .bool pp.1.dur, .int .i64 pp.1.depth, .int .i64 pp.1.seq, .int .i64 pp.1.tag, .slice r'.ia r'.is.length r'.ic, .slice r'.ha r'.hs.length r'.hc] 25 (0, 0)) := by rw [hV5]; exact cells7_at (HR4.out w5 B5.out) _ _ _ _ _ _ _
        have e2 : V5.heap[K2]? = some (.cells #[.string ⟨#[]⟩, .bool false, .int .i64 0, .int .i64 0, .int .i64 0, .slice none 0 0, .slice none 0 0] 25 (0, 0)) := by rw [hV5]; exact set7_ne n24 _ _ _ _ _ _ _ (HR2.out w5 B5.out)
        have e3 : V5.heap[K3]? = some (.cells #[.int .i64 0, .bool false, .string ⟨#[]⟩, .string ⟨#[]⟩, .slice none 0 0, .bool false, .int .i64 0] 44 (0, 0)) := by rw [hV5]; exact set7_ne n34 _ _ _ _ _ _ _ (HR3.out w5 B5.out)
        have HV5 := Lib.hid (HO.out.far (w2 := V5) (by rw [hV5]; exact grown7 w5 K4 _ _ _ _ _ _ _) (by have := HSZ.out; have := HK.out; omega))
        have BV5 : Hid (Below w.heap.size w V5) := Lib.hid (by rw [hV5]; exact below7 (HB.out.trans (Below.mono B5.out HB.out.size)) (by have := HK.out; omega) _ _ _ _ _ _ _)
        have E2 := Lib.hid e2
        have E3 := Lib.hid e3
        clear hV5 fx fy fu x0 x1 x2 x3 x4 x5 x6 y0 y1 y2 y3 y4 y5 y6 u0 u1 u2 u3 u4 u5 u6
        have x0 : V5.cell? ⟨K4, 0, none⟩ = some (.string pp.1.name) := by simp only [World.cell?, e4]; rfl
        have x1 : V5.cell? ⟨K4, 1, none⟩ = some (.bool pp.1.dur) := by simp only [World.cell?, e4]; rfl
        have x2 : V5.cell? ⟨K4, 2, none⟩ = some (.int .i64 pp.1.depth) := by simp only [World.cell?, e4]; rfl
        have x3 : V5.cell? ⟨K4, 3, none⟩ = some (.int .i64 pp.1.seq) := by simp only [World.cell?, e4]; rfl
        have x4 : V5.cell? ⟨K4, 4, none⟩ = some (.int .i64 pp.1.tag) := by simp only [World.cell?, e4]; rfl
        have x5 : V5.cell? ⟨K4, 5, none⟩ = some (.slice r'.ia r'.is.length r'.ic) := by simp only [World.cell?, e4]; rfl
        have x6 : V5.cell? ⟨K4, 6, none⟩ = some (.slice r'.ha r'.hs.length r'.hc) := by simp only [World.cell?, e4]; rfl
        have y0 : V5.cell? ⟨K2, 0, none⟩ = some (.string ⟨#[]⟩) := by simp only [World.cell?, e2]; rfl
        have y1 : V5.cell? ⟨K2, 1, none⟩ = some (.bool false) := by simp only [World.cell?, e2]; rfl
        have y2 : V5.cell? ⟨K2, 2, none⟩ = some (.int .i64 0) := by simp only [World.cell?, e2]; rfl
        have y3 : V5.cell? ⟨K2, 3, none⟩ = some (.int .i64 0) := by simp only [World.cell?, e2]; rfl
        have y4 : V5.cell? ⟨K2, 4, none⟩ = some (.int .i64 0) := by simp only [World.cell?, e2]; rfl
        have y5 : V5.cell? ⟨K2, 5, none⟩ = some (.slice none 0 0) := by simp only [World.cell?, e2]; rfl
        have y6 : V5.cell? ⟨K2, 6, none⟩ = some (.slice none 0 0) := by simp only [World.cell?, e2]; rfl
        have u0 : V5.cell? ⟨K3, 0, none⟩ = some (.int .i64 0) := by simp only [World.cell?, e3]; rfl
        have u1 : V5.cell? ⟨K3, 1, none⟩ = some (.bool false) := by simp only [World.cell?, e3]; rfl
        have u2 : V5.cell? ⟨K3, 2, none⟩ = some (.string ⟨#[]⟩) := by simp only [World.cell?, e3]; rfl
        have u3 : V5.cell? ⟨K3, 3, none⟩ = some (.string ⟨#[]⟩) := by simp only [World.cell?, e3]; rfl
        have u4 : V5.cell? ⟨K3, 4, none⟩ = some (.slice none 0 0) := by simp only [World.cell?, e3]; rfl
        have u5 : V5.cell? ⟨K3, 5, none⟩ = some (.bool false) := by simp only [World.cell?, e3]; rfl
        have u6 : V5.cell? ⟨K3, 6, none⟩ = some (.int .i64 0) := by simp only [World.cell?, e3]; rfl
        have fy : ∀ j, V5.frozen? ⟨K2, j, none⟩ = false := fun j => frozen_of_row _ _ j _ _ e2
        have fu : ∀ j, V5.frozen? ⟨K3, j, none⟩ = false := fun j => frozen_of_row _ _ j _ _ e3
        clear e2 e3 e4
        go_wp2_with fail
        refine take_end (w := V5) (g := K2) (g2 := K3) rfl _ _ _ _ _ _ _ _ _ _ _ _ _ _ E2.out E3.out n23 rfl rfl rfl ?_
        exact ⟨r', ⟨noI, none, 0⟩, rfl, (HV5.out.qin.set (QF.ofOwn HO.out (by have := HSZ.out; have := HK.out; omega)) (grown7 _ K2 _ _ _ _ _ _ _)).set (QF.ofOwn HO.out (by have := HSZ.out; have := HK.out; omega)) (grown7 _ K3 _ _ _ _ _ _ _), rfl, (fun K hK _ => QF.ofOwn HO.out (by have := HSZ.out; omega)), below7 (below7 BV5.out (by have := HK.out; omega) _ _ _ _ _ _ _) (by have := HK.out; omega) _ _ _ _ _ _ _⟩
      · skip
        by_cases h3 : o.kind = 3
        · skip
          have hb0 : (o.kind == 0) = false := by rw [beq_eq_false_iff_ne]; exact h0
          have hb1 : (o.kind == 1) = false := by rw [beq_eq_false_iff_ne]; exact h1
          have hb2 : (o.kind == 2) = false := by rw [beq_eq_false_iff_ne]; exact h2
          have hb3 : (o.kind == 3) = true := by rw [h3]; rfl
          have hpr1 : pr = ((releaseR q o.conn o.n).1, 0, noI, (releaseR q o.conn o.n).2) := by rw [HPR.out]; unfold doesR; rw [if_neg h0, if_neg h1, if_neg h2, if_pos h3]
          obtain ⟨pp, hpp⟩ : ∃ pp, pp = releaseR q o.conn o.n := ⟨_, rfl⟩
          have hc := release_c (w := W) q r o.conn o.n HQ.out HF.out HGM.out
          rw [← hpp] at hc hpr1
          subst hpr1
          have HC := Lib.hid hc
          clear hc hpp
          go_wp2_with fail
          refine (HC.out).mono ?_
          rintro e w5 ⟨r', rfl, ho, b5⟩
          clear z0 z1 z2 z3 z4 z5 z6 o0 o1 o2 o3 o4 o5 o6 o7 o8
          have HO := Lib.hid ho
          have B5 := Lib.hid b5
          clear ho b5 HC
          have x0 := HZ4.out w5 B5.out 0 _ rfl
          have x1 := HZ4.out w5 B5.out 1 _ rfl
          have x2 := HZ4.out w5 B5.out 2 _ rfl
          have x3 := HZ4.out w5 B5.out 3 _ rfl
          have x4 := HZ4.out w5 B5.out 4 _ rfl
          have x5 := HZ4.out w5 B5.out 5 _ rfl
          have x6 := HZ4.out w5 B5.out 6 _ rfl
          have y0 := HZ2.out w5 B5.out 0 _ rfl
          have y1 := HZ2.out w5 B5.out 1 _ rfl
          have y2 := HZ2.out w5 B5.out 2 _ rfl
          have y3 := HZ2.out w5 B5.out 3 _ rfl
          have y4 := HZ2.out w5 B5.out 4 _ rfl
          have y5 := HZ2.out w5 B5.out 5 _ rfl
          have y6 := HZ2.out w5 B5.out 6 _ rfl
          have u0 := HZ3.out w5 B5.out 0 _ rfl
          have u1 := HZ3.out w5 B5.out 1 _ rfl
          have u2 := HZ3.out w5 B5.out 2 _ rfl
          have u3 := HZ3.out w5 B5.out 3 _ rfl
          have u4 := HZ3.out w5 B5.out 4 _ rfl
          have u5 := HZ3.out w5 B5.out 5 _ rfl
          have u6 := HZ3.out w5 B5.out 6 _ rfl
          have fx := HF4.out w5 B5.out
          have fy := HF2.out w5 B5.out
          have fu := HF3.out w5 B5.out
          go_upto_region 13 with fail
          obtain ⟨V5, hV5⟩ : ∃ V, V = (((((((w5.setCell ⟨K4, 0, none⟩ (.string pp.1.name)).setCell ⟨K4, 1, none⟩ (.bool pp.1.dur)).setCell ⟨K4, 2, none⟩ (.int .i64 pp.1.depth)).setCell ⟨K4, 3, none⟩ (.int .i64 pp.1.seq)).setCell ⟨K4, 4, none⟩ (.int .i64 pp.1.tag)).setCell ⟨K4, 5, none⟩ (.slice r'.ia r'.is.length r'.ic)).setCell ⟨K4, 6, none⟩ (.slice r'.ha r'.hs.length r'.hc)) := ⟨_, rfl⟩
          rw [← hV5]
          have e4 : V5.heap[K4]? = some (.cells #[.string pp.1.name, .bool pp.1.dur, .int .i64 pp.1.depth, .int .i64 pp.1.seq, .int .i64 pp.1.tag, .slice r'.ia r'.is.length r'.ic, .slice r'.ha r'.hs.length r'.hc] 25 (0, 0)) := by rw [hV5]; exact cells7_at (HR4.out w5 B5.out) _ _ _ _ _ _ _
          have e2 : V5.heap[K2]? = some (.cells #[.string ⟨#[]⟩, .bool false, .int .i64 0, .int .i64 0, .int .i64 0, .slice none 0 0, .slice none 0 0] 25 (0, 0)) := by rw [hV5]; exact set7_ne n24 _ _ _ _ _ _ _ (HR2.out w5 B5.out)
          have e3 : V5.heap[K3]? = some (.cells #[.int .i64 0, .bool false, .string ⟨#[]⟩, .string ⟨#[]⟩, .slice none 0 0, .bool false, .int .i64 0] 44 (0, 0)) := by rw [hV5]; exact set7_ne n34 _ _ _ _ _ _ _ (HR3.out w5 B5.out)
          have HV5 := Lib.hid (HO.out.far (w2 := V5) (by rw [hV5]; exact grown7 w5 K4 _ _ _ _ _ _ _) (by have := HSZ.out; have := HK.out; omega))
          have BV5 : Hid (Below w.heap.size w V5) := Lib.hid (by rw [hV5]; exact below7 (HB.out.trans (Below.mono B5.out HB.out.size)) (by have := HK.out; omega) _ _ _ _ _ _ _)
          have E2 := Lib.hid e2
          have E3 := Lib.hid e3
          clear hV5 fx fy fu x0 x1 x2 x3 x4 x5 x6 y0 y1 y2 y3 y4 y5 y6 u0 u1 u2 u3 u4 u5 u6
          have x0 : V5.cell? ⟨K4, 0, none⟩ = some (.string pp.1.name) := by simp only [World.cell?, e4]; rfl
          have x1 : V5.cell? ⟨K4, 1, none⟩ = some (.bool pp.1.dur) := by simp only [World.cell?, e4]; rfl
          have x2 : V5.cell? ⟨K4, 2, none⟩ = some (.int .i64 pp.1.depth) := by simp only [World.cell?, e4]; rfl
          have x3 : V5.cell? ⟨K4, 3, none⟩ = some (.int .i64 pp.1.seq) := by simp only [World.cell?, e4]; rfl
          have x4 : V5.cell? ⟨K4, 4, none⟩ = some (.int .i64 pp.1.tag) := by simp only [World.cell?, e4]; rfl
          have x5 : V5.cell? ⟨K4, 5, none⟩ = some (.slice r'.ia r'.is.length r'.ic) := by simp only [World.cell?, e4]; rfl
          have x6 : V5.cell? ⟨K4, 6, none⟩ = some (.slice r'.ha r'.hs.length r'.hc) := by simp only [World.cell?, e4]; rfl
          have y0 : V5.cell? ⟨K2, 0, none⟩ = some (.string ⟨#[]⟩) := by simp only [World.cell?, e2]; rfl
          have y1 : V5.cell? ⟨K2, 1, none⟩ = some (.bool false) := by simp only [World.cell?, e2]; rfl
          have y2 : V5.cell? ⟨K2, 2, none⟩ = some (.int .i64 0) := by simp only [World.cell?, e2]; rfl
          have y3 : V5.cell? ⟨K2, 3, none⟩ = some (.int .i64 0) := by simp only [World.cell?, e2]; rfl
          have y4 : V5.cell? ⟨K2, 4, none⟩ = some (.int .i64 0) := by simp only [World.cell?, e2]; rfl
          have y5 : V5.cell? ⟨K2, 5, none⟩ = some (.slice none 0 0) := by simp only [World.cell?, e2]; rfl
          have y6 : V5.cell? ⟨K2, 6, none⟩ = some (.slice none 0 0) := by simp only [World.cell?, e2]; rfl
          have u0 : V5.cell? ⟨K3, 0, none⟩ = some (.int .i64 0) := by simp only [World.cell?, e3]; rfl
          have u1 : V5.cell? ⟨K3, 1, none⟩ = some (.bool false) := by simp only [World.cell?, e3]; rfl
          have u2 : V5.cell? ⟨K3, 2, none⟩ = some (.string ⟨#[]⟩) := by simp only [World.cell?, e3]; rfl
          have u3 : V5.cell? ⟨K3, 3, none⟩ = some (.string ⟨#[]⟩) := by simp only [World.cell?, e3]; rfl
          have u4 : V5.cell? ⟨K3, 4, none⟩ = some (.slice none 0 0) := by simp only [World.cell?, e3]; rfl
          have u5 : V5.cell? ⟨K3, 5, none⟩ = some (.bool false) := by simp only [World.cell?, e3]; rfl
          have u6 : V5.cell? ⟨K3, 6, none⟩ = some (.int .i64 0) := by simp only [World.cell?, e3]; rfl
          have fy : ∀ j, V5.frozen? ⟨K2, j, none⟩ = false := fun j => frozen_of_row _ _ j _ _ e2
          have fu : ∀ j, V5.frozen? ⟨K3, j, none⟩ = false := fun j => frozen_of_row _ _ j _ _ e3
          clear e2 e3 e4
          go_wp2_with fail
          refine take_end (w := V5) (g := K2) (g2 := K3) rfl _ _ _ _ _ _ _ _ _ _ _ _ _ _ E2.out E3.out n23 rfl rfl rfl ?_
          exact ⟨r', ⟨noI, none, 0⟩, rfl, (HV5.out.qin.set (QF.ofOwn HO.out (by have := HSZ.out; have := HK.out; omega)) (grown7 _ K2 _ _ _ _ _ _ _)).set (QF.ofOwn HO.out (by have := HSZ.out; have := HK.out; omega)) (grown7 _ K3 _ _ _ _ _ _ _), rfl, (fun K hK _ => QF.ofOwn HO.out (by have := HSZ.out; omega)), below7 (below7 BV5.out (by have := HK.out; omega) _ _ _ _ _ _ _) (by have := HK.out; omega) _ _ _ _ _ _ _⟩
        · skip
          by_cases h4 : o.kind = 4
          · skip
            have hb0 : (o.kind == 0) = false := by rw [beq_eq_false_iff_ne]; exact h0
            have hb1 : (o.kind == 1) = false := by rw [beq_eq_false_iff_ne]; exact h1
            have hb2 : (o.kind == 2) = false := by rw [beq_eq_false_iff_ne]; exact h2
            have hb3 : (o.kind == 3) = false := by rw [beq_eq_false_iff_ne]; exact h3
            have hb4 : (o.kind == 4) = true := by rw [h4]; rfl
            have hpr1 : pr = ((expireR q o.n).1, 0, noI, (expireR q o.n).2) := by rw [HPR.out]; unfold doesR; rw [if_neg h0, if_neg h1, if_neg h2, if_neg h3, if_pos h4]
            obtain ⟨pp, hpp⟩ : ∃ pp, pp = expireR q o.n := ⟨_, rfl⟩
            have hc := expire_c (w := W) q r o.n HQ.out HF.out HGM.out
            rw [← hpp] at hc hpr1
            subst hpr1
            have HC := Lib.hid hc
            clear hc hpp
            go_wp2_with fail
            refine (HC.out).mono ?_
            rintro e w5 ⟨r', rfl, ho, b5⟩
            clear z0 z1 z2 z3 z4 z5 z6 o0 o1 o2 o3 o4 o5 o6 o7 o8
            have HO := Lib.hid ho
            have B5 := Lib.hid b5
            clear ho b5 HC
            have x0 := HZ4.out w5 B5.out 0 _ rfl
            have x1 := HZ4.out w5 B5.out 1 _ rfl
            have x2 := HZ4.out w5 B5.out 2 _ rfl
            have x3 := HZ4.out w5 B5.out 3 _ rfl
            have x4 := HZ4.out w5 B5.out 4 _ rfl
            have x5 := HZ4.out w5 B5.out 5 _ rfl
            have x6 := HZ4.out w5 B5.out 6 _ rfl
            have y0 := HZ2.out w5 B5.out 0 _ rfl
            have y1 := HZ2.out w5 B5.out 1 _ rfl
            have y2 := HZ2.out w5 B5.out 2 _ rfl
            have y3 := HZ2.out w5 B5.out 3 _ rfl
            have y4 := HZ2.out w5 B5.out 4 _ rfl
            have y5 := HZ2.out w5 B5.out 5 _ rfl
            have y6 := HZ2.out w5 B5.out 6 _ rfl
            have u0 := HZ3.out w5 B5.out 0 _ rfl
            have u1 := HZ3.out w5 B5.out 1 _ rfl
            have u2 := HZ3.out w5 B5.out 2 _ rfl
            have u3 := HZ3.out w5 B5.out 3 _ rfl
            have u4 := HZ3.out w5 B5.out 4 _ rfl
            have u5 := HZ3.out w5 B5.out 5 _ rfl
            have u6 := HZ3.out w5 B5.out 6 _ rfl
            have fx := HF4.out w5 B5.out
            have fy := HF2.out w5 B5.out
            have fu := HF3.out w5 B5.out
            go_upto_region 13 with fail
            obtain ⟨V5, hV5⟩ : ∃ V, V = (((((((w5.setCell ⟨K4, 0, none⟩ (.string pp.1.name)).setCell ⟨K4, 1, none⟩ (.bool pp.1.dur)).setCell ⟨K4, 2, none⟩ (.int .i64 pp.1.depth)).setCell ⟨K4, 3, none⟩ (.int .i64 pp.1.seq)).setCell ⟨K4, 4, none⟩ (.int .i64 pp.1.tag)).setCell ⟨K4, 5, none⟩ (.slice r'.ia r'.is.length r'.ic)).setCell ⟨K4, 6, none⟩ (.slice r'.ha r'.hs.length r'.hc)) := ⟨_, rfl⟩
            rw [← hV5]
            have e4 : V5.heap[K4]? = some (.cells #[.string pp.1.name, .bool pp.1.dur, .int .i64 pp.1.depth, .int .i64 pp.1.seq, .int .i64 pp.1.tag, .slice r'.ia r'.is.length r'.ic, .slice r'.ha r'.hs.length r'.hc] 25 (0, 0)) := by rw [hV5]; exact cells7_at (HR4.out w5 B5.out) _ _ _ _ _ _ _
            have e2 : V5.heap[K2]? = some (.cells #[.string ⟨#[]⟩, .bool false, .int .i64 0, .int .i64 0, .int .i64 0, .slice none 0 0, .slice none 0 0] 25 (0, 0)) := by rw [hV5]; exact set7_ne n24 _ _ _ _ _ _ _ (HR2.out w5 B5.out)
            have e3 : V5.heap[K3]? = some (.cells #[.int .i64 0, .bool false, .string ⟨#[]⟩, .string ⟨#[]⟩, .slice none 0 0, .bool false, .int .i64 0] 44 (0, 0)) := by rw [hV5]; exact set7_ne n34 _ _ _ _ _ _ _ (HR3.out w5 B5.out)
            have HV5 := Lib.hid (HO.out.far (w2 := V5) (by rw [hV5]; exact grown7 w5 K4 _ _ _ _ _ _ _) (by have := HSZ.out; have := HK.out; omega))
            have BV5 : Hid (Below w.heap.size w V5) := Lib.hid (by rw [hV5]; exact below7 (HB.out.trans (Below.mono B5.out HB.out.size)) (by have := HK.out; omega) _ _ _ _ _ _ _)
            have E2 := Lib.hid e2
            have E3 := Lib.hid e3
            clear hV5 fx fy fu x0 x1 x2 x3 x4 x5 x6 y0 y1 y2 y3 y4 y5 y6 u0 u1 u2 u3 u4 u5 u6
            have x0 : V5.cell? ⟨K4, 0, none⟩ = some (.string pp.1.name) := by simp only [World.cell?, e4]; rfl
            have x1 : V5.cell? ⟨K4, 1, none⟩ = some (.bool pp.1.dur) := by simp only [World.cell?, e4]; rfl
            have x2 : V5.cell? ⟨K4, 2, none⟩ = some (.int .i64 pp.1.depth) := by simp only [World.cell?, e4]; rfl
            have x3 : V5.cell? ⟨K4, 3, none⟩ = some (.int .i64 pp.1.seq) := by simp only [World.cell?, e4]; rfl
            have x4 : V5.cell? ⟨K4, 4, none⟩ = some (.int .i64 pp.1.tag) := by simp only [World.cell?, e4]; rfl
            have x5 : V5.cell? ⟨K4, 5, none⟩ = some (.slice r'.ia r'.is.length r'.ic) := by simp only [World.cell?, e4]; rfl
            have x6 : V5.cell? ⟨K4, 6, none⟩ = some (.slice r'.ha r'.hs.length r'.hc) := by simp only [World.cell?, e4]; rfl
            have y0 : V5.cell? ⟨K2, 0, none⟩ = some (.string ⟨#[]⟩) := by simp only [World.cell?, e2]; rfl
            have y1 : V5.cell? ⟨K2, 1, none⟩ = some (.bool false) := by simp only [World.cell?, e2]; rfl
            have y2 : V5.cell? ⟨K2, 2, none⟩ = some (.int .i64 0) := by simp only [World.cell?, e2]; rfl
            have y3 : V5.cell? ⟨K2, 3, none⟩ = some (.int .i64 0) := by simp only [World.cell?, e2]; rfl
            have y4 : V5.cell? ⟨K2, 4, none⟩ = some (.int .i64 0) := by simp only [World.cell?, e2]; rfl
            have y5 : V5.cell? ⟨K2, 5, none⟩ = some (.slice none 0 0) := by simp only [World.cell?, e2]; rfl
            have y6 : V5.cell? ⟨K2, 6, none⟩ = some (.slice none 0 0) := by simp only [World.cell?, e2]; rfl
            have u0 : V5.cell? ⟨K3, 0, none⟩ = some (.int .i64 0) := by simp only [World.cell?, e3]; rfl
            have u1 : V5.cell? ⟨K3, 1, none⟩ = some (.bool false) := by simp only [World.cell?, e3]; rfl
            have u2 : V5.cell? ⟨K3, 2, none⟩ = some (.string ⟨#[]⟩) := by simp only [World.cell?, e3]; rfl
            have u3 : V5.cell? ⟨K3, 3, none⟩ = some (.string ⟨#[]⟩) := by simp only [World.cell?, e3]; rfl
            have u4 : V5.cell? ⟨K3, 4, none⟩ = some (.slice none 0 0) := by simp only [World.cell?, e3]; rfl
            have u5 : V5.cell? ⟨K3, 5, none⟩ = some (.bool false) := by simp only [World.cell?, e3]; rfl
            have u6 : V5.cell? ⟨K3, 6, none⟩ = some (.int .i64 0) := by simp only [World.cell?, e3]; rfl
            have fy : ∀ j, V5.frozen? ⟨K2, j, none⟩ = false := fun j => frozen_of_row _ _ j _ _ e2
            have fu : ∀ j, V5.frozen? ⟨K3, j, none⟩ = false := fun j => frozen_of_row _ _ j _ _ e3
            clear e2 e3 e4
            go_wp2_with fail
            refine take_end (w := V5) (g := K2) (g2 := K3) rfl _ _ _ _ _ _ _ _ _ _ _ _ _ _ E2.out E3.out n23 rfl rfl rfl ?_
            exact ⟨r', ⟨noI, none, 0⟩, rfl, (HV5.out.qin.set (QF.ofOwn HO.out (by have := HSZ.out; have := HK.out; omega)) (grown7 _ K2 _ _ _ _ _ _ _)).set (QF.ofOwn HO.out (by have := HSZ.out; have := HK.out; omega)) (grown7 _ K3 _ _ _ _ _ _ _), rfl, (fun K hK _ => QF.ofOwn HO.out (by have := HSZ.out; omega)), below7 (below7 BV5.out (by have := HK.out; omega) _ _ _ _ _ _ _) (by have := HK.out; omega) _ _ _ _ _ _ _⟩
          · skip
            have hb0 : (o.kind == 0) = false := by rw [beq_eq_false_iff_ne]; exact h0
            have hb1 : (o.kind == 1) = false := by rw [beq_eq_false_iff_ne]; exact h1
            have hb2 : (o.kind == 2) = false := by rw [beq_eq_false_iff_ne]; exact h2
            have hb3 : (o.kind == 3) = false := by rw [beq_eq_false_iff_ne]; exact h3
            have hb4 : (o.kind == 4) = false := by rw [beq_eq_false_iff_ne]; exact h4
            have hpr1 : pr = (q, 0, noI, 0) := by rw [HPR.out]; unfold doesR; rw [if_neg h0, if_neg h1, if_neg h2, if_neg h3, if_neg h4]
            subst hpr1
            have B5 : Hid (Below W.heap.size W W) := Lib.hid (Below.refl _ _)
            have x0 := HZ4.out W B5.out 0 _ rfl
            have x1 := HZ4.out W B5.out 1 _ rfl
            have x2 := HZ4.out W B5.out 2 _ rfl
            have x3 := HZ4.out W B5.out 3 _ rfl
            have x4 := HZ4.out W B5.out 4 _ rfl
            have x5 := HZ4.out W B5.out 5 _ rfl
            have x6 := HZ4.out W B5.out 6 _ rfl
            have y0 := HZ2.out W B5.out 0 _ rfl
            have y1 := HZ2.out W B5.out 1 _ rfl
            have y2 := HZ2.out W B5.out 2 _ rfl
            have y3 := HZ2.out W B5.out 3 _ rfl
            have y4 := HZ2.out W B5.out 4 _ rfl
            have y5 := HZ2.out W B5.out 5 _ rfl
            have y6 := HZ2.out W B5.out 6 _ rfl
            have u0 := HZ3.out W B5.out 0 _ rfl
            have u1 := HZ3.out W B5.out 1 _ rfl
            have u2 := HZ3.out W B5.out 2 _ rfl
            have u3 := HZ3.out W B5.out 3 _ rfl
            have u4 := HZ3.out W B5.out 4 _ rfl
            have u5 := HZ3.out W B5.out 5 _ rfl
            have u6 := HZ3.out W B5.out 6 _ rfl
            have fx := HF4.out W B5.out
            have fy := HF2.out W B5.out
            have fu := HF3.out W B5.out
            go_wp2_with fail
            refine take_end (w := W) (g := K2) (g2 := K3) rfl _ _ _ _ _ _ _ _ _ _ _ _ _ _ (HR2.out _ B5.out) (HR3.out _ B5.out) n23 rfl rfl rfl ?_
            exact ⟨r, ⟨noI, none, 0⟩, rfl, (HQ.out.set (QF.ofIn HQ0.out (by have := HK.out; omega)) (grown7 _ K2 _ _ _ _ _ _ _)).set (QF.ofIn HQ0.out (by have := HK.out; omega)) (grown7 _ K3 _ _ _ _ _ _ _), rfl, (fun K _ h => h), below7 (below7 (HB.out.trans (Below.mono B5.out HB.out.size)) (by have := HK.out; omega) _ _ _ _ _ _ _) (by have := HK.out; omega) _ _ _ _ _ _ _⟩
theorem does_step {w : World} (q : Que) (r : QuR) (o : OpP) {A : Option Addr} {c : Nat} (hq : QuIn w q r) (hf : q.fit) (hp : RPr w (.slice A o.m.ps.length c) o.m.ps) (hm : o.m.fit) (hg : GM w) (hgd : goodQ q = true) :
    ∃ (px : Que) (pt : Int) (pe : Int), Nxt q px pe ∧ Calls Tryd.prog 24 #[.agg #[.string q.name, .bool q.dur, .int .i64 q.depth, .int .i64 q.seq, .int .i64 q.tag, .slice r.ia r.is.length r.ic, .slice r.ha r.hs.length r.hc], .agg #[.int .i64 o.kind, .int .i64 o.conn, .int .i64 o.n, .bool o.flag, .string o.m.top, .string o.m.body, .slice A o.m.ps.length c, .bool o.m.dur, .int .i64 o.m.unt]] w fun e w' => ∃ (r' : QuR) (x' : ItR), e = .returned (.tuple #[.agg #[.string px.name, .bool px.dur, .int .i64 px.depth, .int .i64 px.seq, .int .i64 px.tag, .slice r'.ia r'.is.length r'.ic, .slice r'.ha r'.hs.length r'.hc], .int .i64 pt, .agg #[.int .i64 x'.it.seq, .bool x'.it.again, .string x'.it.m.top, .string x'.it.m.body, .slice x'.pa x'.it.m.ps.length x'.pc, .bool x'.it.m.dur, .int .i64 x'.it.m.unt], .int .i64 pe]) ∧ QuIn w' px r' ∧ (∀ K, K < w.heap.size → QF K r → QF K r') ∧ Below w.heap.size w w' :=
  ⟨_, _, _, nxt_does hgd hf o hm, (does_c q r o hq hf hp hm hg).mono fun e w' ⟨r', x', h1, h2, _, h4, h5⟩ => ⟨r', x', h1, h2, h4, h5⟩⟩
end Go.Proofs.YtelhpdnclmpgoaaDoor
