/- Layer 10: Copy. -/
import Derived.Test.YtelhpdnclmpgoaaDoorQdA
import Derived.Deep.RegionWith
import Derived.Deep.RegionHeld3
namespace Go.Proofs.YtelhpdnclmpgoaaDoor
open Go Go.RowKit Go.Sort
open Go.ChangeShapes Go.WideShapes Go.Deep
set_option linter.unusedSimpArgs false
set_option linter.unusedVariables false

/-- A queue's rows are the call's own, apart from what hangs on them. -/
structure OwnQ (w : World) (base : Nat) (q : Que) (r : QuR) : Prop where
  io : w.ownsRow base 44 7 (.slice r.ia r.is.length r.ic) r.is.length (r.is.flatMap ItR.cells)
  ho : w.ownsRow base 46 10 (.slice r.ha r.hs.length r.hc) r.hs.length (r.hs.flatMap HlR.cells)
  ik : ∀ x ∈ r.is, x.ok w ∧ ∀ a, x.pa = some a → base ≤ a.block ∧ (Value.slice r.ia r.is.length r.ic).ownBlock ≠ some a.block ∧ (Value.slice r.ha r.hs.length r.hc).ownBlock ≠ some a.block
  hk : ∀ x ∈ r.hs, x.r.ok w ∧ ∀ a, x.r.pa = some a → base ≤ a.block ∧ (Value.slice r.ia r.is.length r.ic).ownBlock ≠ some a.block ∧ (Value.slice r.ha r.hs.length r.hc).ownBlock ≠ some a.block
  ip : r.is.map ItR.it = q.items
  hp : r.hs.map HlR.pl = q.held
theorem OwnQ.qin {w : World} {base : Nat} {q : Que} {r : QuR} (h : OwnQ w base q r) : QuIn w q r :=
  ⟨⟨own_rc h.io, fun x hx => (h.ik x hx).1⟩, ⟨own_rc h.ho, fun x hx => (h.hk x hx).1⟩, h.ip, h.hp⟩
theorem frozen_below {w w1 : World} {B k : Nat} (b : Below B w w1) (hk : k < B) (j : Nat) (h : w.frozen? ⟨k, j, none⟩ = false) : w1.frozen? ⟨k, j, none⟩ = false := by
  have e := b.block k hk
  simp only [World.frozen?, e] at h ⊢
  exact h
theorem cells_oneI (l : List ItR) : ∀ y ∈ l.flatMap ItR.cells, y.oneCell' = true := by
  intro y hy
  obtain ⟨p, _, hv⟩ := List.mem_flatMap.1 hy
  simp only [ItR.cells, List.mem_cons, List.not_mem_nil, or_false] at hv
  rcases hv with rfl | rfl | rfl | rfl | rfl | rfl | rfl <;> rfl
theorem cells_oneH (l : List HlR) : ∀ y ∈ l.flatMap HlR.cells, y.oneCell' = true := by
  intro y hy
  obtain ⟨p, _, hv⟩ := List.mem_flatMap.1 hy
  simp only [HlR.cells, List.mem_cons, List.not_mem_nil, or_false] at hv
  rcases hv with rfl | rfl | rfl | rfl | rfl | rfl | rfl | rfl | rfl | rfl <;> rfl

/-- Behind the clones: K holds the queue with its new rows. -/
structure Cloned (W wx : World) (K : Nat) (q : Que) (r : QuR) (A1 : Option Addr) (c1 : Nat) (A2 : Option Addr) (c2 : Nat) : Prop where
  row : wx.heap[K]? = some (.cells #[.string q.name, .bool q.dur, .int .i64 q.depth, .int .i64 q.seq, .int .i64 q.tag, .slice A1 r.is.length c1, .slice A2 r.hs.length c2] 25 (0, 0))
  io : wx.ownsRow W.heap.size 44 7 (.slice A1 r.is.length c1) r.is.length (r.is.flatMap ItR.cells)
  ho : wx.ownsRow W.heap.size 46 10 (.slice A2 r.hs.length c2) r.hs.length (r.hs.flatMap HlR.cells)
  gr : W.grownBy wx (some K)
theorem cells7_two {w : World} {g : Nat} {t : TypeId} {c0 c1 c2 c3 c4 c5 c6 : Value} {fr : Nat × Nat} (h : w.heap[g]? = some (.cells #[c0, c1, c2, c3, c4, c5, c6] t fr)) (a b : Value) : ((w.setCell ⟨g, 5, none⟩ a).setCell ⟨g, 6, none⟩ b).heap[g]? = some (.cells #[c0, c1, c2, c3, c4, a, b] t fr) := by
  simp [World.setCell, Array.getElem?_modify, h]
theorem cloned_of {W w1 w2 : World} {K : Nat} {q : Que} {r : QuR} {A1 A2 : Option Addr} {c1 c2 : Nat} (hK : K < W.heap.size) (h0 : W.heap[K]? = some (.cells #[.string q.name, .bool q.dur, .int .i64 q.depth, .int .i64 q.seq, .int .i64 q.tag, .slice r.ia r.is.length r.ic, .slice r.ha r.hs.length r.hc] 25 (0, 0)))
    (o1 : w1.ownsRow W.drew.heap.size 44 7 (.slice A1 r.is.length c1) r.is.length (r.is.flatMap ItR.cells)) (b1 : Below W.drew.heap.size W.drew w1)
    (o2 : w2.ownsRow w1.heap.size 46 10 (.slice A2 r.hs.length c2) r.hs.length (r.hs.flatMap HlR.cells)) (b2 : Below w1.heap.size w1 w2) :
    Cloned W ((w2.setCell ⟨K, 5, none⟩ (.slice A1 r.is.length c1)).setCell ⟨K, 6, none⟩ (.slice A2 r.hs.length c2)) K q r A1 c1 A2 c2 := by
  have B1 : Below W.heap.size W w1 := (Below.refl _ W).drew.trans (b1.mono (Nat.le_refl _))
  have B2 : Below W.heap.size W w2 := B1.trans (b2.mono B1.size)
  have e1 : W.drew.heap.size = W.heap.size := rfl
  have hs1 : W.heap.size ≤ w1.heap.size := B1.size
  refine ⟨cells7_two ((B2.block K hK).trans h0) _ _, ?_, ?_, grownBy_trans (grownBy_trans (grownBy_below B2 _) (grownBy_set _ _ _ _)) (grownBy_set _ _ _ _)⟩
  · have o := own_below o1 b2
    rw [e1] at o
    exact own_other (own_other o (grownBy_set _ _ _ _) (fun k hk e => by have h := own_base o k hk; injection e with e; omega)) (grownBy_set _ _ _ _) (fun k hk e => by have h := own_base o k hk; injection e with e; omega)
  · have o := own_lower o2 hs1
    exact own_other (own_other o (grownBy_set _ _ _ _) (fun k hk e => by have h := own_base o k hk; injection e with e; omega)) (grownBy_set _ _ _ _) (fun k hk e => by have h := own_base o k hk; injection e with e; omega)

/-- The first loop: k items have their own properties. -/
structure CpI (w W wx : World) (S : Nat) (q : Que) (r : QuR) (A1 : Option Addr) (c1 : Nat) (A2 : Option Addr) (c2 : Nat) (k : Nat) (ns : List ItR) : Prop where
  len : ns.length = k
  mp : ns.map ItR.it = (r.is.take k).map ItR.it
  io : wx.ownsRow W.heap.size 44 7 (.slice A1 r.is.length c1) r.is.length ((ns ++ r.is.drop k).flatMap ItR.cells)
  ho : wx.ownsRow W.heap.size 46 10 (.slice A2 r.hs.length c2) r.hs.length (r.hs.flatMap HlR.cells)
  row : wx.heap[w.heap.size]? = some (.cells #[.string q.name, .bool q.dur, .int .i64 q.depth, .int .i64 q.seq, .int .i64 q.tag, .slice A1 r.is.length c1, .slice A2 r.hs.length c2] 25 (0, 0))
  res : wx.heap[w.heap.size + 1]? = some (.cells #[.string ⟨#[]⟩, .bool false, .int .i64 0, .int .i64 0, .int .i64 0, .slice none 0 0, .slice none 0 0] 25 (0, 0))
  nk : ∀ x ∈ ns, x.ok wx ∧ ∀ a, x.pa = some a → S ≤ a.block
  bel : Below w.heap.size w wx
  sz : S ≤ wx.heap.size
  ib : ∀ g, (Value.slice A1 r.is.length c1).ownBlock = some g → g < S
  hb : ∀ g, (Value.slice A2 r.hs.length c2).ownBlock = some g → g < S
theorem own_tyne {w : World} {B B' e e' s s' n n' : Nat} {v v' : Value} {xs xs' : List Value} (h : w.ownsRow B e s v n xs) (h' : w.ownsRow B' e' s' v' n' xs') (ht : e ≠ e') : ∀ k, v.ownBlock = some k → v'.ownBlock ≠ some k := by
  intro k hk hk'
  rcases h.2 with ⟨rfl, _⟩ | ⟨g, cap, cur, rfl, _, hg, _⟩
  · cases hk
  · rcases h'.2 with ⟨rfl, _⟩ | ⟨g', cap', cur', rfl, _, hg', _⟩
    · cases hk'
    · injection hk with hk
      injection hk' with hk'
      have e1 : g = k := hk
      have e2 : g' = k := hk'
      subst e1 e2
      rw [hg] at hg'
      injection hg' with hg'
      injection hg' with _ h2 _
      exact ht h2
theorem setI_flat (l : List ItR) (k : Nat) (x y : ItR) (hx : l[k]? = some x) (hs : y.it.seq = x.it.seq) (ha : y.it.again = x.it.again) :
    (((((l.flatMap ItR.cells).set (k * 7 + 2) (.string y.it.m.top)).set (k * 7 + 3) (.string y.it.m.body)).set (k * 7 + 4) (.slice y.pa y.it.m.ps.length y.pc)).set (k * 7 + 5) (.bool y.it.m.dur)).set (k * 7 + 6) (.int .i64 y.it.m.unt) = (l.set k y).flatMap ItR.cells := by
  have hk := (List.getElem?_eq_some_iff.1 hx).1
  have hl : (l.flatMap ItR.cells).length = l.length * 7 := by rw [flat_len ItR.cells 7 (fun _ => rfl)]
  refine List.ext_getElem? fun q => ?_
  rw [flat_get ItR.cells 7 (by omega) (fun _ => rfl)]
  simp only [List.getElem?_set, List.length_set, hl]
  by_cases hq : q / 7 = k
  · have h7 : q % 7 < 7 := Nat.mod_lt _ (by omega)
    have hqe : q = k * 7 + q % 7 := by omega
    rw [if_pos hq.symm, if_pos hk]
    rcases (show q % 7 = 0 ∨ q % 7 = 1 ∨ q % 7 = 2 ∨ q % 7 = 3 ∨ q % 7 = 4 ∨ q % 7 = 5 ∨ q % 7 = 6 by omega) with h | h | h | h | h | h | h
    · rw [if_neg (by omega), if_neg (by omega), if_neg (by omega), if_neg (by omega), if_neg (by omega), flat_get ItR.cells 7 (by omega) (fun _ => rfl), hq, hx, h]
      simp [ItR.cells, hs]
    · rw [if_neg (by omega), if_neg (by omega), if_neg (by omega), if_neg (by omega), if_neg (by omega), flat_get ItR.cells 7 (by omega) (fun _ => rfl), hq, hx, h]
      simp [ItR.cells, ha]
    all_goals (rw [h] at hqe ⊢; subst hqe; simp [ItR.cells]; omega)
  · rw [if_neg (by omega), if_neg (by omega), if_neg (by omega), if_neg (by omega), if_neg (by omega), if_neg (fun e => hq e.symm), flat_get ItR.cells 7 (by omega) (fun _ => rfl)]

theorem setH_flat (l : List HlR) (k : Nat) (x y : HlR) (hx : l[k]? = some x) (h0 : y.tag = x.tag) (h1 : y.conn = x.conn) (h2 : y.sub = x.sub) (hs : y.r.it.seq = x.r.it.seq) (ha : y.r.it.again = x.r.it.again) :
    (((((l.flatMap HlR.cells).set (k * 10 + 5) (.string y.r.it.m.top)).set (k * 10 + 6) (.string y.r.it.m.body)).set (k * 10 + 7) (.slice y.r.pa y.r.it.m.ps.length y.r.pc)).set (k * 10 + 8) (.bool y.r.it.m.dur)).set (k * 10 + 9) (.int .i64 y.r.it.m.unt) = (l.set k y).flatMap HlR.cells := by
  have hk := (List.getElem?_eq_some_iff.1 hx).1
  have hl : (l.flatMap HlR.cells).length = l.length * 10 := by rw [flat_len HlR.cells 10 (fun _ => rfl)]
  refine List.ext_getElem? fun q => ?_
  rw [flat_get HlR.cells 10 (by omega) (fun _ => rfl)]
  simp only [List.getElem?_set, List.length_set, hl]
  by_cases hq : q / 10 = k
  · have h7 : q % 10 < 10 := Nat.mod_lt _ (by omega)
    have hqe : q = k * 10 + q % 10 := by omega
    rw [if_pos hq.symm, if_pos hk]
    rcases (show q % 10 = 0 ∨ q % 10 = 1 ∨ q % 10 = 2 ∨ q % 10 = 3 ∨ q % 10 = 4 ∨ q % 10 = 5 ∨ q % 10 = 6 ∨ q % 10 = 7 ∨ q % 10 = 8 ∨ q % 10 = 9 by omega) with h | h | h | h | h | h | h | h | h | h
    · rw [if_neg (by omega), if_neg (by omega), if_neg (by omega), if_neg (by omega), if_neg (by omega), flat_get HlR.cells 10 (by omega) (fun _ => rfl), hq, hx, h]
      simp [HlR.cells, h0]
    · rw [if_neg (by omega), if_neg (by omega), if_neg (by omega), if_neg (by omega), if_neg (by omega), flat_get HlR.cells 10 (by omega) (fun _ => rfl), hq, hx, h]
      simp [HlR.cells, h1]
    · rw [if_neg (by omega), if_neg (by omega), if_neg (by omega), if_neg (by omega), if_neg (by omega), flat_get HlR.cells 10 (by omega) (fun _ => rfl), hq, hx, h]
      simp [HlR.cells, h2]
    · rw [if_neg (by omega), if_neg (by omega), if_neg (by omega), if_neg (by omega), if_neg (by omega), flat_get HlR.cells 10 (by omega) (fun _ => rfl), hq, hx, h]
      simp [HlR.cells, hs]
    · rw [if_neg (by omega), if_neg (by omega), if_neg (by omega), if_neg (by omega), if_neg (by omega), flat_get HlR.cells 10 (by omega) (fun _ => rfl), hq, hx, h]
      simp [HlR.cells, ha]
    all_goals (rw [h] at hqe ⊢; subst hqe; simp [HlR.cells]; omega)
  · rw [if_neg (by omega), if_neg (by omega), if_neg (by omega), if_neg (by omega), if_neg (by omega), if_neg (fun e => hq e.symm), flat_get HlR.cells 10 (by omega) (fun _ => rfl)]

theorem own_cell {X : Type} {f : X → List Value} {s : Nat} (hs : 0 < s) (hf : ∀ x, (f x).length = s) {w : World} {B e n g c : Nat} {l : List X} (h : w.ownsRow B e s (.slice (some ⟨g, 0, none⟩) n c) n (l.flatMap f)) {k : Nat} {x : X} (hx : l[k]? = some x) (j : Nat) (u : Value) (hu : (f x)[j]? = some u) : w.cell? ⟨g, k * s + j, none⟩ = some u := by
  obtain ⟨_, _, he, _, _, _, _, h5⟩ := own_rc h
  injection he with he _ _
  have hj : j < s := by have := (List.getElem?_eq_some_iff.1 hu).1; rw [hf] at this; exact this
  have e1 : (k * s + j) / s = k := by rw [Nat.mul_comm, Nat.mul_add_div hs, Nat.div_eq_of_lt hj, Nat.add_zero]
  have e2 : (k * s + j) % s = j := by rw [Nat.mul_comm, Nat.mul_add_mod, Nat.mod_eq_of_lt hj]
  obtain ⟨a, ha, hc⟩ := h5 (k * s + j) u (by rw [flat_get f s hs hf, e1, e2, hx]; exact hu)
  rw [← he] at ha
  injection ha with ha
  subst ha
  rw [add_plain] at hc
  exact hc
theorem ok_set {w : World} {x : ItR} (h : x.ok w) (g j : Nat) (u : Value) (hne : ∀ a, x.pa = some a → a.block ≠ g) : x.ok (w.setCell ⟨g, j, none⟩ u) :=
  rc_setCell h g j u (fun A n c he => by injection he with he _ _; exact hne A he)
theorem own_set' {w : World} {B e s n g cap : Nat} {xs : List Value} (h : w.ownsRow B e s (.slice (some ⟨g, 0, none⟩) n cap) n xs) (j : Nat) (u : Value) (hj : j < xs.length) : (w.setCell ⟨g, j, none⟩ u).ownsRow B e s (.slice (some ⟨g, 0, none⟩) n cap) n (xs.set j u) := by
  obtain ⟨h1, h2⟩ := h
  rcases h2 with ⟨h2, _⟩ | ⟨g', cap', cur, he, hb, hh, hn, hc, hs, ht⟩
  · cases h2
  · injection he with e1 e2 e3
    injection e1 with e1
    injection e1 with e1 _ _
    subst e1 e3
    refine ⟨by rw [List.length_set]; exact h1, .inr ⟨g, cap, cur.setIfInBounds j u, rfl, hb, ?_, hn, hc, by simpa using hs, ?_⟩⟩
    · simp [World.setCell, Array.getElem?_modify, hh]
    · rw [Array.toList_setIfInBounds, ← ht, List.take_set]
theorem own_frz {w : World} {B e s n g cap : Nat} {xs : List Value} (h : w.ownsRow B e s (.slice (some ⟨g, 0, none⟩) n cap) n xs) (j : Nat) : w.frozen? ⟨g, j, none⟩ = false := by
  rcases h.2 with ⟨h2, _⟩ | ⟨g', cap', cur, he, hb, hh, hn, hc, hs, ht⟩
  · cases h2
  · injection he with e1 e2 e3
    injection e1 with e1
    injection e1 with e1 _ _
    subst e1
    exact frozen_of_row _ _ j _ _ hh
theorem heap_set {w : World} {g k : Nat} {o : Option Obj} (hk : k ≠ g) (j : Nat) (u : Value) (h : w.heap[k]? = o) : (w.setCell ⟨g, j, none⟩ u).heap[k]? = o := by
  rw [← h]
  exact Below.heap_setCell w ⟨g, j, none⟩ u k hk
theorem cpI_step {w W wx w5 : World} {S : Nat} {q : Que} {r : QuR} {c1 : Nat} {A2 : Option Addr} {c2 k g : Nat} {ns : List ItR} (h : CpI w W wx S q r (some ⟨g, 0, none⟩) c1 A2 c2 k ns) (hWS : W.heap.size ≤ S) (hw2 : w.heap.size + 2 ≤ W.heap.size) {x : ItR} (hx : r.is[k]? = some x)
    (b5 : Below wx.heap.size wx w5) {A' : Option Addr} {c' : Nat} (r5 : RPr w5 (.slice A' x.it.m.ps.length c') x.it.m.ps) (hb5 : ∀ a, A' = some a → wx.heap.size ≤ a.block) :
    CpI w W (((((w5.setCell ⟨g, k * 7 + 2, none⟩ (.string x.it.m.top)).setCell ⟨g, k * 7 + 3, none⟩ (.string x.it.m.body)).setCell ⟨g, k * 7 + 4, none⟩ (.slice A' x.it.m.ps.length c')).setCell ⟨g, k * 7 + 5, none⟩ (.bool x.it.m.dur)).setCell ⟨g, k * 7 + 6, none⟩ (.int .i64 x.it.m.unt)) S q r (some ⟨g, 0, none⟩) c1 A2 c2 (k + 1) (ns ++ [⟨x.it, A', c'⟩]) := by
  obtain ⟨h1, h2, h3, h4, h5, h6, h7, h8, h9, h10, h11⟩ := h
  have hkl := (List.getElem?_eq_some_iff.1 hx).1
  have hdk : r.is.drop k = x :: r.is.drop (k + 1) := by rw [List.drop_eq_getElem_cons hkl]; congr 1; rw [List.getElem?_eq_getElem hkl] at hx; injection hx
  have hlx : (ns ++ r.is.drop k)[k]? = some x := by rw [List.getElem?_append_right (by omega), h1, Nat.sub_self, hdk]; rfl
  have hset : (ns ++ r.is.drop k).set k ⟨x.it, A', c'⟩ = (ns ++ [⟨x.it, A', c'⟩]) ++ r.is.drop (k + 1) := by
    rw [hdk, List.set_append_right _ _ (by omega), h1, Nat.sub_self]
    simp
  have hgS : g < S := h10 g rfl
  have hg0 : W.heap.size ≤ g := own_base h3 g rfl
  have hgx : g < wx.heap.size := by omega
  have hll : (ns ++ r.is.drop k).length = r.is.length := by rw [List.length_append, List.length_drop, h1]; omega
  have hfl : ((ns ++ r.is.drop k).flatMap ItR.cells).length = r.is.length * 7 := by rw [flat_len ItR.cells 7 (fun _ => rfl), hll]
  have s0 := own_below h3 b5
  have s1 := own_set' s0 (k * 7 + 2) (.string x.it.m.top) (by rw [hfl]; omega)
  have s2 := own_set' s1 (k * 7 + 3) (.string x.it.m.body) (by rw [List.length_set, hfl]; omega)
  have s3 := own_set' s2 (k * 7 + 4) (.slice A' x.it.m.ps.length c') (by rw [List.length_set, List.length_set, hfl]; omega)
  have s4 := own_set' s3 (k * 7 + 5) (.bool x.it.m.dur) (by rw [List.length_set, List.length_set, List.length_set, hfl]; omega)
  have s5 := own_set' s4 (k * 7 + 6) (.int .i64 x.it.m.unt) (by rw [List.length_set, List.length_set, List.length_set, List.length_set, hfl]; omega)
  have hsf := setI_flat (ns ++ r.is.drop k) k x ⟨x.it, A', c'⟩ hlx rfl rfl
  simp only at hsf
  rw [hsf, hset] at s5
  have hgne : ∀ k, (Value.slice A2 r.hs.length c2).ownBlock = some k → some g ≠ some k := fun k hk e => by
    injection e with e
    subst e
    exact own_tyne h3 h4 (by decide) g rfl hk
  have t0 := own_below h4 b5
  have t5 := own_other (own_other (own_other (own_other (own_other t0 (grownBy_set _ g (k * 7 + 2) (.string x.it.m.top)) hgne) (grownBy_set _ g (k * 7 + 3) (.string x.it.m.body)) hgne) (grownBy_set _ g (k * 7 + 4) (.slice A' x.it.m.ps.length c')) hgne) (grownBy_set _ g (k * 7 + 5) (.bool x.it.m.dur)) hgne) (grownBy_set _ g (k * 7 + 6) (.int .i64 x.it.m.unt)) hgne
  have hbb : Below w.heap.size w w5 := h8.trans (b5.mono h8.size)
  refine ⟨by simp [h1], ?_, s5, t5, ?_, ?_, ?_, ?_, ?_, h10, h11⟩
  · rw [List.map_append, h2, List.take_add_one, hx]
    simp
  · exact heap_set (by omega) _ _ (heap_set (by omega) _ _ (heap_set (by omega) _ _ (heap_set (by omega) _ _ (heap_set (by omega) _ _ ((b5.block _ (Array.getElem?_eq_some_iff.1 h5).1).trans h5)))))
  · exact heap_set (by omega) _ _ (heap_set (by omega) _ _ (heap_set (by omega) _ _ (heap_set (by omega) _ _ (heap_set (by omega) _ _ ((b5.block _ (Array.getElem?_eq_some_iff.1 h6).1).trans h6)))))
  · intro y hy
    have key : y.ok w5 ∧ ∀ a, y.pa = some a → S ≤ a.block := by
      rcases List.mem_append.1 hy with hy | hy
      · exact ⟨(h7 y hy).1.below b5, (h7 y hy).2⟩
      · rw [List.mem_singleton] at hy
        subst hy
        exact ⟨r5, fun a ha => Nat.le_trans h9 (hb5 a ha)⟩
    have hne : ∀ a, y.pa = some a → a.block ≠ g := fun a ha => by have := key.2 a ha; omega
    exact ⟨ok_set (ok_set (ok_set (ok_set (ok_set key.1 g _ _ hne) g _ _ hne) g _ _ hne) g _ _ hne) g _ _ hne, key.2⟩
  · exact bset (bset (bset (bset (bset hbb g _ _ (by omega)) g _ _ (by omega)) g _ _ (by omega)) g _ _ (by omega)) g _ _ (by omega)
  · simp only [World.setCell, Array.size_modify]
    exact Nat.le_trans h9 b5.size

/-- The second loop: k of those held have their own properties. -/
structure CpH (w W wx : World) (S : Nat) (q : Que) (r : QuR) (A1 : Option Addr) (c1 : Nat) (A2 : Option Addr) (c2 : Nat) (ns : List ItR) (k : Nat) (ms : List HlR) : Prop where
  len : ms.length = k
  mp : ms.map HlR.pl = (r.hs.take k).map HlR.pl
  nl : ns.length = r.is.length
  nmp : ns.map ItR.it = r.is.map ItR.it
  io : wx.ownsRow W.heap.size 44 7 (.slice A1 r.is.length c1) r.is.length (ns.flatMap ItR.cells)
  ho : wx.ownsRow W.heap.size 46 10 (.slice A2 r.hs.length c2) r.hs.length ((ms ++ r.hs.drop k).flatMap HlR.cells)
  row : wx.heap[w.heap.size]? = some (.cells #[.string q.name, .bool q.dur, .int .i64 q.depth, .int .i64 q.seq, .int .i64 q.tag, .slice A1 r.is.length c1, .slice A2 r.hs.length c2] 25 (0, 0))
  res : wx.heap[w.heap.size + 1]? = some (.cells #[.string ⟨#[]⟩, .bool false, .int .i64 0, .int .i64 0, .int .i64 0, .slice none 0 0, .slice none 0 0] 25 (0, 0))
  nk : ∀ x ∈ ns, x.ok wx ∧ ∀ a, x.pa = some a → S ≤ a.block
  hmk : ∀ x ∈ ms, x.r.ok wx ∧ ∀ a, x.r.pa = some a → S ≤ a.block
  bel : Below w.heap.size w wx
  sz : S ≤ wx.heap.size
  ib : ∀ g, (Value.slice A1 r.is.length c1).ownBlock = some g → g < S
  hb : ∀ g, (Value.slice A2 r.hs.length c2).ownBlock = some g → g < S
theorem cpH_step {w W wx w5 : World} {S : Nat} {q : Que} {r : QuR} {A1 : Option Addr} {c1 : Nat} {c2 k g : Nat} {ns : List ItR} {ms : List HlR} (h : CpH w W wx S q r A1 c1 (some ⟨g, 0, none⟩) c2 ns k ms) (hWS : W.heap.size ≤ S) (hw2 : w.heap.size + 2 ≤ W.heap.size) {x : HlR} (hx : r.hs[k]? = some x)
    (b5 : Below wx.heap.size wx w5) {A' : Option Addr} {c' : Nat} (r5 : RPr w5 (.slice A' x.r.it.m.ps.length c') x.r.it.m.ps) (hb5 : ∀ a, A' = some a → wx.heap.size ≤ a.block) :
    CpH w W (((((w5.setCell ⟨g, k * 10 + 5, none⟩ (.string x.r.it.m.top)).setCell ⟨g, k * 10 + 6, none⟩ (.string x.r.it.m.body)).setCell ⟨g, k * 10 + 7, none⟩ (.slice A' x.r.it.m.ps.length c')).setCell ⟨g, k * 10 + 8, none⟩ (.bool x.r.it.m.dur)).setCell ⟨g, k * 10 + 9, none⟩ (.int .i64 x.r.it.m.unt)) S q r A1 c1 (some ⟨g, 0, none⟩) c2 ns (k + 1) (ms ++ [⟨x.tag, x.conn, x.sub, ⟨x.r.it, A', c'⟩⟩]) := by
  obtain ⟨h1, h2, n1, n2, h3, h4, h5, h6, h7, m7, h8, h9, h10, h11⟩ := h
  have hkl := (List.getElem?_eq_some_iff.1 hx).1
  have hdk : r.hs.drop k = x :: r.hs.drop (k + 1) := by rw [List.drop_eq_getElem_cons hkl]; congr 1; rw [List.getElem?_eq_getElem hkl] at hx; injection hx
  have hlx : (ms ++ r.hs.drop k)[k]? = some x := by rw [List.getElem?_append_right (by omega), h1, Nat.sub_self, hdk]; rfl
  have hset : (ms ++ r.hs.drop k).set k ⟨x.tag, x.conn, x.sub, ⟨x.r.it, A', c'⟩⟩ = (ms ++ [⟨x.tag, x.conn, x.sub, ⟨x.r.it, A', c'⟩⟩]) ++ r.hs.drop (k + 1) := by
    rw [hdk, List.set_append_right _ _ (by omega), h1, Nat.sub_self]
    simp
  have hgS : g < S := h11 g rfl
  have hg0 : W.heap.size ≤ g := own_base h4 g rfl
  have hgx : g < wx.heap.size := by omega
  have hll : (ms ++ r.hs.drop k).length = r.hs.length := by rw [List.length_append, List.length_drop, h1]; omega
  have hfl : ((ms ++ r.hs.drop k).flatMap HlR.cells).length = r.hs.length * 10 := by rw [flat_len HlR.cells 10 (fun _ => rfl), hll]
  have s0 := own_below h4 b5
  have s1 := own_set' s0 (k * 10 + 5) (.string x.r.it.m.top) (by rw [hfl]; omega)
  have s2 := own_set' s1 (k * 10 + 6) (.string x.r.it.m.body) (by rw [List.length_set, hfl]; omega)
  have s3 := own_set' s2 (k * 10 + 7) (.slice A' x.r.it.m.ps.length c') (by rw [List.length_set, List.length_set, hfl]; omega)
  have s4 := own_set' s3 (k * 10 + 8) (.bool x.r.it.m.dur) (by rw [List.length_set, List.length_set, List.length_set, hfl]; omega)
  have s5 := own_set' s4 (k * 10 + 9) (.int .i64 x.r.it.m.unt) (by rw [List.length_set, List.length_set, List.length_set, List.length_set, hfl]; omega)
  have hsf := setH_flat (ms ++ r.hs.drop k) k x ⟨x.tag, x.conn, x.sub, ⟨x.r.it, A', c'⟩⟩ hlx rfl rfl rfl rfl rfl
  simp only at hsf
  rw [hsf, hset] at s5
  have hgne : ∀ k, (Value.slice A1 r.is.length c1).ownBlock = some k → some g ≠ some k := fun k hk e => by
    injection e with e
    subst e
    exact own_tyne h4 h3 (by decide) g rfl hk
  have t0 := own_below h3 b5
  have t5 := own_other (own_other (own_other (own_other (own_other t0 (grownBy_set _ g (k * 10 + 5) (.string x.r.it.m.top)) hgne) (grownBy_set _ g (k * 10 + 6) (.string x.r.it.m.body)) hgne) (grownBy_set _ g (k * 10 + 7) (.slice A' x.r.it.m.ps.length c')) hgne) (grownBy_set _ g (k * 10 + 8) (.bool x.r.it.m.dur)) hgne) (grownBy_set _ g (k * 10 + 9) (.int .i64 x.r.it.m.unt)) hgne
  have hbb : Below w.heap.size w w5 := h8.trans (b5.mono h8.size)
  have put : ∀ y : ItR, y.ok w5 → (∀ a, y.pa = some a → S ≤ a.block) → y.ok (((((w5.setCell ⟨g, k * 10 + 5, none⟩ (.string x.r.it.m.top)).setCell ⟨g, k * 10 + 6, none⟩ (.string x.r.it.m.body)).setCell ⟨g, k * 10 + 7, none⟩ (.slice A' x.r.it.m.ps.length c')).setCell ⟨g, k * 10 + 8, none⟩ (.bool x.r.it.m.dur)).setCell ⟨g, k * 10 + 9, none⟩ (.int .i64 x.r.it.m.unt)) := fun y ho hs => by
    have hne : ∀ a, y.pa = some a → a.block ≠ g := fun a ha => by have := hs a ha; omega
    exact ok_set (ok_set (ok_set (ok_set (ok_set ho g _ _ hne) g _ _ hne) g _ _ hne) g _ _ hne) g _ _ hne
  refine ⟨by simp [h1], ?_, n1, n2, t5, s5, ?_, ?_, ?_, ?_, ?_, ?_, h10, h11⟩
  · rw [List.map_append, h2, List.take_add_one, hx]
    simp [HlR.pl]
  · exact heap_set (by omega) _ _ (heap_set (by omega) _ _ (heap_set (by omega) _ _ (heap_set (by omega) _ _ (heap_set (by omega) _ _ ((b5.block _ (Array.getElem?_eq_some_iff.1 h5).1).trans h5)))))
  · exact heap_set (by omega) _ _ (heap_set (by omega) _ _ (heap_set (by omega) _ _ (heap_set (by omega) _ _ (heap_set (by omega) _ _ ((b5.block _ (Array.getElem?_eq_some_iff.1 h6).1).trans h6)))))
  · exact fun y hy => ⟨put y ((h7 y hy).1.below b5) (h7 y hy).2, (h7 y hy).2⟩
  · intro y hy
    rcases List.mem_append.1 hy with hy | hy
    · exact ⟨put y.r ((m7 y hy).1.below b5) (m7 y hy).2, (m7 y hy).2⟩
    · rw [List.mem_singleton] at hy
      subst hy
      have hs : ∀ a, A' = some a → S ≤ a.block := fun a ha => Nat.le_trans h9 (hb5 a ha)
      exact ⟨put ⟨x.r.it, A', c'⟩ r5 hs, hs⟩
  · exact bset (bset (bset (bset (bset hbb g _ _ (by omega)) g _ _ (by omega)) g _ _ (by omega)) g _ _ (by omega)) g _ _ (by omega)
  · simp only [World.setCell, Array.size_modify]
    exact Nat.le_trans h9 b5.size
end Go.Proofs.YtelhpdnclmpgoaaDoor
