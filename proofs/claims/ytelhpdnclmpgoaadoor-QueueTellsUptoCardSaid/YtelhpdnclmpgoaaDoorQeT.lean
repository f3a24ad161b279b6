/- Layer 10: what Take needs: four results of which two are cells; a block beside all that is owned. -/
import Derived.Test.YtelhpdnclmpgoaaDoorQeP
import Derived.Test.YtelhpdnclmpgoaaDoorQeS
namespace Go.Proofs.YtelhpdnclmpgoaaDoor
open Go Go.RowKit Go.Sort
open Go.ChangeShapes Go.WideShapes Go.Deep
set_option linter.unusedSimpArgs false
set_option linter.unusedVariables false

theorem results_cell4 {P : Program} {fn : Func} {p u p2 u2 : Tmp} {ty ty2 : TypeId} (h : fn.results = #[.cell p ty, .tmp u, .cell p2 ty2, .tmp u2]) (tmps : Array Value) (w : World) (g : Nat) (t : TypeId) (cs : Array Value) (fr : Nat × Nat) (d : TypeDesc) (g2 : Nat) (t2 : TypeId) (cs2 : Array Value) (fr2 : Nat × Nat) (d2 : TypeDesc)
    (hp : tmps.getD p undef = .pointer (some ⟨g, 0, none⟩)) (hg : w.heap[g]? = some (.cells cs t fr)) (hp2 : tmps.getD p2 undef = .pointer (some ⟨g2, 0, none⟩)) (hg2 : w.heap[g2]? = some (.cells cs2 t2 fr2))
    (hu : P.underlying ty = some d) (hd : (match d with | .struct _ | .array _ _ => true | _ => false) = true) (hi : (P.info? ty).map (·.size) = some cs.size)
    (hu2 : P.underlying ty2 = some d2) (hd2 : (match d2 with | .struct _ | .array _ _ => true | _ => false) = true) (hi2 : (P.info? ty2).map (·.size) = some cs2.size) :
    (results fn tmps).run P w = .ok (.tuple #[.agg cs, tmps.getD u undef, .agg cs2, tmps.getD u2 undef]) w := by
  have hp' : tmps[p]?.getD undef = .pointer (some ⟨g, 0, none⟩) := by simpa using hp
  have hp2' : tmps[p2]?.getD undef = .pointer (some ⟨g2, 0, none⟩) := by simpa using hp2
  simp [results, h, hp', hp2', asAddr, run_loadVar_row w g t ty cs fr d hg hu hd hi, run_loadVar_row w g2 t2 ty2 cs2 fr2 d2 hg2 hu2 hd2 hi2]
theorem set7_ne {w : World} {g k : Nat} {o : Option Obj} (hk : k ≠ g) (a b c d e f i : Value) (h : w.heap[k]? = o) : (((((((w.setCell ⟨g, 0, none⟩ a).setCell ⟨g, 1, none⟩ b).setCell ⟨g, 2, none⟩ c).setCell ⟨g, 3, none⟩ d).setCell ⟨g, 4, none⟩ e).setCell ⟨g, 5, none⟩ f).setCell ⟨g, 6, none⟩ i).heap[k]? = o :=
  heap_set hk _ _ (heap_set hk _ _ (heap_set hk _ _ (heap_set hk _ _ (heap_set hk _ _ (heap_set hk _ _ (heap_set hk _ _ h))))))
theorem take_end {fn : Func} {p u p2 u2 : Tmp} (h : fn.results = #[.cell p 25, .tmp u, .cell p2 44, .tmp u2]) {R : Ending → World → Prop} {a : Act} {w : World} {g g2 : Nat} {t t2 : TypeId} {c0 c1 c2 c3 c4 c5 c6 b0 b1 b2 b3 b4 b5 b6 : Value} {fr fr2 : Nat × Nat} (d0 d1 d2 d3 d4 d5 d6 e0 e1 e2 e3 e4 e5 e6 : Value)
    (hg : w.heap[g]? = some (.cells #[c0, c1, c2, c3, c4, c5, c6] t fr)) (hg2 : w.heap[g2]? = some (.cells #[b0, b1, b2, b3, b4, b5, b6] t2 fr2)) (hne : g ≠ g2) (hp : a.tmps.getD p undef = .pointer (some ⟨g, 0, none⟩)) (hp2 : a.tmps.getD p2 undef = .pointer (some ⟨g2, 0, none⟩)) (hd : a.defers = [])
    (hR : R (.returned (.tuple #[.agg #[d0, d1, d2, d3, d4, d5, d6], a.tmps.getD u undef, .agg #[e0, e1, e2, e3, e4, e5, e6], a.tmps.getD u2 undef])) ((((((((((((((w.setCell ⟨g, 0, none⟩ d0).setCell ⟨g, 1, none⟩ d1).setCell ⟨g, 2, none⟩ d2).setCell ⟨g, 3, none⟩ d3).setCell ⟨g, 4, none⟩ d4).setCell ⟨g, 5, none⟩ d5).setCell ⟨g, 6, none⟩ d6).setCell ⟨g2, 0, none⟩ e0).setCell ⟨g2, 1, none⟩ e1).setCell ⟨g2, 2, none⟩ e2).setCell ⟨g2, 3, none⟩ e3).setCell ⟨g2, 4, none⟩ e4).setCell ⟨g2, 5, none⟩ e5).setCell ⟨g2, 6, none⟩ e6)) :
    bodyPost Tryd.prog fn R .ret a ((((((((((((((w.setCell ⟨g, 0, none⟩ d0).setCell ⟨g, 1, none⟩ d1).setCell ⟨g, 2, none⟩ d2).setCell ⟨g, 3, none⟩ d3).setCell ⟨g, 4, none⟩ d4).setCell ⟨g, 5, none⟩ d5).setCell ⟨g, 6, none⟩ d6).setCell ⟨g2, 0, none⟩ e0).setCell ⟨g2, 1, none⟩ e1).setCell ⟨g2, 2, none⟩ e2).setCell ⟨g2, 3, none⟩ e3).setCell ⟨g2, 4, none⟩ e4).setCell ⟨g2, 5, none⟩ e5).setCell ⟨g2, 6, none⟩ e6) :=
  bodyPost_ret (results_cell4 h _ _ g t _ fr _ g2 t2 _ fr2 _ hp (set7_ne hne _ _ _ _ _ _ _ (cells7_at hg d0 d1 d2 d3 d4 d5 d6)) hp2 (cells7_at (set7_ne (Ne.symm hne) _ _ _ _ _ _ _ hg2) e0 e1 e2 e3 e4 e5 e6) Tryd.underlying25 rfl (by kernel_rfl) Tryd.underlying44 rfl (by kernel_rfl)) hd hR
theorem take_end_d {fn : Func} {p u p2 u2 : Tmp} (h : fn.results = #[.cell p 25, .tmp u, .cell p2 44, .tmp u2]) {R : Ending → World → Prop} {a : Act} {X : World} {g g2 : Nat} {t t2 : TypeId} {fr fr2 : Nat × Nat} {d0 d1 d2 d3 d4 d5 d6 e0 e1 e2 e3 e4 e5 e6 : Value}
    (hg : X.heap[g]? = some (.cells #[d0, d1, d2, d3, d4, d5, d6] t fr)) (hg2 : X.heap[g2]? = some (.cells #[e0, e1, e2, e3, e4, e5, e6] t2 fr2)) (hp : a.tmps.getD p undef = .pointer (some ⟨g, 0, none⟩)) (hp2 : a.tmps.getD p2 undef = .pointer (some ⟨g2, 0, none⟩)) (hd : a.defers = [])
    (hR : R (.returned (.tuple #[.agg #[d0, d1, d2, d3, d4, d5, d6], a.tmps.getD u undef, .agg #[e0, e1, e2, e3, e4, e5, e6], a.tmps.getD u2 undef])) X.drew) : bodyPost Tryd.prog fn R .ret a X.drew := by
  have hg' : X.drew.heap[g]? = some (.cells #[d0, d1, d2, d3, d4, d5, d6] t fr) := hg
  have hg2' : X.drew.heap[g2]? = some (.cells #[e0, e1, e2, e3, e4, e5, e6] t2 fr2) := hg2
  exact bodyPost_ret (results_cell4 h _ X.drew g t _ fr _ g2 t2 _ fr2 _ hp hg' hp2 hg2' Tryd.underlying25 rfl (by kernel_rfl) Tryd.underlying44 rfl (by kernel_rfl)) hd hR
/-- Block B is no part of the queue. -/
structure FB (B : Nat) (r : QuR) : Prop where
  i : r.oi ≠ some B
  h : r.oh ≠ some B
  ik : ∀ x ∈ r.is, 0 < x.it.m.ps.length → ∀ a, x.pa = some a → a.block ≠ B
  hk : ∀ x ∈ r.hs, 0 < x.r.it.m.ps.length → ∀ a, x.r.pa = some a → a.block ≠ B
theorem OwnW.fb {w : World} {base B : Nat} {q : Que} {r : QuR} (h : OwnW w base q r) (hB : w.heap.size ≤ B) : FB B r :=
  ⟨fun e => by have := own_lt' h.io e; omega, fun e => by have := own_lt' h.ho e; omega, fun x hx hn a ha => by have := (h.ik x hx).1.lt hn ha; omega, fun x hx hn a ha => by have := (h.hk x hx).1.lt hn ha; omega⟩
theorem OwnW.setFB {w w2 : World} {base B : Nat} {q : Que} {r : QuR} (h : OwnW w base q r) (f : FB B r) (hg : w.grownBy w2 (some B)) : OwnW w2 base q r := by
  have old : ∀ y : ItR, y.ok w → (0 < y.it.m.ps.length → ∀ a, y.pa = some a → a.block ≠ B) → y.ok w2 := fun y h1 h2 =>
    rc_keep h1 (fun hn A n c he hlt => hg.block _ hlt (fun e => by injection he with he; injection e with e; exact h2 hn A he e))
  exact ⟨own_other h.io hg (fun j hj e => f.i (hj.trans (by rw [← e]))), own_other h.ho hg (fun j hj e => f.h (hj.trans (by rw [← e]))),
    fun x hx => ⟨old x (h.ik x hx).1 (f.ik x hx), (h.ik x hx).2⟩, fun x hx => ⟨old x.r (h.hk x hx).1 (f.hk x hx), (h.hk x hx).2⟩, h.ip, h.hp⟩
theorem FB.delI {B g : Nat} {r : QuR} (f : FB B r) (he : r.ia = some ⟨g, 0, none⟩) (k : Nat) : FB B ⟨some ⟨g, 0, none⟩, r.ic, r.is.eraseIdx k, r.ha, r.hc, r.hs⟩ :=
  ⟨fun e => f.i (by show (Value.slice r.ia r.is.length r.ic).ownBlock = _; rw [he]; exact e), f.h, fun x hx => f.ik x (List.mem_of_mem_eraseIdx hx), f.hk⟩
theorem FB.app {B n c : Nat} {A : Option Addr} {r : QuR} {x : HlR} (f : FB B r) (hx : 0 < x.r.it.m.ps.length → ∀ a, x.r.pa = some a → a.block ≠ B) (hat : (Value.slice A (r.hs ++ [x]).length c).ownBlock = r.oh ∨ ∃ k, (Value.slice A (r.hs ++ [x]).length c).ownBlock = some k ∧ n ≤ k) (hn : B < n) : FB B ⟨r.ia, r.ic, r.is, A, c, r.hs ++ [x]⟩ :=
  ⟨f.i, fun e => by
    have e' : (Value.slice A (r.hs ++ [x]).length c).ownBlock = some B := e
    rcases hat with h | ⟨k, h, hk⟩
    · exact f.h (h.symm.trans e')
    · rw [h] at e'; injection e' with e'; omega,
   f.ik, fun y hy => by
    rcases List.mem_append.1 hy with hy | hy
    · exact f.hk y hy
    · obtain rfl : y = x := by simpa using hy
      exact hx⟩
/-- The tag of the queue that is made. -/
theorem GQ.setTag {W wx : World} {base G : Nat} {q : Que} {r : QuR} (h : GQ W wx base G q r) (t : Int) : GQ W (wx.setCell ⟨G, 4, none⟩ (.int .i64 t)) base G ⟨q.name, q.dur, q.depth, q.seq, t, q.items, q.held⟩ r :=
  ⟨(fun o => ⟨o.io, o.ho, o.ig, o.hg, o.ik, o.hk, o.ip, o.hp⟩) (h.own.setG (grownBy_set _ _ _ _)), cells7_4 h.row _, Below.setCell h.bel (Nat.le_trans h.hW h.hB) _, h.hW, h.hB⟩
def noI : Itm := ⟨0, false, ⟨⟨#[]⟩, ⟨#[]⟩, [], false, 0⟩⟩
theorem noI_ok (w : World) : (ItR.mk noI none 0).ok w := ⟨none, 0, rfl, Nat.le_refl _, by decide, rfl, fun _ => rfl, fun j u h => by simp [noI] at h⟩
def takeR (q : Que) (cn sb : Int) (hd : Bool) : Que × Int × Itm × Int :=
  if goodQ q = true ∧ 0 ≤ cn ∧ cn < 8 ∧ 0 ≤ sb ∧ sb ≤ 1099511627776 ∧ q.tag < 1099511627776 then
    match q.items[0]? with
    | none => (noQ, 0, noI, 33)
    | some x => (⟨q.name, q.dur, q.depth, q.seq, if hd = true then q.tag + 1 else q.tag, q.items.eraseIdx 0, if hd = true then q.held ++ [⟨q.tag + 1, cn, sb, x⟩] else q.held⟩, if hd = true then q.tag + 1 else 0, x, 0)
  else (noQ, 0, noI, 1)
theorem grown5 (w : World) (g : Nat) (c d e f i : Value) : w.grownBy (((((w.setCell ⟨g, 2, none⟩ c).setCell ⟨g, 3, none⟩ d).setCell ⟨g, 4, none⟩ e).setCell ⟨g, 5, none⟩ f).setCell ⟨g, 6, none⟩ i) (some g) :=
  grownBy_trans (grownBy_trans (grownBy_trans (grownBy_trans (grownBy_set _ _ _ _) (grownBy_set _ _ _ _)) (grownBy_set _ _ _ _)) (grownBy_set _ _ _ _)) (grownBy_set _ _ _ _)
theorem cells7_m {w : World} {g : Nat} {t : TypeId} {c0 c1 c2 c3 c4 c5 c6 : Value} {fr : Nat × Nat} (h : w.heap[g]? = some (.cells #[c0, c1, c2, c3, c4, c5, c6] t fr)) (c d e f i : Value) : (((((w.setCell ⟨g, 2, none⟩ c).setCell ⟨g, 3, none⟩ d).setCell ⟨g, 4, none⟩ e).setCell ⟨g, 5, none⟩ f).setCell ⟨g, 6, none⟩ i).heap[g]? = some (.cells #[c0, c1, c, d, e, f, i] t fr) := by
  simp [World.setCell, Array.getElem?_modify, h]
theorem goodQ_tag {q : Que} (h : goodQ q = true) : 0 ≤ q.tag := by
  unfold goodQ headQ at h
  simp only [Bool.and_eq_true, decide_eq_true_eq] at h
  exact h.1.1.1.2
end Go.Proofs.YtelhpdnclmpgoaaDoor
