/- Layer 10: what Release keeps from round to round. -/
import Derived.Test.YtelhpdnclmpgoaaDoorQeK
namespace Go.Proofs.YtelhpdnclmpgoaaDoor
open Go Go.RowKit Go.Sort
open Go.ChangeShapes Go.WideShapes Go.Deep
set_option linter.unusedSimpArgs false
set_option linter.unusedVariables false

/-- One more is held. -/
theorem GQ.appH {W wx w1 : World} {base G : Nat} {q : Que} {r : QuR} (h : GQ W wx base G q r) {x : HlR} (lx : Lo wx base G r.oi r.oh x.r) {v1 : Value} (o1 : w1.ownsRow base 46 10 v1 (r.hs.length + 1) (r.hs.flatMap HlR.cells ++ x.cells))
    (g1 : wx.grownBy w1 r.oh) (k1 : v1.ownBlock = r.oh ∨ v1.ownBlock = some wx.heap.size) :
    ∃ A c, v1 = .slice A (r.hs ++ [x]).length c ∧ w1.heap[G]? = some (.cells #[.string q.name, .bool q.dur, .int .i64 q.depth, .int .i64 q.seq, .int .i64 q.tag, .slice r.ia r.is.length r.ic, .slice r.ha r.hs.length r.hc] 25 (0, 0)) ∧
      GQ W (w1.setCell ⟨G, 6, none⟩ v1) base G ⟨q.name, q.dur, q.depth, q.seq, q.tag, q.items, q.held ++ [x.pl]⟩ ⟨r.ia, r.ic, r.is, A, c, r.hs ++ [x]⟩ ∧ ((Value.slice A (r.hs ++ [x]).length c).ownBlock = r.oh ∨ ∃ k, (Value.slice A (r.hs ++ [x]).length c).ownBlock = some k ∧ wx.heap.size ≤ k) := by
  obtain ⟨A, c, rfl⟩ := rc_any' (own_rc o1)
  have hl : (r.hs ++ [x]).length = r.hs.length + 1 := by simp
  have hf : r.hs.flatMap HlR.cells ++ x.cells = (r.hs ++ [x]).flatMap HlR.cells := by rw [List.flatMap_append]; simp
  rw [← hl, hf] at o1
  rw [← hl] at k1 ⊢
  have hat : (Value.slice A (r.hs ++ [x]).length c).ownBlock = r.oh ∨ ∃ k, (Value.slice A (r.hs ++ [x]).length c).ownBlock = some k ∧ wx.heap.size ≤ k := k1.imp id (fun e => ⟨_, e, Nat.le_refl _⟩)
  have row' := (g1.block G h.lt (fun e => h.own.hg e.symm)).trans h.row
  have oG := h.own.heldTo h.lt g1 o1 hat (fun y hy => by
    rcases List.mem_append.1 hy with hy | hy
    · exact h.own.hk y hy
    · obtain rfl : y = x := by simpa using hy
      exact lx) (hls := q.held ++ [x.pl]) (by rw [List.map_append, h.own.hp]; rfl) q.name q.dur q.depth q.seq q.tag
  exact ⟨A, c, rfl, row', ⟨oG.setG (grownBy_set _ _ _ _), cells7_6 row' _, Below.setCell (h.bel.grown g1 h.bel.size (fun j hj => by have := own_base h.own.ho j hj; have := h.hW; omega)) (Nat.le_trans h.hW h.hB) _, h.hW, h.hB⟩, hat⟩
/-- Nothing is held. -/
theorem GQ.nilH {W wx : World} {base G : Nat} {q : Que} {r : QuR} (h : GQ W wx base G q r) :
    GQ W (wx.setCell ⟨G, 6, none⟩ (.slice none 0 0)) base G ⟨q.name, q.dur, q.depth, q.seq, q.tag, q.items, []⟩ ⟨r.ia, r.ic, r.is, none, 0, []⟩ := by
  have oG : OwnG wx base G ⟨q.name, q.dur, q.depth, q.seq, q.tag, q.items, []⟩ ⟨r.ia, r.ic, r.is, none, 0, []⟩ :=
    ⟨h.own.io, own_nil _ _ _ _, h.own.ig, (fun e => by cases e), fun x hx => ⟨(h.own.ik x hx).ok, fun hn a ha => ⟨((h.own.ik x hx).far hn a ha).1, ((h.own.ik x hx).far hn a ha).2.1, ((h.own.ik x hx).far hn a ha).2.2.1, (fun e => by cases e)⟩⟩, (fun x hx => by cases hx), h.own.ip, rfl⟩
  exact ⟨oG.setG (grownBy_set _ _ _ _), cells7_6 h.row _, Below.setCell h.bel (Nat.le_trans h.hW h.hB) _, h.hW, h.hB⟩
def relOne (cn sb : Int) (p : List Itm × List Hld) (h : Hld) : List Itm × List Hld := if (h.conn == cn && (sb == -1 || h.sub == sb)) = true then (insQ p.1 h.it, p.2) else (p.1, p.2 ++ [h])
def releaseR (q : Que) (cn sb : Int) : Que × Int :=
  if goodQ q = true then (⟨q.name, q.dur, q.depth, q.seq, q.tag, (q.held.foldl (relOne cn sb) (q.items, [])).1, (q.held.foldl (relOne cn sb) (q.items, [])).2⟩, 0) else (noQ, 1)
theorem insQ_len (l : List Itm) (y : Itm) : (insQ l y).length = l.length + 1 := by
  unfold insQ
  have h := congrArg List.length (List.takeWhile_append_dropWhile (p := fun z : Itm => decide (z.seq < y.seq)) (l := l))
  simp only [List.length_append, List.length_singleton] at h ⊢
  omega
/-- Before the round k of Release: the queue that is made, and the rows of the copy that is walked. -/
structure RlS (W wr : World) (base G : Nat) (q : Que) (ha2 : Option Addr) (hc2 : Nat) (hs2 : List HlR) (base2 k : Nat) (p : List Itm × List Hld) (r' : QuR) : Prop where
  gq : GQ W wr base G ⟨q.name, q.dur, q.depth, q.seq, q.tag, p.1, p.2⟩ r'
  row : wr.ownsRow base2 46 10 (.slice ha2 hs2.length hc2) hs2.length (hs2.flatMap HlR.cells)
  far : ∀ j, (Value.slice ha2 hs2.length hc2).ownBlock = some j → j < wr.heap.size ∧ j ≠ G ∧ r'.oi ≠ some j ∧ r'.oh ≠ some j
  lo : ∀ x ∈ hs2.drop k, Lo wr base G r'.oi r'.oh x.r
  rise : Rise p.1
  len : p.1.length + p.2.length ≤ q.items.length + k
theorem RlS.below {W wr w' : World} {base G : Nat} {q : Que} {ha2 : Option Addr} {hc2 : Nat} {hs2 : List HlR} {base2 k : Nat} {p : List Itm × List Hld} {r' : QuR} (h : RlS W wr base G q ha2 hc2 hs2 base2 k p r') (b : Below wr.heap.size wr w') : RlS W w' base G q ha2 hc2 hs2 base2 k p r' :=
  ⟨h.gq.below b, own_below h.row b, fun j hj => ⟨Nat.lt_of_lt_of_le (h.far j hj).1 b.size, (h.far j hj).2⟩, fun x hx => (h.lo x hx).to (grownBy_below b (some G)) (.inr (.inr rfl)) (.inl rfl) (.inl rfl), h.rise, h.len⟩
theorem RlS.to {W wr w1 w' : World} {base G : Nat} {q : Que} {ha2 : Option Addr} {hc2 : Nat} {hs2 : List HlR} {base2 k : Nat} {p p' : List Itm × List Hld} {r' r'' : QuR} (h : RlS W wr base G q ha2 hc2 hs2 base2 k p r') {row1 : Option Nat}
    (gq' : GQ W w' base G ⟨q.name, q.dur, q.depth, q.seq, q.tag, p'.1, p'.2⟩ r'') (g1 : wr.grownBy w1 row1) (hr1 : row1 = r'.oi ∨ row1 = r'.oh) (g2 : w1.grownBy w' (some G)) (hi : r''.oi = r'.oi ∨ ∃ k, r''.oi = some k ∧ wr.heap.size ≤ k) (hh : r''.oh = r'.oh ∨ ∃ k, r''.oh = some k ∧ wr.heap.size ≤ k)
    (hrise : Rise p'.1) (hlen : p'.1.length + p'.2.length ≤ p.1.length + p.2.length + 1) : RlS W w' base G q ha2 hc2 hs2 base2 (k + 1) p' r'' := by
  refine ⟨gq', ?_, fun j hj => ?_, fun x hx => ?_, hrise, by have := h.len; omega⟩
  · have o1 := own_other h.row g1 (fun j hj e => by
      have hf := h.far j hj
      rcases hr1 with rfl | rfl
      · exact hf.2.2.1 e
      · exact hf.2.2.2 e)
    exact own_other o1 g2 (fun j hj e => by injection e with e; exact (h.far j hj).2.1 e.symm)
  · have hf := h.far j hj
    refine ⟨Nat.lt_of_lt_of_le hf.1 (Nat.le_trans g1.size g2.size), hf.2.1, ?_, ?_⟩
    · rcases hi with e | ⟨k, e, hk⟩
      · rw [e]; exact hf.2.2.1
      · rw [e]; intro e'; injection e' with e'; omega
    · rcases hh with e | ⟨k, e, hk⟩
      · rw [e]; exact hf.2.2.2
      · rw [e]; intro e'; injection e' with e'; omega
  · have hx' : x ∈ hs2.drop k := by
      rw [← List.drop_drop] at hx
      exact List.mem_of_mem_drop hx
    have l1 := (h.lo x hx').to g1 (by rcases hr1 with e | e; exact .inl e; exact .inr (.inl e)) hi hh
    exact l1.to g2 (.inr (.inr rfl)) (.inl rfl) (.inl rfl)
theorem mem_drop_at {α : Type} {l : List α} {k : Nat} {x : α} (h : l[k]? = some x) : x ∈ l.drop k := List.mem_iff_getElem?.2 ⟨0, by rw [List.getElem?_drop]; simpa using h⟩
theorem RlS.back {W wr : World} {base G : Nat} {q : Que} {ha2 : Option Addr} {hc2 : Nat} {hs2 : List HlR} {base2 k : Nat} {p : List Itm × List Hld} {r' : QuR} (h : RlS W wr base G q ha2 hc2 hs2 base2 k p r') {x : HlR} (hx : hs2[k]? = some x) (hn : q.items.length + k ≤ 4294967400) :
    Calls Tryd.prog 39 #[.pointer (some ⟨G, 0, none⟩), .agg #[.int .i64 x.r.it.seq, .bool x.r.it.again, .string x.r.it.m.top, .string x.r.it.m.body, .slice x.r.pa x.r.it.m.ps.length x.r.pc, .bool x.r.it.m.dur, .int .i64 x.r.it.m.unt]] wr fun e w' => e = .returned (.tuple #[]) ∧ ∃ r'', RlS W w' base G q ha2 hc2 hs2 base2 (k + 1) (insQ p.1 x.r.it, p.2) r'' := by
  refine (h.gq.back (h.lo x (mem_drop_at hx)) h.rise (by show p.1.length ≤ _; have := h.len; omega)).mono ?_
  rintro e w' ⟨rfl, A, c, ns, gq', ⟨w1, g1, g2⟩, hat⟩
  exact ⟨rfl, _, h.to gq' g1 (.inl rfl) g2 hat (.inl rfl) (h.rise.ins _) (by show (insQ p.1 x.r.it).length + p.2.length ≤ _; rw [insQ_len]; omega)⟩
theorem RlS.app {W wr w1 : World} {base G : Nat} {q : Que} {ha2 : Option Addr} {hc2 : Nat} {hs2 : List HlR} {base2 k : Nat} {p : List Itm × List Hld} {r' : QuR} (h : RlS W wr base G q ha2 hc2 hs2 base2 k p r') {x : HlR} (hx : hs2[k]? = some x) {v1 : Value}
    (o1 : w1.ownsRow base 46 10 v1 (r'.hs.length + 1) (r'.hs.flatMap HlR.cells ++ x.cells)) (g1 : wr.grownBy w1 r'.oh) (k1 : v1.ownBlock = r'.oh ∨ v1.ownBlock = some wr.heap.size) :
    w1.heap[G]? = some (.cells #[.string q.name, .bool q.dur, .int .i64 q.depth, .int .i64 q.seq, .int .i64 q.tag, .slice r'.ia r'.is.length r'.ic, .slice r'.ha r'.hs.length r'.hc] 25 (0, 0)) ∧ ∃ r'', RlS W (w1.setCell ⟨G, 6, none⟩ v1) base G q ha2 hc2 hs2 base2 (k + 1) (p.1, p.2 ++ [x.pl]) r'' := by
  obtain ⟨A, c, rfl, row', gq', hat⟩ := h.gq.appH (h.lo x (mem_drop_at hx)) o1 g1 k1
  exact ⟨row', _, h.to gq' g1 (.inr rfl) (grownBy_set _ _ _ _) (.inl rfl) hat h.rise (by show p.1.length + (p.2 ++ [x.pl]).length ≤ _; simp; omega)⟩
end Go.Proofs.YtelhpdnclmpgoaaDoor
