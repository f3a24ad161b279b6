/- Layer 10: what is kept where a queue's rows grow; the queue that is made, in its block: its rows changed one by one. -/
import Derived.Test.YtelhpdnclmpgoaaDoorQeB
import Derived.Test.YtelhpdnclmpgoaaDoorSld
namespace Go.Proofs.YtelhpdnclmpgoaaDoor
open Go Go.RowKit Go.Sort
open Go.ChangeShapes Go.WideShapes Go.Deep
set_option linter.unusedSimpArgs false
set_option linter.unusedVariables false

/-- Cells are there still where their block is. -/
theorem rc_keep {w w2 : World} {v : Value} {n s : Nat} {cs : List Value} (h : RC w v n s cs) (hk : 0 < n → ∀ A n c, v = .slice (some A) n c → A.block < w.heap.size → w2.heap[A.block]? = w.heap[A.block]?) : RC w2 v n s cs := by
  obtain ⟨A, c, rfl, h1, h2, h3, h4, h5⟩ := h
  refine ⟨A, c, rfl, h1, h2, h3, h4, fun j u hj => ?_⟩
  obtain ⟨a, ha, hc⟩ := h5 j u hj
  refine ⟨a, ha, ?_⟩
  subst ha
  have e : (a.add j).block = a.block := by unfold Addr.add; split <;> rfl
  have hb := World.block_lt_of_cell? w _ hc
  rw [e] at hb
  have hn : 0 < n := by
    have hj' := (List.getElem?_eq_some_iff.1 hj).1
    rcases Nat.eq_zero_or_pos n with h0 | h0
    · rw [h3, h0, Nat.zero_mul] at hj'; omega
    · exact h0
  exact (World.cell?_of_block (w := w) (by rw [e]; exact hk hn a _ _ rfl hb)).trans hc
theorem rc_lt {w : World} {A : Addr} {n c s : Nat} {cs : List Value} (h : RC w (.slice (some A) n c) n s cs) (hn : 0 < n) (hs : 0 < s) : A.block < w.heap.size := by
  obtain ⟨A', c', he, h1, h2, h3, h4, h5⟩ := h
  injection he with he
  subst he
  have hl : 0 < cs.length := by rw [h3]; exact Nat.mul_pos hn hs
  obtain ⟨a, ha, hc⟩ := h5 0 cs[0] (List.getElem?_eq_getElem hl)
  injection ha with ha
  subst ha
  have e : (A.add 0).block = A.block := by unfold Addr.add; split <;> rfl
  have hb := World.block_lt_of_cell? w _ hc
  rwa [e] at hb
/-- A queue's rows are the call's own, apart from what hangs on them (an empty slice hangs on nothing). -/
structure OwnW (w : World) (base : Nat) (q : Que) (r : QuR) : Prop where
  io : w.ownsRow base 44 7 (.slice r.ia r.is.length r.ic) r.is.length (r.is.flatMap ItR.cells)
  ho : w.ownsRow base 46 10 (.slice r.ha r.hs.length r.hc) r.hs.length (r.hs.flatMap HlR.cells)
  ik : ∀ x ∈ r.is, x.ok w ∧ (0 < x.it.m.ps.length → ∀ a, x.pa = some a → base ≤ a.block ∧ (Value.slice r.ia r.is.length r.ic).ownBlock ≠ some a.block ∧ (Value.slice r.ha r.hs.length r.hc).ownBlock ≠ some a.block)
  hk : ∀ x ∈ r.hs, x.r.ok w ∧ (0 < x.r.it.m.ps.length → ∀ a, x.r.pa = some a → base ≤ a.block ∧ (Value.slice r.ia r.is.length r.ic).ownBlock ≠ some a.block ∧ (Value.slice r.ha r.hs.length r.hc).ownBlock ≠ some a.block)
  ip : r.is.map ItR.it = q.items
  hp : r.hs.map HlR.pl = q.held
theorem OwnQ.weak {w : World} {base : Nat} {q : Que} {r : QuR} (h : OwnQ w base q r) : OwnW w base q r :=
  ⟨h.io, h.ho, fun x hx => ⟨(h.ik x hx).1, fun _ => (h.ik x hx).2⟩, fun x hx => ⟨(h.hk x hx).1, fun _ => (h.hk x hx).2⟩, h.ip, h.hp⟩
theorem OwnW.qin {w : World} {base : Nat} {q : Que} {r : QuR} (h : OwnW w base q r) : QuIn w q r :=
  ⟨⟨own_rc h.io, fun x hx => (h.ik x hx).1⟩, ⟨own_rc h.ho, fun x hx => (h.hk x hx).1⟩, h.ip, h.hp⟩
theorem ItR.ok.lt {w : World} {x : ItR} (h : x.ok w) (hn : 0 < x.it.m.ps.length) {a : Addr} (ha : x.pa = some a) : a.block < w.heap.size := by
  have h' : RC w (.slice x.pa x.it.m.ps.length x.pc) x.it.m.ps.length 5 (x.it.m.ps.flatMap Prp.cells) := h
  rw [ha] at h'
  exact rc_lt h' hn (by omega)
theorem OwnW.lower {w : World} {base base' : Nat} {q : Que} {r : QuR} (h : OwnW w base q r) (hb : base' ≤ base) : OwnW w base' q r :=
  ⟨own_lower h.io hb, own_lower h.ho hb, fun x hx => ⟨(h.ik x hx).1, fun hn a ha => ⟨Nat.le_trans hb ((h.ik x hx).2 hn a ha).1, ((h.ik x hx).2 hn a ha).2⟩⟩, fun x hx => ⟨(h.hk x hx).1, fun hn a ha => ⟨Nat.le_trans hb ((h.hk x hx).2 hn a ha).1, ((h.hk x hx).2 hn a ha).2⟩⟩, h.ip, h.hp⟩
/-- A new item at the end: its cells beside the others'. -/
theorem push_own {w4 w5 w6 w' : World} {base G g cap : Nat} {q : Que} {r' : QuR} {x : ItR} {v : Value} (ho : OwnW w4 base q r') (hbase : base ≤ w4.heap.size) (b5 : Below w4.heap.size w4 w5) (hG : w4.heap.size ≤ G) (hG5 : G < w5.heap.size)
    (r5 : x.ok w5) (hA : ∀ a, x.pa = some a → G < a.block) (b6 : Below w5.heap.size w5 w6)
    (o' : w'.ownsRow base 44 7 (.slice (some ⟨g, 0, none⟩) (r'.is.length + 1) cap) (r'.is.length + 1) (r'.is.flatMap ItR.cells ++ x.cells)) (gr : w6.grownBy w' (Value.slice r'.ia r'.is.length r'.ic).ownBlock)
    (hat : (Value.slice r'.ia r'.is.length r'.ic).ownBlock = some g ∨ w5.heap.size ≤ g) (qd : Bool) (qp qs qt : Int) (qn : ByteArray) :
    OwnW (w'.setCell ⟨G, 5, none⟩ v) base ⟨qn, qd, qp, qs, qt, q.items ++ [x.it], q.held⟩ ⟨some ⟨g, 0, none⟩, cap, r'.is ++ [x], r'.ha, r'.hc, r'.hs⟩ := by
  obtain ⟨io, ho', ik, hk, ip, hp⟩ := ho
  have hib : ∀ k, (Value.slice r'.ia r'.is.length r'.ic).ownBlock = some k → k < w4.heap.size := fun k hk => own_lt' io hk
  have hhb : ∀ k, (Value.slice r'.ha r'.hs.length r'.hc).ownBlock = some k → k < w4.heap.size := fun k hk => own_lt' ho' hk
  have hs45 := b5.size
  have hs56 := b6.size
  have hgG : g ≠ G := by
    rcases hat with h | h
    · have := hib g h; omega
    · omega
  have keep : ∀ k, k < w4.heap.size → (Value.slice r'.ia r'.is.length r'.ic).ownBlock ≠ some k → (w'.setCell ⟨G, 5, none⟩ v).heap[k]? = w4.heap[k]? := fun k hk hne =>
    (Below.heap_setCell w' ⟨G, 5, none⟩ v k (by show k ≠ G; omega)).trans ((gr.block k (by omega) (fun e => hne e.symm)).trans ((b6.block k (by omega)).trans (b5.block k hk)))
  have keep5 : ∀ k, k < w5.heap.size → k ≠ G → (Value.slice r'.ia r'.is.length r'.ic).ownBlock ≠ some k → (w'.setCell ⟨G, 5, none⟩ v).heap[k]? = w5.heap[k]? := fun k hk hn hne =>
    (Below.heap_setCell w' ⟨G, 5, none⟩ v k hn).trans ((gr.block k (by omega) (fun e => hne e.symm)).trans (b6.block k hk))
  have old : ∀ y : ItR, y.ok w4 → (0 < y.it.m.ps.length → ∀ a, y.pa = some a → base ≤ a.block ∧ (Value.slice r'.ia r'.is.length r'.ic).ownBlock ≠ some a.block ∧ (Value.slice r'.ha r'.hs.length r'.hc).ownBlock ≠ some a.block) → y.ok (w'.setCell ⟨G, 5, none⟩ v) ∧ (0 < y.it.m.ps.length → ∀ a, y.pa = some a → base ≤ a.block ∧ (Value.slice (some ⟨g, 0, none⟩) (r'.is ++ [x]).length cap).ownBlock ≠ some a.block ∧ (Value.slice r'.ha r'.hs.length r'.hc).ownBlock ≠ some a.block) := fun y h1 h2 => by
    refine ⟨rc_keep h1 (fun hn A n c he hlt => keep _ hlt (fun e => by injection he with he; exact (h2 hn A he).2.1 e)), fun hn a ha => ⟨(h2 hn a ha).1, fun e => ?_, (h2 hn a ha).2.2⟩⟩
    injection e with e
    have e' : g = a.block := e
    rcases hat with h | h
    · exact (h2 hn a ha).2.1 (by rw [h, e'])
    · have := h1.lt hn ha; omega
  refine ⟨?_, ?_, ?_, fun y hy => old y.r (hk y hy).1 (hk y hy).2, by rw [List.map_append, ip]; rfl, hp⟩
  · have h := own_other o' (grownBy_set w' G 5 v) (fun k hk e => by injection e with e; have hk' : g = k := (by injection hk); omega)
    rw [List.flatMap_append, List.length_append]
    simpa using h
  · have h0 : w6.ownsRow base 46 10 (.slice r'.ha r'.hs.length r'.hc) r'.hs.length (r'.hs.flatMap HlR.cells) := own_below (own_below ho' b5) b6
    have h1 := own_other h0 gr (fun k hk e => own_tyne io ho' (by decide) k e hk)
    exact own_other h1 (grownBy_set w' G 5 v) (fun k hk e => by injection e with e; have := hhb k hk; omega)
  · intro y hy
    rcases List.mem_append.1 hy with hy | hy
    · exact old y (ik y hy).1 (ik y hy).2
    · obtain rfl : y = x := by simpa using hy
      refine ⟨rc_keep r5 (fun hn A n c he hlt => keep5 _ hlt ?_ (fun e => ?_)), fun hn a ha => ⟨by have := hA a ha; omega, fun e => ?_, fun e => ?_⟩⟩
      · injection he with he; have := hA A he; omega
      · injection he with he; have := hA A he; have := hib _ e; omega
      · injection e with e
        have e' : g = a.block := e
        rcases hat with h | h
        · have := hib g h; have := hA a ha; omega
        · have := r5.lt hn ha; omega
      · have := hA a ha; have := hhb _ e; omega
/-- A block below all that is owned is written. -/
theorem OwnW.far {w w2 : World} {base k : Nat} {q : Que} {r : QuR} (h : OwnW w base q r) (hg : w.grownBy w2 (some k)) (hk : k < base) : OwnW w2 base q r := by
  have old : ∀ y : ItR, y.ok w → (0 < y.it.m.ps.length → ∀ a, y.pa = some a → base ≤ a.block) → y.ok w2 := fun y h1 h2 =>
    rc_keep h1 (fun hn A n c he hlt => hg.block _ hlt (fun e => by injection he with he; have := h2 hn A he; injection e with e; omega))
  exact ⟨own_other h.io hg (fun j hj e => by have := own_base h.io j hj; injection e with e; omega), own_other h.ho hg (fun j hj e => by have := own_base h.ho j hj; injection e with e; omega),
    fun x hx => ⟨old x (h.ik x hx).1 (fun hn a ha => ((h.ik x hx).2 hn a ha).1), (h.ik x hx).2⟩, fun x hx => ⟨old x.r (h.hk x hx).1 (fun hn a ha => ((h.hk x hx).2 hn a ha).1), (h.hk x hx).2⟩, h.ip, h.hp⟩
theorem cells7_5 {w : World} {g : Nat} {t : TypeId} {c0 c1 c2 c3 c4 c5 c6 : Value} {fr : Nat × Nat} (h : w.heap[g]? = some (.cells #[c0, c1, c2, c3, c4, c5, c6] t fr)) (a : Value) : (w.setCell ⟨g, 5, none⟩ a).heap[g]? = some (.cells #[c0, c1, c2, c3, c4, a, c6] t fr) := by
  simp [World.setCell, Array.getElem?_modify, h]
theorem push_leaf {W w4 W6 w5 w6 w' : World} {Bs g cap : Nat} {q : Que} {r' : QuR} {m : Msg} {A' : Option Addr} {c' : Nat} (sq : Int)
    (ho : OwnW w4 Bs q r') (hbs : W.heap.size ≤ Bs ∧ Bs ≤ w4.heap.size) (b46 : Below w4.heap.size w4 W6) (bw6 : Below W.heap.size W W6) (hs6 : W6.heap.size = w4.heap.size + 1) (b5 : Below W6.heap.size W6 w5)
    (r5 : RPr w5 (.slice A' m.ps.length c') m.ps) (hb5 : ∀ a, A' = some a → W6.heap.size ≤ a.block) (b6 : Below w5.heap.size w5 w6)
    (rg : w'.heap[w4.heap.size]? = some (.cells #[.string q.name, .bool q.dur, .int .i64 q.depth, .int .i64 sq, .int .i64 q.tag, .slice r'.ia r'.is.length r'.ic, .slice r'.ha r'.hs.length r'.hc] 25 (0, 0)))
    (o' : w'.ownsRow Bs 44 7 (.slice (some ⟨g, 0, none⟩) (r'.is.length + 1) cap) (r'.is.length + 1) (r'.is.flatMap ItR.cells ++ [.int .i64 sq, .bool false, .string m.top, .string m.body, .slice A' m.ps.length c', .bool m.dur, .int .i64 m.unt]))
    (gr : w6.grownBy w' (Value.slice r'.ia r'.is.length r'.ic).ownBlock) (hat : (Value.slice r'.ia r'.is.length r'.ic).ownBlock = some g ∨ w5.heap.size ≤ g) :
    Hid (OwnW (w'.setCell ⟨w4.heap.size, 5, none⟩ (.slice (some ⟨g, 0, none⟩) (r'.is.length + 1) cap)) Bs ⟨q.name, q.dur, q.depth, sq, q.tag, q.items ++ [⟨sq, false, m⟩], q.held⟩ ⟨some ⟨g, 0, none⟩, cap, r'.is ++ [⟨⟨sq, false, m⟩, A', c'⟩], r'.ha, r'.hc, r'.hs⟩) ∧
    Hid ((w'.setCell ⟨w4.heap.size, 5, none⟩ (.slice (some ⟨g, 0, none⟩) (r'.is.length + 1) cap)).heap[w4.heap.size]? = some (.cells #[.string q.name, .bool q.dur, .int .i64 q.depth, .int .i64 sq, .int .i64 q.tag, .slice (some ⟨g, 0, none⟩) (r'.is.length + 1) cap, .slice r'.ha r'.hs.length r'.hc] 25 (0, 0))) ∧
    Hid (Below W.heap.size W (w'.setCell ⟨w4.heap.size, 5, none⟩ (.slice (some ⟨g, 0, none⟩) (r'.is.length + 1) cap))) := by
  have hs5 := b5.size
  have hw4 : W.heap.size ≤ w4.heap.size := Nat.le_trans hbs.1 hbs.2
  have hw5 : W.heap.size ≤ w5.heap.size := by omega
  refine ⟨Lib.hid ?_, Lib.hid (cells7_5 rg _), Lib.hid ?_⟩
  · exact push_own (x := ⟨⟨sq, false, m⟩, A', c'⟩) ho hbs.2 (b46.trans (b5.mono b46.size)) (Nat.le_refl _) (by omega) r5 (fun a ha => by have h := hb5 a ha; omega) b6 o' gr hat _ _ _ _ _
  · exact Below.setCell (((bw6.trans (b5.mono bw6.size)).trans (b6.mono hw5)).grown gr (Nat.le_trans hw5 b6.size) (fun k hk => by have := own_base ho.io k hk; omega)) hw4 _
abbrev QuR.oi (r : QuR) : Option Nat := (Value.slice r.ia r.is.length r.ic).ownBlock
abbrev QuR.oh (r : QuR) : Option Nat := (Value.slice r.ha r.hs.length r.hc).ownBlock
/-- An item whose properties are the call's own, in no row and not in block G. -/
structure Lo (w : World) (base G : Nat) (vi vh : Option Nat) (x : ItR) : Prop where
  ok : x.ok w
  far : 0 < x.it.m.ps.length → ∀ a, x.pa = some a → base ≤ a.block ∧ a.block ≠ G ∧ vi ≠ some a.block ∧ vh ≠ some a.block
theorem Lo.to {w w' : World} {base G : Nat} {vi vh vi' vh' row : Option Nat} {x : ItR} (h : Lo w base G vi vh x) (gr : w.grownBy w' row) (hrow : row = vi ∨ row = vh ∨ row = some G) (hi : vi' = vi ∨ ∃ k, vi' = some k ∧ w.heap.size ≤ k) (hh : vh' = vh ∨ ∃ k, vh' = some k ∧ w.heap.size ≤ k) : Lo w' base G vi' vh' x := by
  refine ⟨rc_keep h.ok (fun hn A n c he hlt => gr.block _ hlt (fun e => ?_)), fun hn a ha => ?_⟩
  · injection he with he
    have hf := h.far hn A he
    rcases hrow with rfl | rfl | rfl
    · exact hf.2.2.1 e.symm
    · exact hf.2.2.2 e.symm
    · injection e with e; exact hf.2.1 e
  · have hf := h.far hn a ha
    have hl := h.ok.lt hn ha
    refine ⟨hf.1, hf.2.1, ?_, ?_⟩
    · rcases hi with rfl | ⟨k, rfl, hk⟩
      · exact hf.2.2.1
      · intro e; injection e with e; omega
    · rcases hh with rfl | ⟨k, rfl, hk⟩
      · exact hf.2.2.2
      · intro e; injection e with e; omega
theorem Lo.mark {w : World} {base G : Nat} {vi vh : Option Nat} {x : ItR} (h : Lo w base G vi vh x) : Lo w base G vi vh x.mark := ⟨h.ok, h.far⟩
theorem Lo.fresh {w' : World} {base G n : Nat} {vi vh : Option Nat} {x : ItR} (ok : x.ok w') (hb : ∀ a, x.pa = some a → n ≤ a.block) (hB : base ≤ n) (hG : G < n) (hi : ∀ k, vi = some k → k < n) (hh : ∀ k, vh = some k → k < n) : Lo w' base G vi vh x :=
  ⟨ok, fun _ a ha => ⟨Nat.le_trans hB (hb a ha), by have := hb a ha; omega, fun e => by have := hi _ e; have := hb a ha; omega, fun e => by have := hh _ e; have := hb a ha; omega⟩⟩
structure OwnG (w : World) (base G : Nat) (q : Que) (r : QuR) : Prop where
  io : w.ownsRow base 44 7 (.slice r.ia r.is.length r.ic) r.is.length (r.is.flatMap ItR.cells)
  ho : w.ownsRow base 46 10 (.slice r.ha r.hs.length r.hc) r.hs.length (r.hs.flatMap HlR.cells)
  ig : r.oi ≠ some G
  hg : r.oh ≠ some G
  ik : ∀ x ∈ r.is, Lo w base G r.oi r.oh x
  hk : ∀ x ∈ r.hs, Lo w base G r.oi r.oh x.r
  ip : r.is.map ItR.it = q.items
  hp : r.hs.map HlR.pl = q.held
theorem OwnW.toG {w w' : World} {base G : Nat} {q : Que} {r : QuR} (h : OwnW w base q r) (hG : w.heap.size ≤ G) (b : Below w.heap.size w w') : OwnG w' base G q r := by
  have old : ∀ x : ItR, x.ok w ∧ (0 < x.it.m.ps.length → ∀ a, x.pa = some a → base ≤ a.block ∧ r.oi ≠ some a.block ∧ r.oh ≠ some a.block) → Lo w' base G r.oi r.oh x := fun x hx =>
    ⟨rc_below hx.1 b, fun hn a ha => ⟨(hx.2 hn a ha).1, by have := hx.1.lt hn ha; omega, (hx.2 hn a ha).2⟩⟩
  exact ⟨own_below h.io b, own_below h.ho b, fun e => by have := own_lt' h.io e; omega, fun e => by have := own_lt' h.ho e; omega, fun x hx => old x (h.ik x hx), fun x hx => old x.r (h.hk x hx), h.ip, h.hp⟩
theorem OwnG.toW {w : World} {base G : Nat} {q : Que} {r : QuR} (h : OwnG w base G q r) : OwnW w base q r :=
  ⟨h.io, h.ho, fun x hx => ⟨(h.ik x hx).ok, fun hn a ha => ⟨((h.ik x hx).far hn a ha).1, ((h.ik x hx).far hn a ha).2.2⟩⟩, fun x hx => ⟨(h.hk x hx).ok, fun hn a ha => ⟨((h.hk x hx).far hn a ha).1, ((h.hk x hx).far hn a ha).2.2⟩⟩, h.ip, h.hp⟩
theorem OwnG.setG {w w' : World} {base G : Nat} {q : Que} {r : QuR} (h : OwnG w base G q r) (gr : w.grownBy w' (some G)) : OwnG w' base G q r :=
  ⟨own_other h.io gr (fun k hk e => h.ig (hk.trans (by rw [← e]))), own_other h.ho gr (fun k hk e => h.hg (hk.trans (by rw [← e]))), h.ig, h.hg,
    fun x hx => (h.ik x hx).to gr (.inr (.inr rfl)) (.inl rfl) (.inl rfl), fun x hx => (h.hk x hx).to gr (.inr (.inr rfl)) (.inl rfl) (.inl rfl), h.ip, h.hp⟩
theorem OwnG.below {w w' : World} {base G : Nat} {q : Que} {r : QuR} (h : OwnG w base G q r) (b : Below w.heap.size w w') : OwnG w' base G q r := h.setG (grownBy_below b _)
/-- The items' row is another one now. -/
theorem OwnG.itemsTo {w w' : World} {base G : Nat} {q : Que} {r : QuR} (h : OwnG w base G q r) (hG : G < w.heap.size) (gr : w.grownBy w' r.oi) {A : Option Addr} {c : Nat} {is' : List ItR} (o' : w'.ownsRow base 44 7 (.slice A is'.length c) is'.length (is'.flatMap ItR.cells))
    (hat : (Value.slice A is'.length c).ownBlock = r.oi ∨ ∃ k, (Value.slice A is'.length c).ownBlock = some k ∧ w.heap.size ≤ k) (hx : ∀ x ∈ is', Lo w base G r.oi r.oh x) {its : List Itm} (hits : is'.map ItR.it = its) (qn : ByteArray) (qd : Bool) (qp qs qt : Int) :
    OwnG w' base G ⟨qn, qd, qp, qs, qt, its, q.held⟩ ⟨A, c, is', r.ha, r.hc, r.hs⟩ :=
  ⟨o', own_other h.ho gr (fun k hk e => own_tyne h.io h.ho (by decide) k e hk), by
      rcases hat with e | ⟨k, e, hk⟩
      · show (Value.slice A is'.length c).ownBlock ≠ some G; rw [e]; exact h.ig
      · show (Value.slice A is'.length c).ownBlock ≠ some G; rw [e]; intro e'; injection e' with e'; omega,
    h.hg, fun x hx' => (hx x hx').to gr (.inl rfl) hat (.inl rfl), fun x hx' => (h.hk x hx').to gr (.inl rfl) hat (.inl rfl), hits, h.hp⟩
/-- The row of what is held is another one now. -/
theorem OwnG.heldTo {w w' : World} {base G : Nat} {q : Que} {r : QuR} (h : OwnG w base G q r) (hG : G < w.heap.size) (gr : w.grownBy w' r.oh) {A : Option Addr} {c : Nat} {hs' : List HlR} (o' : w'.ownsRow base 46 10 (.slice A hs'.length c) hs'.length (hs'.flatMap HlR.cells))
    (hat : (Value.slice A hs'.length c).ownBlock = r.oh ∨ ∃ k, (Value.slice A hs'.length c).ownBlock = some k ∧ w.heap.size ≤ k) (hx : ∀ x ∈ hs', Lo w base G r.oi r.oh x.r) {hls : List Hld} (hits : hs'.map HlR.pl = hls) (qn : ByteArray) (qd : Bool) (qp qs qt : Int) :
    OwnG w' base G ⟨qn, qd, qp, qs, qt, q.items, hls⟩ ⟨r.ia, r.ic, r.is, A, c, hs'⟩ :=
  ⟨own_other h.io gr (fun k hk e => own_tyne h.io h.ho (by decide) k hk e), o', h.ig, by
      rcases hat with e | ⟨k, e, hk⟩
      · show (Value.slice A hs'.length c).ownBlock ≠ some G; rw [e]; exact h.hg
      · show (Value.slice A hs'.length c).ownBlock ≠ some G; rw [e]; intro e'; injection e' with e'; omega,
    fun x hx' => (h.ik x hx').to gr (.inr (.inl rfl)) (.inl rfl) hat, fun x hx' => (hx x hx').to gr (.inr (.inl rfl)) (.inl rfl) hat, h.ip, hits⟩
/-- A queue of the call's own, in block G. -/
structure GQ (W wx : World) (base G : Nat) (q : Que) (r : QuR) : Prop where
  own : OwnG wx base G q r
  row : wx.heap[G]? = some (.cells #[.string q.name, .bool q.dur, .int .i64 q.depth, .int .i64 q.seq, .int .i64 q.tag, .slice r.ia r.is.length r.ic, .slice r.ha r.hs.length r.hc] 25 (0, 0))
  bel : Below W.heap.size W wx
  hW : W.heap.size ≤ base
  hB : base ≤ G
theorem GQ.start {W w3 : World} {base : Nat} {q : Que} {r : QuR} (ho : OwnW w3 base q r) (b : Below W.heap.size W w3) (hW : W.heap.size ≤ base) (hb : base ≤ w3.heap.size) :
    GQ W (w3.alloc (.cells #[.string q.name, .bool q.dur, .int .i64 q.depth, .int .i64 q.seq, .int .i64 q.tag, .slice r.ia r.is.length r.ic, .slice r.ha r.hs.length r.hc] 25)) base w3.heap.size q r :=
  ⟨ho.toG (Nat.le_refl _) ((Below.refl _ _).alloc (Nat.le_refl _) _), heap_alloc_new w3 _, b.alloc b.size _, hW, hb⟩
theorem GQ.lt {W wx : World} {base G : Nat} {q : Que} {r : QuR} (h : GQ W wx base G q r) : G < wx.heap.size := (Array.getElem?_eq_some_iff.1 h.row).1
theorem GQ.below {W wx w' : World} {base G : Nat} {q : Que} {r : QuR} (h : GQ W wx base G q r) (b : Below wx.heap.size wx w') : GQ W w' base G q r :=
  ⟨h.own.below b, (b.block G h.lt).trans h.row, h.bel.trans (b.mono h.bel.size), h.hW, h.hB⟩
theorem GQ.drew {W wx : World} {base G : Nat} {q : Que} {r : QuR} (h : GQ W wx base G q r) : GQ W wx.drew base G q r := h.below (Below.refl _ _).drew
theorem GQ.cell {W wx : World} {base G : Nat} {q : Que} {r : QuR} (h : GQ W wx base G q r) (j : Nat) (u : Value) (hj : (#[.string q.name, .bool q.dur, .int .i64 q.depth, .int .i64 q.seq, .int .i64 q.tag, .slice r.ia r.is.length r.ic, .slice r.ha r.hs.length r.hc] : Array Value)[j]? = some u) : wx.cell? ⟨G, j, none⟩ = some u := by
  simp only [World.cell?, h.row]; exact hj
theorem GQ.frz {W wx : World} {base G : Nat} {q : Que} {r : QuR} (h : GQ W wx base G q r) (j : Nat) : wx.frozen? ⟨G, j, none⟩ = false := frozen_of_row _ _ j _ _ h.row
theorem GQ.ptrH {W wx : World} {base G : Nat} {q : Que} {r : QuR} (h : GQ W wx base G q r) (hn : 0 < r.hs.length) : ∃ g, r.ha = some ⟨g, 0, none⟩ := by
  rcases h.own.ho.2 with ⟨_, h0⟩ | ⟨g, cc, cur, h1, _⟩
  · omega
  · injection h1 with h1; exact ⟨g, h1⟩
theorem GQ.ptrI {W wx : World} {base G : Nat} {q : Que} {r : QuR} (h : GQ W wx base G q r) (hn : 0 < r.is.length) : ∃ g, r.ia = some ⟨g, 0, none⟩ := by
  rcases h.own.io.2 with ⟨_, h0⟩ | ⟨g, cc, cur, h1, _⟩
  · omega
  · injection h1 with h1; exact ⟨g, h1⟩
theorem GQ.cellH {W wx : World} {base G g : Nat} {q : Que} {r : QuR} (h : GQ W wx base G q r) (he : r.ha = some ⟨g, 0, none⟩) {k : Nat} {x : HlR} (hx : r.hs[k]? = some x) (j : Nat) (u : Value) (hu : x.cells[j]? = some u) : wx.cell? ⟨g, k * 10 + j, none⟩ = some u := by
  have ho := h.own.ho
  rw [he] at ho
  exact own_cell (f := HlR.cells) (s := 10) (by omega) (fun _ => rfl) ho hx j u hu
theorem GQ.cellI {W wx : World} {base G g : Nat} {q : Que} {r : QuR} (h : GQ W wx base G q r) (he : r.ia = some ⟨g, 0, none⟩) {k : Nat} {x : ItR} (hx : r.is[k]? = some x) (j : Nat) (u : Value) (hu : x.cells[j]? = some u) : wx.cell? ⟨g, k * 7 + j, none⟩ = some u := by
  have ho := h.own.io
  rw [he] at ho
  exact own_cell (f := ItR.cells) (s := 7) (by omega) (fun _ => rfl) ho hx j u hu
theorem cells7_6 {w : World} {g : Nat} {t : TypeId} {c0 c1 c2 c3 c4 c5 c6 : Value} {fr : Nat × Nat} (h : w.heap[g]? = some (.cells #[c0, c1, c2, c3, c4, c5, c6] t fr)) (a : Value) : (w.setCell ⟨g, 6, none⟩ a).heap[g]? = some (.cells #[c0, c1, c2, c3, c4, c5, a] t fr) := by
  simp [World.setCell, Array.getElem?_modify, h]
theorem cells7_4 {w : World} {g : Nat} {t : TypeId} {c0 c1 c2 c3 c4 c5 c6 : Value} {fr : Nat × Nat} (h : w.heap[g]? = some (.cells #[c0, c1, c2, c3, c4, c5, c6] t fr)) (a : Value) : (w.setCell ⟨g, 4, none⟩ a).heap[g]? = some (.cells #[c0, c1, c2, c3, a, c5, c6] t fr) := by
  simp [World.setCell, Array.getElem?_modify, h]
theorem flat_del {X : Type} (f : X → List Value) (s : Nat) (hf : ∀ x, (f x).length = s) (xs : List X) (k : Nat) (hk : k < xs.length) : (xs.flatMap f).take (k * s) ++ (xs.flatMap f).drop ((k + 1) * s) = (xs.eraseIdx k).flatMap f := by
  have hl : ∀ i, i ≤ xs.length → ((xs.take i).flatMap f).length = i * s := fun i hi => by rw [flat_len f s hf, List.length_take, Nat.min_eq_left hi]
  have e : ∀ i, xs.flatMap f = (xs.take i).flatMap f ++ (xs.drop i).flatMap f := fun i => by rw [← List.flatMap_append, List.take_append_drop]
  rw [List.eraseIdx_eq_take_drop_succ, List.flatMap_append]
  congr 1
  · rw [e k, List.take_left' (hl k (by omega))]
  · rw [e (k + 1), List.drop_left' (hl (k + 1) (by omega))]
theorem eraseIdx_map' {α β : Type} (f : α → β) : ∀ (l : List α) (k : Nat), (l.map f).eraseIdx k = (l.eraseIdx k).map f
  | [], _ => rfl
  | _ :: _, 0 => rfl
  | a :: l, k + 1 => congrArg (f a :: ·) (eraseIdx_map' f l k)
/-- Delete of one that is held. -/
theorem GQ.delH {W wx : World} {base G g : Nat} {q : Que} {r : QuR} (h : GQ W wx base G q r) (he : r.ha = some ⟨g, 0, none⟩) {k : Nat} {x : HlR} (hx : r.hs[k]? = some x) :
    Calls Tryd.prog 46 #[.slice (some ⟨g, 0, none⟩) r.hs.length r.hc, .int .i64 k, .int .i64 ((k : Int) + 1)] wx fun e w' => e = .returned (.slice (some ⟨g, 0, none⟩) (r.hs.eraseIdx k).length r.hc) ∧
      w'.heap[G]? = some (.cells #[.string q.name, .bool q.dur, .int .i64 q.depth, .int .i64 q.seq, .int .i64 q.tag, .slice r.ia r.is.length r.ic, .slice r.ha r.hs.length r.hc] 25 (0, 0)) ∧
      GQ W (w'.setCell ⟨G, 6, none⟩ (.slice (some ⟨g, 0, none⟩) (r.hs.eraseIdx k).length r.hc)) base G ⟨q.name, q.dur, q.depth, q.seq, q.tag, q.items, q.held.eraseIdx k⟩ ⟨r.ia, r.ic, r.is, some ⟨g, 0, none⟩, r.hc, r.hs.eraseIdx k⟩ ∧
      wx.grownBy w' (some g) ∧
      (∀ y, Lo wx base G r.oi r.oh y → Lo (w'.setCell ⟨G, 6, none⟩ (.slice (some ⟨g, 0, none⟩) (r.hs.eraseIdx k).length r.hc)) base G r.oi (Value.slice (some ⟨g, 0, none⟩) (r.hs.eraseIdx k).length r.hc).ownBlock y) := by
  have hk := (List.getElem?_eq_some_iff.1 hx).1
  have ho := h.own.ho
  rw [he] at ho
  have e1 : ((k : Int) + 1) = ((k + 1 : Nat) : Int) := by omega
  rw [e1]
  refine (delH_c (i := k) (j := k + 1) ho (cells_oneH r.hs) (by omega) (by omega)).mono ?_
  rintro e w' ⟨rfl, o', gr⟩
  have hl : k + (r.hs.length - (k + 1)) = (r.hs.eraseIdx k).length := by rw [List.length_eraseIdx]; simp only [hk, if_true]; omega
  rw [hl, flat_del HlR.cells 10 (fun _ => rfl) r.hs k hk] at o'
  have hoh : r.oh = some g := by show (Value.slice r.ha r.hs.length r.hc).ownBlock = some g; rw [he]; rfl
  have row' := (gr.block G h.lt (fun e => h.own.hg (by rw [hoh, ← e]))).trans h.row
  have gr' : wx.grownBy w' r.oh := by rw [hoh]; exact gr
  have hoe : (Value.slice (some ⟨g, 0, none⟩) (r.hs.eraseIdx k).length r.hc).ownBlock = r.oh := by rw [hoh]; rfl
  have oG := h.own.heldTo h.lt gr' o' (.inl hoe) (fun y hy => h.own.hk y (List.mem_of_mem_eraseIdx hy)) (hls := q.held.eraseIdx k) (by rw [← h.own.hp, eraseIdx_map']) q.name q.dur q.depth q.seq q.tag
  have hbs := h.bel.size
  have hgb : base ≤ g := own_base ho g rfl
  refine ⟨by rw [hl], row', ⟨oG.setG (grownBy_set _ _ _ _), cells7_6 row' _, Below.setCell (h.bel.grown gr hbs (fun j hj => by injection hj with hj; have := h.hW; omega)) (Nat.le_trans h.hW h.hB) _, h.hW, h.hB⟩, gr, fun y ly => ?_⟩
  have l1 := ly.to gr' (.inr (.inl rfl)) (.inl rfl) (.inl hoe)
  exact l1.to (grownBy_set _ _ _ _) (.inr (.inr rfl)) (.inl rfl) (.inl rfl)
/-- Delete of an item. -/
theorem GQ.delI {W wx : World} {base G g : Nat} {q : Que} {r : QuR} (h : GQ W wx base G q r) (he : r.ia = some ⟨g, 0, none⟩) {k : Nat} {x : ItR} (hx : r.is[k]? = some x) :
    Calls Tryd.prog 43 #[.slice (some ⟨g, 0, none⟩) r.is.length r.ic, .int .i64 k, .int .i64 ((k : Int) + 1)] wx fun e w' => e = .returned (.slice (some ⟨g, 0, none⟩) (r.is.eraseIdx k).length r.ic) ∧
      w'.heap[G]? = some (.cells #[.string q.name, .bool q.dur, .int .i64 q.depth, .int .i64 q.seq, .int .i64 q.tag, .slice r.ia r.is.length r.ic, .slice r.ha r.hs.length r.hc] 25 (0, 0)) ∧
      GQ W (w'.setCell ⟨G, 5, none⟩ (.slice (some ⟨g, 0, none⟩) (r.is.eraseIdx k).length r.ic)) base G ⟨q.name, q.dur, q.depth, q.seq, q.tag, q.items.eraseIdx k, q.held⟩ ⟨some ⟨g, 0, none⟩, r.ic, r.is.eraseIdx k, r.ha, r.hc, r.hs⟩ ∧
      wx.grownBy w' (some g) ∧
      (∀ y, Lo wx base G r.oi r.oh y → Lo (w'.setCell ⟨G, 5, none⟩ (.slice (some ⟨g, 0, none⟩) (r.is.eraseIdx k).length r.ic)) base G (Value.slice (some ⟨g, 0, none⟩) (r.is.eraseIdx k).length r.ic).ownBlock r.oh y) := by
  have hk := (List.getElem?_eq_some_iff.1 hx).1
  have ho := h.own.io
  rw [he] at ho
  have e1 : ((k : Int) + 1) = ((k + 1 : Nat) : Int) := by omega
  rw [e1]
  refine (delI_c (i := k) (j := k + 1) ho (cells_oneI r.is) (by omega) (by omega)).mono ?_
  rintro e w' ⟨rfl, o', gr⟩
  have hl : k + (r.is.length - (k + 1)) = (r.is.eraseIdx k).length := by rw [List.length_eraseIdx]; simp only [hk, if_true]; omega
  rw [hl, flat_del ItR.cells 7 (fun _ => rfl) r.is k hk] at o'
  have hoh : r.oi = some g := by show (Value.slice r.ia r.is.length r.ic).ownBlock = some g; rw [he]; rfl
  have row' := (gr.block G h.lt (fun e => h.own.ig (by rw [hoh, ← e]))).trans h.row
  have gr' : wx.grownBy w' r.oi := by rw [hoh]; exact gr
  have hoe : (Value.slice (some ⟨g, 0, none⟩) (r.is.eraseIdx k).length r.ic).ownBlock = r.oi := by rw [hoh]; rfl
  have oG := h.own.itemsTo h.lt gr' o' (.inl hoe) (fun y hy => h.own.ik y (List.mem_of_mem_eraseIdx hy)) (its := q.items.eraseIdx k) (by rw [← h.own.ip, eraseIdx_map']) q.name q.dur q.depth q.seq q.tag
  have hbs := h.bel.size
  have hgb : base ≤ g := own_base ho g rfl
  refine ⟨by rw [hl], row', ⟨oG.setG (grownBy_set _ _ _ _), cells7_5 row' _, Below.setCell (h.bel.grown gr hbs (fun j hj => by injection hj with hj; have := h.hW; omega)) (Nat.le_trans h.hW h.hB) _, h.hW, h.hB⟩, gr, fun y ly => ?_⟩
  have l1 := ly.to gr' (.inl rfl) (.inl hoe) (.inl rfl)
  exact l1.to (grownBy_set _ _ _ _) (.inr (.inr rfl)) (.inl rfl) (.inl rfl)
/-- Where an item is put, among the plain ones. -/
def insQ (xs : List Itm) (y : Itm) : List Itm := xs.takeWhile (fun z => decide (z.seq < y.seq)) ++ [⟨y.seq, true, y.m⟩] ++ xs.dropWhile (fun z => decide (z.seq < y.seq))
theorem place_while (s : Int) : ∀ (l : List Itm) (i : Nat), i ≤ l.length → (∀ (q : Nat) (x : Itm), q < i → l[q]? = some x → x.seq < s) → (∀ (q : Nat) (x : Itm), i ≤ q → l[q]? = some x → s ≤ x.seq) → l.takeWhile (fun z => decide (z.seq < s)) = l.take i ∧ l.dropWhile (fun z => decide (z.seq < s)) = l.drop i
  | [], i, h, _, _ => by simp
  | a :: l, 0, h, _, h2 => by
    have := h2 0 a (Nat.le_refl _) rfl
    have e : decide (a.seq < s) = false := decide_eq_false (by omega)
    simp [List.takeWhile, List.dropWhile, e]
  | a :: l, i + 1, h, h1, h2 => by
    have ha := h1 0 a (by omega) rfl
    have e : decide (a.seq < s) = true := decide_eq_true ha
    have ih := place_while s l i (by simpa using h) (fun q x hq hx => h1 (q + 1) x (by omega) (by simpa using hx)) (fun q x hq hx => h2 (q + 1) x (by omega) (by simpa using hx))
    simp [List.takeWhile, List.dropWhile, e, ih.1, ih.2]
theorem place_ins {xs : List ItR} {y : ItR} {i : Nat} (h : ItPlace xs y.it.seq i) : (xs.take i ++ [y.mark] ++ xs.drop i).map ItR.it = insQ (xs.map ItR.it) y.it := by
  obtain ⟨h0, h1, h2⟩ := h
  have hp := place_while y.it.seq (xs.map ItR.it) i (by simpa using h0)
    (fun q x hq hx => by rw [List.getElem?_map] at hx; obtain ⟨z, hz, rfl⟩ := Option.map_eq_some_iff.1 hx; exact h1 q z hq hz)
    (fun q x hq hx => by rw [List.getElem?_map] at hx; obtain ⟨z, hz, rfl⟩ := Option.map_eq_some_iff.1 hx; exact h2 q z hq hz)
  unfold insQ
  rw [hp.1, hp.2, List.map_append, List.map_append, List.map_take, List.map_drop]
  rfl
/-- The numbers rise. -/
def Rise (l : List Itm) : Prop := l.Pairwise (fun a b => a.seq ≤ b.seq)
theorem Rise.mono {xs : List ItR} (h : Rise (xs.map ItR.it)) : ItMono xs := by
  intro a b x y hab hx hy
  obtain ⟨ha, rfl⟩ := List.getElem?_eq_some_iff.1 hx
  obtain ⟨hb, rfl⟩ := List.getElem?_eq_some_iff.1 hy
  rcases Nat.eq_or_lt_of_le hab with e | e
  · subst e; exact Int.le_refl _
  · have h' := List.pairwise_iff_getElem.1 h a b (by simpa using ha) (by simpa using hb) e
    simpa using h'
theorem mem_takeWhile_lt {s : Int} : ∀ {l : List Itm} {x : Itm}, x ∈ l.takeWhile (fun z => decide (z.seq < s)) → x.seq < s ∧ x ∈ l
  | [], x, h => by simp at h
  | a :: l, x, h => by
    by_cases e : a.seq < s
    · rw [List.takeWhile_cons_of_pos (by simpa using e)] at h
      rcases List.mem_cons.1 h with rfl | h
      · exact ⟨e, by simp⟩
      · have := mem_takeWhile_lt h; exact ⟨this.1, List.mem_cons_of_mem _ this.2⟩
    · rw [List.takeWhile_cons_of_neg (by simpa using e)] at h; simp at h
theorem Rise.drop_ge {s : Int} : ∀ {l : List Itm}, Rise l → ∀ x ∈ l.dropWhile (fun z => decide (z.seq < s)), s ≤ x.seq
  | [], _, x, h => by simp at h
  | a :: l, hr, x, h => by
    have hr' := List.pairwise_cons.1 hr
    by_cases e : a.seq < s
    · rw [List.dropWhile_cons_of_pos (by simpa using e)] at h
      exact Rise.drop_ge hr'.2 x h
    · rw [List.dropWhile_cons_of_neg (by simpa using e)] at h
      rcases List.mem_cons.1 h with rfl | h
      · omega
      · have := hr'.1 x h; omega
theorem Rise.ins {l : List Itm} (h : Rise l) (y : Itm) : Rise (insQ l y) := by
  unfold insQ Rise
  have hs : Rise (l.takeWhile (fun z => decide (z.seq < y.seq)) ++ l.dropWhile (fun z => decide (z.seq < y.seq))) := by rw [List.takeWhile_append_dropWhile]; exact h
  obtain ⟨h1, h2, h3⟩ := List.pairwise_append.1 hs
  rw [List.append_assoc, List.pairwise_append]
  refine ⟨h1, List.pairwise_cons.2 ⟨fun z hz => h.drop_ge z hz, h2⟩, fun a ha b hb => ?_⟩
  rcases List.mem_cons.1 hb with rfl | hb
  · have := (mem_takeWhile_lt ha).1; show a.seq ≤ y.seq; omega
  · exact h3 a ha b hb
/-- back, at the block of the queue that is made. -/
theorem GQ.back {W wx : World} {base G : Nat} {q : Que} {r : QuR} (h : GQ W wx base G q r) {x : ItR} (hl : Lo wx base G r.oi r.oh x) (hm : Rise q.items) (hn : q.items.length ≤ 4294967400) :
    Calls Tryd.prog 39 #[.pointer (some ⟨G, 0, none⟩), .agg #[.int .i64 x.it.seq, .bool x.it.again, .string x.it.m.top, .string x.it.m.body, .slice x.pa x.it.m.ps.length x.pc, .bool x.it.m.dur, .int .i64 x.it.m.unt]] wx fun e w' => e = .returned (.tuple #[]) ∧
      ∃ (A : Option Addr) (c : Nat) (ns : List ItR), GQ W w' base G ⟨q.name, q.dur, q.depth, q.seq, q.tag, insQ q.items x.it, q.held⟩ ⟨A, c, ns, r.ha, r.hc, r.hs⟩ ∧
        (∃ w1 : World, wx.grownBy w1 r.oi ∧ w1.grownBy w' (some G)) ∧ ((Value.slice A ns.length c).ownBlock = r.oi ∨ ∃ k, (Value.slice A ns.length c).ownBlock = some k ∧ wx.heap.size ≤ k) := by
  have hln : r.is.length ≤ 4294967400 := by rw [← h.own.ip, List.length_map] at hn; exact hn
  refine (back_c q r x h.row h.own.io ⟨own_rc h.own.io, fun y hy => (h.own.ik y hy).ok⟩ h.hB h.own.ig (Rise.mono (by rw [h.own.ip]; exact hm)) hln).mono ?_
  rintro e w' ⟨rfl, i, A, c, w1, hp, o1, gr, hat, rfl⟩
  have hlen : (r.is.take i ++ [x.mark] ++ r.is.drop i).length = r.is.length + 1 := by have := hp.1; simp; omega
  rw [← hlen] at o1 hat ⊢
  have oG := h.own.itemsTo h.lt gr o1 hat (fun y hy => by
    rcases List.mem_append.1 hy with hy | hy
    · rcases List.mem_append.1 hy with hy | hy
      · exact h.own.ik y (List.mem_of_mem_take hy)
      · obtain rfl : y = x.mark := by simpa using hy
        exact hl.mark
    · exact h.own.ik y (List.mem_of_mem_drop hy)) (place_ins hp) q.name q.dur q.depth q.seq q.tag
  rw [h.own.ip] at oG
  have row' := (gr.block G h.lt (fun e => h.own.ig e.symm)).trans h.row
  have hbs := h.bel.size
  exact ⟨rfl, A, c, _, ⟨oG.setG (grownBy_set _ _ _ _), cells7_5 row' _, Below.setCell (h.bel.grown gr hbs (fun j hj => by have := own_base h.own.io j hj; have := h.hW; omega)) (Nat.le_trans h.hW h.hB) _, h.hW, h.hB⟩, ⟨w1, gr, grownBy_set _ _ _ _⟩, hat⟩
theorem alloc_keep {w : World} (o : Obj) {k : Nat} {x : Obj} (h : w.heap[k]? = some x) : (w.alloc o).heap[k]? = some x := (Below.heap_alloc w o k (Array.getElem?_eq_some_iff.1 h).1).trans h
theorem alloc_at (w : World) (o : Obj) (k : Nat) (h : w.heap.size = k) : (w.alloc o).heap[k]? = some o := by subst h; exact heap_alloc_new w o
theorem ownw_no (w : World) (base : Nat) : OwnW w base noQ noR :=
  ⟨own_nil _ _ _ _, own_nil _ _ _ _, (fun x h => by cases h), (fun x h => by cases h), rfl, rfl⟩
end Go.Proofs.YtelhpdnclmpgoaaDoor
