/- Texts of this claim, joined: DeA, DeB, DeC, TkG, DeP, TbR, TbU, TbG, TbH, TbT, TableTells, Open3, OpenP. -/
import Derived.Test.YteigbejidfkhpaaDoorMTnc1
import Derived.Deep.RegionHeld3
import Derived.BigQuiet
import Derived.Deep.DeepCutAuto
import Derived.Deep.CutRange
import Derived.Deep.QuietTactic
import Derived.RegionDies
import Derived.Deep.RegionLaw
import Derived.Lib.QuietBelow
import Derived.ChangeSame
/- Layer 15: table.Decode: what a payload tells, and what the reading keeps. -/
namespace Go.Proofs.YteigbejidfkhpaaDoor
open Go Go.RowKit Go.Sort
set_option linter.unusedSimpArgs false
set_option linter.unusedVariables false

/-- What has been read, and what is left. -/
structure DSt where
  ns : List Int
  ts : List ByteArray
  ps : List Prp
  r : ByteArray
def stepD (x : UInt8) (st : DSt) : Option DSt :=
  if 0 < sizeOf' x.toNat then (numP (sizeOf' x.toNat) st.r).bind fun q => if q.1 < 9223372036854775808 then some ⟨st.ns ++ [(q.1 : Int)], st.ts, st.ps, q.2⟩ else none
  else if x = 84 then (tableP st.r).map fun q => ⟨st.ns, st.ts, q.1, q.2⟩
  else if x = 115 then (shortP st.r).map fun q => ⟨st.ns, st.ts ++ [q.1], st.ps, q.2⟩
  else (longP st.r).bind fun q => if q.1.size ≤ 1024 then some ⟨st.ns, st.ts ++ [q.1], st.ps, q.2⟩ else none
def runD : List UInt8 → DSt → Option DSt
  | [], st => some st
  | x :: f, st => (stepD x st).bind (runD f)
def decP (s : ByteArray) : Option Mth :=
  (numP 2 s).bind fun a => (numP 2 a.2).bind fun b => (formCI a.1 b.1).bind fun f => (runD f.data.toList ⟨[], [], [], b.2⟩).bind fun st => if st.r.size = 0 then some ⟨a.1, b.1, st.ns, st.ts, st.ps⟩ else none

/-- What was written: nothing that was there, but G and M. -/
structure Two (w w' : World) (G M : Nat) : Prop where
  os : w'.os = w.os
  tape : w'.tape = w.tape
  output : w'.output = w.output
  size : w.heap.size ≤ w'.heap.size
  block : ∀ k, k < w.heap.size → k ≠ G → k ≠ M → w'.heap[k]? = w.heap[k]?
theorem Two.refl (w : World) (G M : Nat) : Two w w G M := ⟨rfl, rfl, rfl, Nat.le_refl _, fun _ _ _ _ => rfl⟩
theorem Two.grown {w W W1 : World} {G M : Nat} {row : Option Nat} (h : Two w W G M) (hg : W.grownBy W1 row) (hr : ∀ k, row = some k → k < w.heap.size → k = G ∨ k = M) : Two w W1 G M :=
  ⟨hg.os.trans h.os, hg.tape.trans h.tape, hg.output.trans h.output, Nat.le_trans h.size hg.size, fun k hk h1 h2 => (hg.block k (Nat.lt_of_lt_of_le hk h.size) (fun e => by rcases hr k e.symm hk with e | e; exact h1 e; exact h2 e)).trans (h.block k hk h1 h2)⟩
theorem Two.set {w W : World} {G M : Nat} (h : Two w W G M) (j : Nat) (u : Value) : Two w (W.setCell ⟨M, j, none⟩ u) G M :=
  h.grown (grownBy_set W M j u) (fun k e _ => .inr (by injection e with e; exact e.symm))
theorem Two.below {w w' : World} {G M B : Nat} (h : Two w w' G M) (hG : B ≤ G) (hM : B ≤ M) (hB : B ≤ w.heap.size) : Below B w w' :=
  ⟨h.os, h.tape, h.output, h.size, fun k hk => h.block k (by omega) (by omega) (by omega)⟩

structure DC (w wr : World) (G M K IB : Nat) (f : ByteArray) (pos : Nat) (c i : Int) (vn vt vp : Value) (ns : List Int) (ts : List ByteArray) (ps : List Prp) : Prop where
  mb : MB wr M c i vn vt vp
  kc : wr.heap[K]? = some (.cells #[.pointer (some ⟨G, 0, none⟩)] 66 (0, 0))
  it : wr.heap[IB]? = some (.stringIter f pos)
  oi : wr.ownsRow w.heap.size 3 1 vn ns.length (ns.map (Value.int .i64))
  os : wr.ownsRow w.heap.size 9 1 vt ts.length (ts.map Value.string)
  op : OwnP wr w.heap.size vp ps
  two : Two w wr G M
  di : ∀ k, vn.ownBlock = some k → vp.ownBlock ≠ some k
  ds : ∀ k, vt.ownBlock = some k → vp.ownBlock ≠ some k
  pi : vp.ownBlock ≠ some IB

/-- Where the blocks lie. -/
structure DL (w : World) (G M K IB : Nat) : Prop where
  g : G < w.heap.size
  m : M < w.heap.size
  k : K < w.heap.size
  gm : G ≠ M
  gk : G ≠ K
  km : M ≠ K
  ib : w.heap.size ≤ IB

theorem blk_kept {w w1 : World} {row : Option Nat} {b : Nat} {o : Obj} (h : w.heap[b]? = some o) (hg : w.grownBy w1 row) (hne : row ≠ some b) : w1.heap[b]? = some o := by
  rw [hg.block b (Array.getElem?_eq_some_iff.1 h).1 (fun e => hne e.symm)]
  exact h
theorem own_low {w : World} {B e s n b : Nat} {v : Value} {xs : List Value} (h : w.ownsRow B e s v n xs) (hb : b < B) : v.ownBlock ≠ some b := fun e => by have := own_base h b e; omega
theorem own_blk {w : World} {B e s n b : Nat} {v : Value} {xs : List Value} {o : Obj} (h : w.ownsRow B e s v n xs) (hb : w.heap[b]? = some o) (ho : ∀ cs fr, o ≠ .cells cs e fr) : v.ownBlock ≠ some b := by
  intro e'
  rcases h.2 with ⟨rfl, _⟩ | ⟨g, cap, cur, rfl, _, hg, _⟩
  · cases e'
  · injection e' with e'
    have e2 : g = b := e'
    subst e2
    rw [hb] at hg
    injection hg with hg
    exact ho _ _ hg
theorem own_two {w : World} {B e s n B' e' s' n' : Nat} {v v' : Value} {xs xs' : List Value} (h : w.ownsRow B e s v n xs) (h' : w.ownsRow B' e' s' v' n' xs') (ht : e ≠ e') (k : Nat) (hk : v.ownBlock = some k) : v'.ownBlock ≠ some k := by
  rcases h.2 with ⟨rfl, _⟩ | ⟨g, cap, cur, rfl, _, hg, _⟩
  · cases hk
  · injection hk with hk
    have e2 : g = k := hk
    subst e2
    exact own_blk h' hg (fun cs fr e => by injection e with _ e _; exact ht e)
theorem ownP_low {w : World} {B b : Nat} {v : Value} {ps : List Prp} (h : OwnP w B v ps) (hb : b < B) : v.ownBlock ≠ some b := by
  rcases h with ⟨rfl, _⟩ | ⟨g, cap, rfl, h0, _⟩
  · intro e; cases e
  · intro e; injection e with e; have e2 : g = b := e; omega
theorem ownP_lt {w : World} {B : Nat} {v : Value} {ps : List Prp} (h : OwnP w B v ps) (k : Nat) (hk : v.ownBlock = some k) : B ≤ k ∧ k < w.heap.size := by
  rcases h with ⟨rfl, _⟩ | ⟨g, cap, rfl, h0, h1, _⟩
  · cases hk
  · injection hk with e; have e2 : g = k := e; omega
theorem ownP_kept {w w1 : World} {B : Nat} {v : Value} {ps : List Prp} {row : Option Nat} (h : OwnP w B v ps) (hg : w.grownBy w1 row) (hne : ∀ k, row = some k → v.ownBlock ≠ some k) : OwnP w1 B v ps := by
  rcases h with h | ⟨g, cap, rfl, h0, h4, h1, h2, h3⟩
  · exact .inl h
  · have hb := hg.block g h4 (fun e => hne g e.symm rfl)
    refine .inr ⟨g, cap, rfl, h0, Nat.lt_of_lt_of_le h4 hg.size, h1, h2, fun j hj => ?_⟩
    obtain ⟨a, c⟩ := h3 j hj
    exact ⟨(World.cell?_of_block (w := w) hb).trans a, (World.frozen?_of_block (w := w) hb).trans c⟩
theorem own_kept {w w1 : World} {B e s n : Nat} {v : Value} {xs : List Value} {row : Option Nat} (h : w.ownsRow B e s v n xs) (hg : w.grownBy w1 row) (hne : ∀ k, row = some k → v.ownBlock ≠ some k) : w1.ownsRow B e s v n xs :=
  own_other h hg (fun k hk e => hne k e hk)

section
variable {w W W1 : World} {G M K IB : Nat} {f : ByteArray} {pos : Nat} {c i : Int} {vn vt vp : Value} {ns : List Int} {ts : List ByteArray} {ps : List Prp}
/-- A step that writes another block. -/
theorem DC.step (h : DC w W G M K IB f pos c i vn vt vp ns ts ps) (L : DL w G M K IB) {row : Option Nat} (hg : W.grownBy W1 row) (hr : row = none ∨ row = some G) : DC w W1 G M K IB f pos c i vn vt vp ns ts ps := by
  have hG : ∀ k, row = some k → k = G := fun k e => by rcases hr with e2 | e2 <;> rw [e2] at e <;> cases e; rfl
  have hib : IB ≠ G := by have := L.g; have := L.ib; omega
  exact ⟨blk_kept h.mb hg (fun e => L.gm (hG _ e).symm), blk_kept h.kc hg (fun e => L.gk (hG _ e).symm), blk_kept h.it hg (fun e => hib (hG _ e)),
    own_kept h.oi hg (fun k e => by rw [hG k e]; exact own_low h.oi L.g), own_kept h.os hg (fun k e => by rw [hG k e]; exact own_low h.os L.g), ownP_kept h.op hg (fun k e => by rw [hG k e]; exact ownP_low h.op L.g),
    h.two.grown hg (fun k e _ => .inl (hG k e)), h.di, h.ds, h.pi⟩
theorem DC.below (h : DC w W G M K IB f pos c i vn vt vp ns ts ps) (L : DL w G M K IB) (hb : Below W.heap.size W W1) : DC w W1 G M K IB f pos c i vn vt vp ns ts ps := h.step L (grownBy_below hb none) (.inl rfl)
theorem DC.iter (h : DC w W G M K IB f pos c i vn vt vp ns ts ps) (L : DL w G M K IB) (p' : Nat) : DC w (W.iterAt IB f p') G M K IB f p' c i vn vt vp ns ts ps := by
  have hg : W.grownBy (W.iterAt IB f p') (some IB) := ⟨rfl, rfl, rfl, by rw [Lib.iterAt_size]; exact Nat.le_refl _, fun k _ hk => Lib.iterAt_other _ _ _ _ _ (fun e => hk (by rw [e]))⟩
  have l1 := L.ib
  have l2 := L.m
  have l3 := L.k
  refine ⟨blk_kept h.mb hg (fun e => by injection e with e; omega), blk_kept h.kc hg (fun e => by injection e with e; omega), Lib.iterAt_heap _ _ _ _ _ h.it, own_iterAt h.oi h.it _, own_iterAt h.os h.it _, ownP_kept h.op hg (fun k e => by injection e with e; rw [← e]; exact h.pi), ?_, h.di, h.ds, h.pi⟩
  exact h.two.grown hg (fun k e hk => by injection e with e; omega)
theorem mb_set2 {w : World} {b : Nat} (h : MB w b c i vn vt vp) (u : Value) : MB (w.setCell ⟨b, 2, none⟩ u) b c i u vt vp := by
  unfold MB at h ⊢
  simp [World.setCell, Array.getElem?_modify, h]
theorem mb_set3 {w : World} {b : Nat} (h : MB w b c i vn vt vp) (u : Value) : MB (w.setCell ⟨b, 3, none⟩ u) b c i vn u vp := by
  unfold MB at h ⊢
  simp [World.setCell, Array.getElem?_modify, h]
theorem mb_set4 {w : World} {b : Nat} (h : MB w b c i vn vt vp) (u : Value) : MB (w.setCell ⟨b, 4, none⟩ u) b c i vn vt u := by
  unfold MB at h ⊢
  simp [World.setCell, Array.getElem?_modify, h]
theorem mb_set0 {w : World} {b : Nat} (h : MB w b c i vn vt vp) (u : Int) : MB (w.setCell ⟨b, 0, none⟩ (.int .i64 u)) b u i vn vt vp := by
  unfold MB at h ⊢
  simp [World.setCell, Array.getElem?_modify, h]
theorem mb_set1 {w : World} {b : Nat} (h : MB w b c i vn vt vp) (u : Int) : MB (w.setCell ⟨b, 1, none⟩ (.int .i64 u)) b c u vn vt vp := by
  unfold MB at h ⊢
  simp [World.setCell, Array.getElem?_modify, h]
theorem mb_frozen {w : World} {b : Nat} (h : MB w b c i vn vt vp) (j : Nat) : w.frozen? ⟨b, j, none⟩ = false := by simp [World.frozen?, show w.heap[b]? = _ from h]
/-- The block M is written. -/
theorem set_m (W : World) (j : Nat) (u : Value) : W.grownBy (W.setCell ⟨M, j, none⟩ u) (some M) := grownBy_set W M j u
theorem DC.set2 (h : DC w W G M K IB f pos c i vn vt vp ns ts ps) (L : DL w G M K IB) {v1 : Value} {ns1 : List Int} (hg : W.grownBy W1 vn.ownBlock) (ho : W1.ownsRow w.heap.size 3 1 v1 ns1.length (ns1.map (Value.int .i64))) (hv : v1.ownBlock = vn.ownBlock ∨ v1.ownBlock = some W.heap.size) :
    DC w (W1.setCell ⟨M, 2, none⟩ v1) G M K IB f pos c i v1 vt vp ns1 ts ps := by
  have l1 := L.ib
  have l2 := L.m
  have l3 := L.k
  have gm := set_m (M := M) W1 2 v1
  have nm : ∀ k, (some M : Option Nat) = some k → k = M := fun k e => by injection e with e; exact e.symm
  have o1 := own_kept h.os hg (fun k e => own_two h.oi h.os (by decide) k e)
  have p1 := ownP_kept h.op hg (fun k e => h.di k e)
  refine ⟨mb_set2 (blk_kept h.mb hg (own_low h.oi L.m)) v1, blk_kept (blk_kept h.kc hg (own_low h.oi L.k)) gm (fun e => L.km (nm _ e).symm), blk_kept (blk_kept h.it hg (own_blk h.oi h.it (fun _ _ e => by cases e))) gm (fun e => by have := nm _ e; omega),
    own_kept ho gm (fun k e => by rw [nm k e]; exact own_low ho L.m), own_kept o1 gm (fun k e => by rw [nm k e]; exact own_low o1 L.m), ownP_kept p1 gm (fun k e => by rw [nm k e]; exact ownP_low p1 L.m),
    (h.two.grown hg (fun k e hk => absurd e (own_low h.oi hk))).set 2 v1, fun k hk => ?_, h.ds, h.pi⟩
  rcases hv with e | e
  · exact h.di k (e ▸ hk)
  · intro hp
    have := (ownP_lt h.op k hp).2
    rw [e] at hk
    injection hk with hk
    omega
theorem DC.set3 (h : DC w W G M K IB f pos c i vn vt vp ns ts ps) (L : DL w G M K IB) {v1 : Value} {ts1 : List ByteArray} (hg : W.grownBy W1 vt.ownBlock) (ho : W1.ownsRow w.heap.size 9 1 v1 ts1.length (ts1.map Value.string)) (hv : v1.ownBlock = vt.ownBlock ∨ v1.ownBlock = some W.heap.size) :
    DC w (W1.setCell ⟨M, 3, none⟩ v1) G M K IB f pos c i vn v1 vp ns ts1 ps := by
  have l1 := L.ib
  have l2 := L.m
  have l3 := L.k
  have gm := set_m (M := M) W1 3 v1
  have nm : ∀ k, (some M : Option Nat) = some k → k = M := fun k e => by injection e with e; exact e.symm
  have o1 := own_kept h.oi hg (fun k e => own_two h.os h.oi (by decide) k e)
  have p1 := ownP_kept h.op hg (fun k e => h.ds k e)
  refine ⟨mb_set3 (blk_kept h.mb hg (own_low h.os L.m)) v1, blk_kept (blk_kept h.kc hg (own_low h.os L.k)) gm (fun e => L.km (nm _ e).symm), blk_kept (blk_kept h.it hg (own_blk h.os h.it (fun _ _ e => by cases e))) gm (fun e => by have := nm _ e; omega),
    own_kept o1 gm (fun k e => by rw [nm k e]; exact own_low o1 L.m), own_kept ho gm (fun k e => by rw [nm k e]; exact own_low ho L.m), ownP_kept p1 gm (fun k e => by rw [nm k e]; exact ownP_low p1 L.m),
    (h.two.grown hg (fun k e hk => absurd e (own_low h.os hk))).set 3 v1, h.di, fun k hk => ?_, h.pi⟩
  rcases hv with e | e
  · exact h.ds k (e ▸ hk)
  · intro hp
    have := (ownP_lt h.op k hp).2
    rw [e] at hk
    injection hk with hk
    omega
theorem DC.set4 (h : DC w W G M K IB f pos c i vn vt vp ns ts ps) (L : DL w G M K IB) {v1 : Value} {ps1 : List Prp} (hg : W.grownBy W1 (some G)) (ho : OwnP W1 W.heap.size v1 ps1) :
    DC w (W1.setCell ⟨M, 4, none⟩ v1) G M K IB f pos c i vn vt v1 ns ts ps1 := by
  have l1 := L.ib
  have l2 := L.m
  have l3 := L.k
  have h1 := h.step L hg (.inr rfl)
  have gm := set_m (M := M) W1 4 v1
  have nm : ∀ k, (some M : Option Nat) = some k → k = M := fun k e => by injection e with e; exact e.symm
  have hs := h.two.size
  have hi : IB < W.heap.size := (Array.getElem?_eq_some_iff.1 h.it).1
  refine ⟨mb_set4 h1.mb v1, blk_kept h1.kc gm (fun e => L.km (nm _ e).symm), blk_kept h1.it gm (fun e => by have := nm _ e; omega),
    own_kept h1.oi gm (fun k e => by rw [nm k e]; exact own_low h1.oi L.m), own_kept h1.os gm (fun k e => by rw [nm k e]; exact own_low h1.os L.m), ownP_kept (ownP_lower ho hs) gm (fun k e => by rw [nm k e]; exact ownP_low (ownP_lower ho hs) L.m),
    h1.two.set 4 v1, fun k hk hp => ?_, fun k hk hp => ?_, fun hp => ?_⟩
  · have := (ownP_lt ho k hp).1
    have := own_lt h.oi hk
    omega
  · have := (ownP_lt ho k hp).1
    have := own_lt h.os hk
    omega
  · have := (ownP_lt ho _ hp).1
    omega
end

section
variable {x : UInt8} {l : List UInt8} {st st' : DSt} {z n : Nat} {r y : ByteArray} {qs : List Prp} {total : Option DSt}
theorem sd_num_none (hZ : z = sizeOf' x.toNat) (hz : 0 < z) (h : numP z st.r = none) : stepD x st = none := by
  unfold stepD
  rw [← hZ, if_pos hz, h]
  rfl
theorem sd_num_neg (hZ : z = sizeOf' x.toNat) (hz : 0 < z) (h : numP z st.r = some (n, r)) (hn : ¬ n < 9223372036854775808) : stepD x st = none := by
  unfold stepD
  rw [← hZ, if_pos hz, h, Option.bind_some]
  exact if_neg hn
theorem sd_num_ok (hZ : z = sizeOf' x.toNat) (hz : 0 < z) (h : numP z st.r = some (n, r)) (hn : n < 9223372036854775808) : stepD x st = some ⟨st.ns ++ [(n : Int)], st.ts, st.ps, r⟩ := by
  unfold stepD
  rw [← hZ, if_pos hz, h, Option.bind_some]
  exact if_pos hn
theorem sd_tab (hZ : 0 = sizeOf' x.toNat) (hx : x = 84) : stepD x st = (tableP st.r).map fun q => ⟨st.ns, st.ts, q.1, q.2⟩ := by
  unfold stepD
  rw [← hZ, if_neg (Nat.lt_irrefl 0), if_pos hx]
theorem sd_short (hZ : 0 = sizeOf' x.toNat) (hx : x ≠ 84) (hs : x = 115) : stepD x st = (shortP st.r).map fun q => ⟨st.ns, st.ts ++ [q.1], st.ps, q.2⟩ := by
  unfold stepD
  rw [← hZ, if_neg (Nat.lt_irrefl 0), if_neg hx, if_pos hs]
theorem sd_long (hZ : 0 = sizeOf' x.toNat) (hx : x ≠ 84) (hs : x ≠ 115) : stepD x st = (longP st.r).bind fun q => if q.1.size ≤ 1024 then some ⟨st.ns, st.ts ++ [q.1], st.ps, q.2⟩ else none := by
  unfold stepD
  rw [← hZ, if_neg (Nat.lt_irrefl 0), if_neg hx, if_neg hs]
theorem run_stop (ht : total = runD l st) (hl : l = x :: l.tail) (h : stepD x st = none) : total = none := by
  rw [hl] at ht
  rw [ht]
  show (stepD x st).bind _ = none
  rw [h]
  rfl
theorem run_next {l' : List UInt8} (ht : total = runD l st) (hl : l = x :: l') (h : stepD x st = some st') : total = runD l' st' := by
  subst hl
  rw [ht]
  show (stepD x st).bind _ = _
  rw [h]
  rfl
end

theorem step_app_own {ops : Array Oper} {o : Oper} {a : Act} {K : Act → World → Prop} {Q : Exit → Act → World → Prop} {E : Prop} {W : World} (base t e : Nat) (size bytes : Nat) (z : Value) (ht : Tryd.prog.underlying t = some (.slice e))
    (hinfo : (Tryd.prog.info? e).map (fun i => (i.zero, i.size, i.bytes)) = some (some z, size, bytes)) (hz : z.cells.size = size) (hs0 : 0 < size)
    (hgd : o.guard = none) (s x : Operand) (ho : o.op = .call { callee := .builtin .append, args := #[s, x], argTypes := #[t, t] })
    (v u : Value) (n m : Nat) (xs news : List Value) (hs : a.eval s = v) (hx : a.eval x = u) (hown : W.ownsRow base e size v n xs) (hr : RC W u m size news) (h1 : ∀ y ∈ news, y.oneCell' = true)
    (hb : (n + m) * bytes ≤ 140737488355328) (h63 : n + m ≤ 9223372036854775807) (hbase : base ≤ W.heap.size)
    (h : ∀ v1 w1, w1.ownsRow base e size v1 (n + m) (xs ++ news) → W.grownBy w1 v.ownBlock → (v1.ownBlock = v.ownBlock ∨ v1.ownBlock = some W.heap.size) → K (a.put o.dst v1) w1) :
    if Region.wanted o (yielded ops a.tmps) = true then Oper.wp Tryd.prog o a W K Q else E := by
  have hw : Region.wanted o (yielded ops a.tmps) = true := by simp [Region.wanted, hgd]
  rw [if_pos hw]
  obtain ⟨v1, w1, hrun, h2, h3, h5⟩ := run_app (P := Tryd.prog) base t o.type e size bytes z ht hinfo hz hs0 v u n m xs news hown hr h1 hb h63 hbase
  unfold Oper.wp execOp
  simp only [ho, resolve, invoke, builtin, Sem.run_bind, Sem.run_pure, Result.andThen_ok, List.map_toArray, List.map_cons, List.map_nil, hs, hx, hrun]
  exact h _ _ h2 h3 h5
theorem rc_any {w : World} {v : Value} {n s : Nat} {cs : List Value} (h : RC w v n s cs) : ∃ A c, v = .slice A n c := by
  obtain ⟨A, c, e, _⟩ := h
  exact ⟨A, c, e⟩
theorem int_new (w : World) (n : Int) : RC (w.alloc (.cells #[.int .i64 n] 3)) (.slice (some ⟨w.heap.size, 0, none⟩) 1 1) 1 1 [.int .i64 n] := rc_new w 3 1 1 [.int .i64 n] rfl (by omega)
theorem str_new (w : World) (s : ByteArray) : RC (w.alloc (.cells #[.string s] 9)) (.slice (some ⟨w.heap.size, 0, none⟩) 1 1) 1 1 [.string s] := rc_new w 9 1 1 [.string s] rfl (by omega)
theorem rd_kept {w w1 : World} {g : Nat} {s : ByteArray} {row : Option Nat} (h : RD w g s) (hg : w.grownBy w1 row) (hne : row ≠ some g) : RD w1 g s := blk_kept h hg hne

section
variable {ops : Array Oper} {rest : List Oper} {o : Oper} {a : Act} {Q : Exit → Act → World → Prop} {w W : World} {G M K IB : Nat} {f : ByteArray} {pos : Nat} {c i : Int} {vn vt vp : Value} {ns : List Int} {ts : List ByteArray} {ps : List Prp} {r : ByteArray}
/-- A number put behind the others, the append. -/
theorem app_num (D : DC w W G M K IB f pos c i vn vt vp ns ts ps) (L : DL w G M K IB) (R : RD W G r) (N : Int) (hl : ns.length ≤ 6)
    (hgd : o.guard = none) (s x : Operand) (ho : o.op = .call { callee := .builtin .append, args := #[s, x], argTypes := #[22, 22] }) (hs : a.eval s = vn) (hx : a.eval x = .slice (some ⟨W.heap.size, 0, none⟩) 1 1)
    (h : ∀ (A8 : Option Addr) (c8 : Nat) (w8 : World), MB w8 M c i vn vt vp → DC w (w8.setCell ⟨M, 2, none⟩ (.slice A8 (ns.length + 1) c8)) G M K IB f pos c i (.slice A8 (ns.length + 1) c8) vt vp (ns ++ [N]) ts ps → RD (w8.setCell ⟨M, 2, none⟩ (.slice A8 (ns.length + 1) c8)) G r → wpList Tryd.prog ops Q rest (a.put o.dst (.slice A8 (ns.length + 1) c8)) w8) :
    wpList Tryd.prog ops Q (o :: rest) a (W.alloc (.cells #[.int .i64 N] 3)) := by
  have DA := D.below L (below_al1 W (.cells #[.int .i64 N] 3))
  have hs0 := D.two.size
  refine app_own (w0 := W.alloc (.cells #[.int .i64 N] 3)) w.heap.size 22 3 1 8 _ Tryd.underlying22 info_i64 rfl (by decide) hgd s x ho vn _ ns.length 1 (ns.map (Value.int .i64)) [.int .i64 N] hs hx DA.oi (int_new W N) (fun y hy => by rw [List.mem_singleton.1 hy]; rfl) (Below.refl _ _) (by omega) (by omega) (Nat.le_trans hs0 (below_al1 W _).size) ?_
  intro v8 w8 o8 _ g8 e8
  obtain ⟨A8, c8, rfl⟩ := rc_any (own_rc o8)
  refine h A8 c8 w8 (blk_kept DA.mb g8 (own_low DA.oi L.m)) (DA.set2 L g8 (by rw [List.length_append, List.map_append]; exact o8) e8) ?_
  exact rd_kept (rd_kept (rd_below R (below_al1 W _)) g8 (own_low DA.oi L.g)) (grownBy_set w8 M 2 _) (fun e => L.gm (by injection e with e; exact e.symm))
theorem app_txt (D : DC w W G M K IB f pos c i vn vt vp ns ts ps) (L : DL w G M K IB) (R : RD W G r) (y : ByteArray) (hl : ts.length ≤ 6)
    (hgd : o.guard = none) (s x : Operand) (ho : o.op = .call { callee := .builtin .append, args := #[s, x], argTypes := #[23, 23] }) (hs : a.eval s = vt) (hx : a.eval x = .slice (some ⟨W.heap.size, 0, none⟩) 1 1)
    (h : ∀ (A8 : Option Addr) (c8 : Nat) (w8 : World), MB w8 M c i vn vt vp → DC w (w8.setCell ⟨M, 3, none⟩ (.slice A8 (ts.length + 1) c8)) G M K IB f pos c i vn (.slice A8 (ts.length + 1) c8) vp ns (ts ++ [y]) ps → RD (w8.setCell ⟨M, 3, none⟩ (.slice A8 (ts.length + 1) c8)) G r → wpList Tryd.prog ops Q rest (a.put o.dst (.slice A8 (ts.length + 1) c8)) w8) :
    wpList Tryd.prog ops Q (o :: rest) a (W.alloc (.cells #[.string y] 9)) := by
  have DA := D.below L (below_al1 W (.cells #[.string y] 9))
  have hs0 := D.two.size
  refine app_own (w0 := W.alloc (.cells #[.string y] 9)) w.heap.size 23 9 1 16 _ Tryd.underlying23 info_str rfl (by decide) hgd s x ho vt _ ts.length 1 (ts.map Value.string) [.string y] hs hx DA.os (str_new W y) (fun z hy => by rw [List.mem_singleton.1 hy]; rfl) (Below.refl _ _) (by omega) (by omega) (Nat.le_trans hs0 (below_al1 W _).size) ?_
  intro v8 w8 o8 _ g8 e8
  obtain ⟨A8, c8, rfl⟩ := rc_any (own_rc o8)
  refine h A8 c8 w8 (blk_kept DA.mb g8 (own_low DA.os L.m)) (DA.set3 L g8 (by rw [List.length_append, List.map_append]; exact o8) e8) ?_
  exact rd_kept (rd_kept (rd_below R (below_al1 W _)) g8 (own_low DA.os L.g)) (grownBy_set w8 M 3 _) (fun e => L.gm (by injection e with e; exact e.symm))
theorem step_txt {KK : Act → World → Prop} {E : Prop} (D : DC w W G M K IB f pos c i vn vt vp ns ts ps) (L : DL w G M K IB) (R : RD W G r) (y : ByteArray) (hl : ts.length ≤ 6)
    (hgd : o.guard = none) (s x : Operand) (ho : o.op = .call { callee := .builtin .append, args := #[s, x], argTypes := #[23, 23] }) (hs : a.eval s = vt) (hx : a.eval x = .slice (some ⟨W.heap.size, 0, none⟩) 1 1)
    (h : ∀ (A8 : Option Addr) (c8 : Nat) (w8 : World), MB w8 M c i vn vt vp → DC w (w8.setCell ⟨M, 3, none⟩ (.slice A8 (ts.length + 1) c8)) G M K IB f pos c i vn (.slice A8 (ts.length + 1) c8) vp ns (ts ++ [y]) ps → RD (w8.setCell ⟨M, 3, none⟩ (.slice A8 (ts.length + 1) c8)) G r → KK (a.put o.dst (.slice A8 (ts.length + 1) c8)) w8) :
    if Region.wanted o (yielded ops a.tmps) = true then Oper.wp Tryd.prog o a (W.alloc (.cells #[.string y] 9)) KK Q else E := by
  have DA := D.below L (below_al1 W (.cells #[.string y] 9))
  have hs0 := D.two.size
  refine step_app_own w.heap.size 23 9 1 16 _ Tryd.underlying23 info_str rfl (by decide) hgd s x ho vt _ ts.length 1 (ts.map Value.string) [.string y] hs hx DA.os (str_new W y) (fun z hy => by rw [List.mem_singleton.1 hy]; rfl) (by omega) (by omega) (Nat.le_trans hs0 (below_al1 W _).size) ?_
  intro v8 w8 o8 g8 e8
  obtain ⟨A8, c8, rfl⟩ := rc_any (own_rc o8)
  refine h A8 c8 w8 (blk_kept DA.mb g8 (own_low DA.os L.m)) (DA.set3 L g8 (by rw [List.length_append, List.map_append]; exact o8) e8) ?_
  exact rd_kept (rd_kept (rd_below R (below_al1 W _)) g8 (own_low DA.os L.g)) (grownBy_set w8 M 3 _) (fun e => L.gm (by injection e with e; exact e.symm))
end
end Go.Proofs.YteigbejidfkhpaaDoor

/- Layer 15: table.Decode: the reading itself. -/
namespace Go.Proofs.YteigbejidfkhpaaDoor
open Go Go.RowKit Go.Sort
set_option linter.unusedSimpArgs false
set_option linter.unusedVariables false

def DPost (w : World) (G M : Nat) (s : ByteArray) (e : Ending) (w' : World) : Prop :=
  Two w w' G M ∧ match decP s with
    | some m => e = .returned (.tuple #[]) ∧ ∃ vn vt vp, MB w' M m.c m.i vn vt vp ∧ w'.ownsRow w.heap.size 3 1 vn m.ns.length (m.ns.map (Value.int .i64)) ∧ w'.ownsRow w.heap.size 9 1 vt m.ts.length (m.ts.map Value.string) ∧ OwnP w' w.heap.size vp m.ps ∧ ∀ k, vn.ownBlock = some k → vp.ownBlock ≠ some k
    | none => e = StopE
theorem dpost_no {w w' : World} {G M : Nat} {s : ByteArray} (h : decP s = none) (t : Two w w' G M) : DPost w G M s StopE w' := by
  unfold DPost
  rw [h]
  exact ⟨t, rfl⟩
theorem dpost_yes {w w' : World} {G M : Nat} {s : ByteArray} {m : Mth} {vn vt vp : Value} (h : decP s = some m) (t : Two w w' G M) (hm : MB w' M m.c m.i vn vt vp) (h1 : w'.ownsRow w.heap.size 3 1 vn m.ns.length (m.ns.map (Value.int .i64))) (h2 : w'.ownsRow w.heap.size 9 1 vt m.ts.length (m.ts.map Value.string)) (h3 : OwnP w' w.heap.size vp m.ps) (h4 : ∀ k, vn.ownBlock = some k → vp.ownBlock ≠ some k) : DPost w G M s (.returned (.tuple #[])) w' := by
  unfold DPost
  rw [h]
  exact ⟨t, rfl, vn, vt, vp, hm, h1, h2, h3, h4⟩
theorem dec_no1 {s : ByteArray} (h : numP 2 s = none) : decP s = none := by unfold decP; rw [h]; rfl
theorem dec_no2 {s s1 : ByteArray} {a : Nat} (h : numP 2 s = some (a, s1)) (h2 : numP 2 s1 = none) : decP s = none := by
  unfold decP
  rw [h, Option.bind_some]
  dsimp only
  rw [h2]
  rfl

set_option maxRecDepth 1000000 in
set_option maxHeartbeats 2000000 in
theorem dec1_no1 {w : World} {G M K : Nat} {s : ByteArray} (hG : RD w G s) (hK : w.heap[K]? = some (.cells #[.pointer (some ⟨G, 0, none⟩)] 66 (0, 0))) (hn : numP 2 s = none) :
    Calls Tryd.prog 47 #[.pointer (some ⟨K, 0, none⟩), .pointer (some ⟨M, 0, none⟩)] w (DPost w G M s) := by
  have HN := Lib.hid (pr_no (rdNumber_c (w := w.drew) hG 2 (by omega) 2 rfl) hn)
  have c5 : w.cell? ⟨K, 0, none⟩ = some (.pointer (some ⟨G, 0, none⟩)) := by simp [World.cell?, hK]
  have HO := Lib.hid (dec_no1 hn)
  clear hn hG hK
  go_enter Tryd.func47, Tryd.ntmps47
  go_wp2_with fail
  go_region_dies
  all_goals
    refine (HN.out).mono ?_
    rintro e w1 ⟨rfl, g1⟩
    exact ⟨rfl, dpost_no HO.out ((Two.refl w G M).grown (grownBy_trans (grownBy_below (below_drewN w 1) _) g1) (fun k e _ => .inl (by injection e with e; exact e.symm)))⟩

set_option maxRecDepth 1000000 in
set_option maxHeartbeats 2000000 in
theorem dec1_no2 {w : World} {G M K : Nat} {s s1 : ByteArray} {a : Nat} (hG : RD w G s) (hK : w.heap[K]? = some (.cells #[.pointer (some ⟨G, 0, none⟩)] 66 (0, 0))) (hgk : G ≠ K) (hn : numP 2 s = some (a, s1)) (hn2 : numP 2 s1 = none) :
    Calls Tryd.prog 47 #[.pointer (some ⟨K, 0, none⟩), .pointer (some ⟨M, 0, none⟩)] w (DPost w G M s) := by
  have HN := Lib.hid (pr_yes (rdNumber_c (w := w.drew) hG 2 (by omega) 2 rfl) hn)
  have c5 : w.cell? ⟨K, 0, none⟩ = some (.pointer (some ⟨G, 0, none⟩)) := by simp [World.cell?, hK]
  have HO := Lib.hid (dec_no2 hn hn2)
  have HKL := Lib.hid (World.block_lt_of_cell? w _ c5)
  have HC5 := Lib.hid c5
  have HN2 := Lib.hid hn2
  have HGK := Lib.hid hgk
  have hal : a < 65536 := numP_lt hn
  have hwa : IntKind.i64.wrap (a : Int) = (a : Int) := IntWalk.i64_in _ (by omega)
  clear hn hG hK hn2 hgk hal
  go_enter Tryd.func47, Tryd.ntmps47
  go_wp2_with fail
  go_region_dies
  · rename_i K' hK'
    refine (HN.out).mono ?_
    rintro e w1 ⟨rfl, r1, g1⟩
    have c6 : w1.cell? ⟨K, 0, none⟩ = some (.pointer (some ⟨G, 0, none⟩)) := (World.cell?_of_block (w := w) (g1.block K HKL.out (fun e => by injection e with e; exact HGK.out e.symm))).trans HC5.out
    have HM := Lib.hid (pr_no (rdNumber_c r1 2 (by omega) 2 rfl) HN2.out)
    have G1 := Lib.hid g1
    clear r1 g1
    refine hK' _ _ ?_
    clear hK' K'
    refine wpAny_take (i := 2) (v := .int .i64 a) rfl (by kernel_rfl) (by kernel_rfl) (by kernel_rfl) (fun _ _ _ h => h) (Or.inl ⟨by rfl, ?_⟩) ?_
    · intro w; go_simp
    refine wpAny_ready (rs := [3]) (by kernel_rfl) (by simp) ?_
    refine AllReady.cons rfl (fun K' hK' => ?_) AllReady.nil
    go_simp
    refine hK' _ _ ?_
    clear hK' K'
    refine wpAny_ready (rs := [4]) (by kernel_rfl) (by simp) ?_
    refine AllReady.cons rfl (fun K' hK' => ?_) AllReady.nil
    go_simp
    refine (HM.out).mono ?_
    rintro e w2 ⟨rfl, g2⟩
    exact ⟨rfl, dpost_no HO.out ((Two.refl w G M).grown (grownBy_trans (grownBy_trans (grownBy_below (below_drewN w 1) _) G1.out) g2) (fun k e _ => .inl (by injection e with e; exact e.symm)))⟩
  · rename_i K' hK'
    refine (HN.out).mono ?_
    rintro e w1 ⟨rfl, r1, g1⟩
    have c6 : w1.cell? ⟨K, 0, none⟩ = some (.pointer (some ⟨G, 0, none⟩)) := (World.cell?_of_block (w := w) (g1.block K HKL.out (fun e => by injection e with e; exact HGK.out e.symm))).trans HC5.out
    have HM := Lib.hid (pr_no (rdNumber_c r1 2 (by omega) 2 rfl) HN2.out)
    have G1 := Lib.hid g1
    clear r1 g1
    refine hK' _ _ ?_
    clear hK' K'
    refine wpAny_take (i := 2) (v := .int .i64 a) rfl (by kernel_rfl) (by kernel_rfl) (by kernel_rfl) (fun _ _ _ h => h) (Or.inl ⟨by rfl, ?_⟩) ?_
    · intro w; go_simp
    refine wpAny_ready (rs := [4]) (by kernel_rfl) (by simp) ?_
    refine AllReady.cons rfl (fun K' hK' => ?_) AllReady.nil
    go_simp
    refine (HM.out).mono ?_
    rintro e w2 ⟨rfl, g2⟩
    exact ⟨rfl, dpost_no HO.out ((Two.refl w G M).grown (grownBy_trans (grownBy_trans (grownBy_below (below_drewN w 1) _) G1.out) g2) (fun k e _ => .inl (by injection e with e; exact e.symm)))⟩
  · rename_i K' hK'
    refine (HN.out).mono ?_
    rintro e w1 ⟨rfl, r1, g1⟩
    have c6 : w1.cell? ⟨K, 0, none⟩ = some (.pointer (some ⟨G, 0, none⟩)) := (World.cell?_of_block (w := w) (g1.block K HKL.out (fun e => by injection e with e; exact HGK.out e.symm))).trans HC5.out
    have HM := Lib.hid (pr_no (rdNumber_c r1 2 (by omega) 2 rfl) HN2.out)
    have G1 := Lib.hid g1
    clear r1 g1
    refine hK' _ _ ?_
    clear hK' K'
    refine wpAny_take (i := 2) (v := .int .i64 a) rfl (by kernel_rfl) (by kernel_rfl) (by kernel_rfl) (fun _ _ _ h => h) (Or.inl ⟨by rfl, ?_⟩) ?_
    · intro w; go_simp
    refine wpAny_ready (rs := [4]) (by kernel_rfl) (by simp) ?_
    refine AllReady.cons rfl (fun K' hK' => ?_) AllReady.nil
    go_simp
    refine (HM.out).mono ?_
    rintro e w2 ⟨rfl, g2⟩
    exact ⟨rfl, dpost_no HO.out ((Two.refl w G M).grown (grownBy_trans (grownBy_trans (grownBy_below (below_drewN w 1) _) G1.out) g2) (fun k e _ => .inl (by injection e with e; exact e.symm)))⟩

theorem dec_noF {s s1 s2 : ByteArray} {a b : Nat} (h : numP 2 s = some (a, s1)) (h2 : numP 2 s1 = some (b, s2)) (hf : formCI a b = none) : decP s = none := by
  unfold decP
  rw [h, Option.bind_some]
  dsimp only
  rw [h2, Option.bind_some]
  dsimp only
  rw [hf]
  rfl
theorem dec_run {s s1 s2 f : ByteArray} {a b : Nat} (h : numP 2 s = some (a, s1)) (h2 : numP 2 s1 = some (b, s2)) (hf : formCI a b = some f) :
    decP s = (runD f.data.toList ⟨[], [], [], s2⟩).bind fun st => if st.r.size = 0 then some ⟨a, b, st.ns, st.ts, st.ps⟩ else none := by
  unfold decP
  rw [h, Option.bind_some]
  dsimp only
  rw [h2, Option.bind_some]
  dsimp only
  rw [hf]
  rfl
/-- What holds at the head of the loop. -/
structure DI (w wr : World) (G M K IB : Nat) (f : ByteArray) (pos : Nat) (c i : Int) (total : Option DSt) (vn vt vp : Value) (st : DSt) : Prop where
  dc : DC w wr G M K IB f pos c i vn vt vp st.ns st.ts st.ps
  rd : RD wr G st.r
  tot : total = runD (f.data.toList.drop pos) st
  rz : st.r.size ≤ 1073741824
  ln : st.ns.length ≤ pos
  lt : st.ts.length ≤ pos

theorem di_start {w W : World} {G M K : Nat} {f s2 : ByteArray} {a b : Nat} (TW : Two w W G M) (MBW : MB W M a b (.slice none 0 0) (.slice none 0 0) (.slice none 0 0)) (KW : W.heap[K]? = some (.cells #[.pointer (some ⟨G, 0, none⟩)] 66 (0, 0))) (RW : RD W G s2) (h2 : s2.size ≤ 1073741824) :
    DI w (W.iter f 0) G M K W.heap.size f 0 a b (runD f.data.toList ⟨[], [], [], s2⟩) (.slice none 0 0) (.slice none 0 0) (.slice none 0 0) ⟨[], [], [], s2⟩ := by
  have hal : W.grownBy (W.iter f 0) none := grownBy_below (below_al1 W (.stringIter f 0)) none
  have hno : ∀ k, (none : Option Nat) ≠ some k := fun k e => by cases e
  exact ⟨⟨blk_kept MBW hal (hno _), blk_kept KW hal (hno _), World.iter_heap W f 0, own_nil _ _ _ _, own_nil _ _ _ _, .inl ⟨rfl, rfl⟩, TW.grown hal (fun k e _ => absurd e (hno k)), (fun k hk => by cases hk), (fun k hk => by cases hk), (by intro h; cases h)⟩, blk_kept RW hal (hno _), rfl, h2, Nat.le_refl _, Nat.le_refl _⟩

set_option maxRecDepth 1000000 in
set_option maxHeartbeats 8000000 in
theorem dec1_c {w : World} {G M K : Nat} {s s1 s2 : ByteArray} {a b : Nat} (hG : RD w G s) (hM : MB w M 0 0 (.slice none 0 0) (.slice none 0 0) (.slice none 0 0)) (hK : w.heap[K]? = some (.cells #[.pointer (some ⟨G, 0, none⟩)] 66 (0, 0))) (hgk : G ≠ K) (hgm : G ≠ M) (hmk : M ≠ K) (hs : s.size ≤ 1073741824) (hn : numP 2 s = some (a, s1)) (hn2 : numP 2 s1 = some (b, s2)) :
    Calls Tryd.prog 47 #[.pointer (some ⟨K, 0, none⟩), .pointer (some ⟨M, 0, none⟩)] w (DPost w G M s) := by
  have HN := Lib.hid (pr_yes (rdNumber_c (w := w.drew) hG 2 (by omega) 2 rfl) hn)
  have c5 : w.drew.cell? ⟨K, 0, none⟩ = some (.pointer (some ⟨G, 0, none⟩)) := (show w.cell? ⟨K, 0, none⟩ = some (.pointer (some ⟨G, 0, none⟩)) by simp [World.cell?, hK])
  have HGL := Lib.hid (rd_lt hG)
  have HML := Lib.hid (show M < w.heap.size from (Array.getElem?_eq_some_iff.1 hM).1)
  have HKL := Lib.hid (show K < w.heap.size from (Array.getElem?_eq_some_iff.1 hK).1)
  have HM0 := Lib.hid hM
  have HK0 := Lib.hid hK
  have HNE := Lib.hid (show G ≠ K ∧ G ≠ M ∧ M ≠ K from ⟨hgk, hgm, hmk⟩)
  have HN2 := Lib.hid hn2
  have HNF := Lib.hid (fun h => dec_noF hn hn2 h)
  have HRUN := Lib.hid (fun f h => dec_run (f := f) hn hn2 h)
  have hal : a < 65536 := numP_lt hn
  have hbl : b < 65536 := numP_lt hn2
  have hwa : IntKind.i64.wrap (a : Int) = (a : Int) := IntWalk.i64_in _ (by omega)
  have hwb : IntKind.i64.wrap (b : Int) = (b : Int) := IntWalk.i64_in _ (by omega)
  have HS2 := Lib.hid (show s2.size ≤ 1073741824 by have := numP_size hn; have := numP_size hn2; omega)
  have hkm : K ≠ M := fun e => hmk e.symm
  clear hn hG hK hn2 hgk hgm hal hbl hM hs
  go_enter Tryd.func47, Tryd.ntmps47
  go_wp2_with fail
  go_region_held3 (fun w' => w'.cell? ⟨K, 0, none⟩ = some (.pointer (some ⟨G, 0, none⟩)))
    (first | exact c5 | go_keep)
    (first
      | (go_at_call 48; refine (HM2.out).mono ?_; rintro e w2 ⟨rfl, r2, g2⟩; have G2 := Lib.hid (G1.out.trans g2); have R2 := Lib.hid r2; have MB2 := Lib.hid (show MB w2 M 0 0 (.slice none 0 0) (.slice none 0 0) (.slice none 0 0) from blk_kept HM0.out G2.out (fun e => HNE.out.2.1 (by injection e))); obtain ⟨m0, m1, m2, m3, m4⟩ := mb_facts MB2.out; have n0 := mb_frozen MB2.out 0; have n1 := mb_frozen MB2.out 1; have c5 : w2.cell? ⟨K, 0, none⟩ = some (.pointer (some ⟨G, 0, none⟩)) := (by simp [World.cell?, blk_kept HK0.out G2.out (fun e => HNE.out.1 (by injection e))]); clear r2 g2)
      | (go_at_call 48; refine (HN.out).mono ?_; rintro e w1 ⟨rfl, r1, g1⟩; have G1 := Lib.hid (show w.grownBy w1 (some G) from grownBy_trans (grownBy_below (below_drewN w 1) _) g1); have c5 : w1.cell? ⟨K, 0, none⟩ = some (.pointer (some ⟨G, 0, none⟩)) := (by simp [World.cell?, blk_kept HK0.out G1.out (fun e => HNE.out.1 (by injection e))]); have HM2 := Lib.hid (pr_yes (rdNumber_c r1 2 (by omega) 2 rfl) HN2.out); clear r1 g1))
  obtain ⟨W, hW⟩ : ∃ W, W = (w2.setCell ⟨M, 0, none⟩ (.int .i64 a)).setCell ⟨M, 1, none⟩ (.int .i64 b) := ⟨_, rfl⟩
  have MBW := Lib.hid (show MB W M a b (.slice none 0 0) (.slice none 0 0) (.slice none 0 0) by rw [hW]; exact mb_set1 (mb_set0 MB2.out a) b)
  have RW := Lib.hid (show RD W G s2 by rw [hW]; exact blk_kept (blk_kept R2.out (grownBy_set _ M 0 _) (fun e => HNE.out.2.1 (by injection e with e; exact e.symm))) (grownBy_set _ M 1 _) (fun e => HNE.out.2.1 (by injection e with e; exact e.symm)))
  have KW := Lib.hid (show W.heap[K]? = some (.cells #[.pointer (some ⟨G, 0, none⟩)] 66 (0, 0)) by rw [hW]; exact blk_kept (blk_kept (blk_kept HK0.out G2.out (fun e => HNE.out.1 (by injection e))) (grownBy_set _ M 0 _) (fun e => HNE.out.2.2 (by injection e))) (grownBy_set _ M 1 _) (fun e => HNE.out.2.2 (by injection e)))
  have TW := Lib.hid (show Two w W G M by rw [hW]; exact ((((Two.refl w G M).grown G2.out (fun k e _ => .inl (by injection e with e; exact e.symm))).set 0 _).set 1 _))
  rw [← hW]
  clear hW HN HM2 G1 R2 MB2 G2 c5 m0 m1 m2 m3 m4 n0 n1 hwa hwb hmk hkm
  obtain ⟨m0, m1, m2, m3, m4⟩ := mb_facts MBW.out
  have hF := form_c (w := W) a b
  cases hf : formCI a b with
  | none =>
    rw [hf] at hF
    simp only [Option.getD_none, Option.isSome_none] at hF
    have HF := Lib.hid hF
    have HNO := Lib.hid (HNF.out hf)
    clear hF hf
    go_wp2_with (first
      | (go_at_call 23; refine (HF.out).mono ?_; rintro e w3 ⟨rfl, rfl⟩)
      | (go_at_call 49; refine unless_no.mono ?_; rintro e w4 ⟨rfl, rfl⟩))
    exact ⟨rfl, dpost_no HNO.out TW.out⟩
  | some f =>
    rw [hf] at hF
    simp only [Option.getD_some, Option.isSome_some] at hF
    have HF := Lib.hid hF
    have HSM := Lib.hid (form_small hf)
    have HR := Lib.hid (HRUN.out f hf)
    clear hF hf
    go_wp2_with (first
      | (go_at_call 23; refine (HF.out).mono ?_; rintro e w3 ⟨rfl, rfl⟩)
      | (go_at_call 49; refine unless_yes.mono ?_; rintro e w4 ⟨rfl, rfl⟩))
    obtain ⟨total, htot⟩ : ∃ t, t = runD f.data.toList ⟨[], [], [], s2⟩ := ⟨_, rfl⟩
    rw [← htot] at HR
    have HTO := Lib.hid htot
    have HDL := Lib.hid (show DL w G M K W.heap.size from ⟨HGL.out, HML.out, HKL.out, HNE.out.2.1, HNE.out.1, HNE.out.2.2, TW.out.size⟩)
    clear htot
    go_loopw [5] (fun _ wr => ∃ (pos : Nat) (vn vt vp : Value) (st : DSt), pos ≤ f.size ∧ Hid (DI w wr G M K W.heap.size f pos a b total vn vt vp st)) (fun _ wr => f.size - wr.iterPos W.heap.size)
    case atStart =>
      exact ⟨0, _, _, _, ⟨[], [], [], s2⟩, Nat.zero_le _, Lib.hid (by rw [HTO.out]; exact di_start TW.out MBW.out KW.out RW.out HS2.out)⟩
    case round =>
      obtain ⟨pos, vn, vt, vp, st, hpos, HI⟩ := hrel
      clear MBW KW RW HTO m0 m1 m2 m3 m4
      by_cases hlt : pos < f.size
      · have hnx : ∀ ty, (Instr.next (.pointer (some ⟨W.heap.size, 0, none⟩)) true ty).run Tryd.prog wr = .ok (.tuple #[.bool true, .int .i64 pos, .int .i32 (f[pos]'hlt).toNat]) (wr.iterAt W.heap.size f (pos + 1)) := fun ty => Lib.run_next_ascii_at wr _ f pos ty HI.out.dc.it hlt (small_at HSM.out hlt)
        obtain ⟨V, hV⟩ : ∃ V, V = wr.iterAt W.heap.size f (pos + 1) := ⟨_, rfl⟩
        rw [← hV] at hnx
        have D1 := Lib.hid (show DC w V G M K W.heap.size f (pos + 1) a b vn vt vp st.ns st.ts st.ps by rw [hV]; exact HI.out.dc.iter HDL.out (pos + 1))
        have R1 := Lib.hid (show RD V G st.r by rw [hV]; unfold RD; rw [Lib.iterAt_other _ _ _ _ _ (by have := HDL.out.g; have := HDL.out.ib; omega)]; exact HI.out.rd)
        have hdr := drop_at hlt
        have hmeas := Lib.hid (iterPos_of HI.out.dc.it)
        obtain ⟨x, hx⟩ : ∃ x : UInt8, x = f[pos] := ⟨_, rfl⟩
        rw [← hx] at hnx hdr
        have HDR := Lib.hid hdr
        have HPOS := Lib.hid hlt
        have HSTOP := Lib.hid (show stepD x st = none → decP s = none from fun h => by rw [HR.out, run_stop HI.out.tot (by rw [hdr]; rfl) h]; rfl)
        have HNEXT := Lib.hid (show ∀ st', stepD x st = some st' → total = runD (f.data.toList.drop (pos + 1)) st' from fun st' h => run_next HI.out.tot hdr h)
        obtain ⟨z, hz⟩ : ∃ z, z = sizeOf' (x.toNat : Int) := ⟨_, rfl⟩
        have hSZ := sizes_c (w := V) (x.toNat : Int)
        rw [← hz] at hSZ
        have HSZC := Lib.hid hSZ
        have HZ := Lib.hid hz
        have ck : V.cell? ⟨K, 0, none⟩ = some (.pointer (some ⟨G, 0, none⟩)) := by simp [World.cell?, D1.out.kc]
        have HP6 := Lib.hid (show pos + 1 ≤ 6 by have := HSM.out.1; omega)
        clear hV hdr hx hlt hz hSZ hpos
        by_cases hz0 : 0 < z
        · have hzI : (0 : Int) < z := by omega
          have HZI := Lib.hid hz0
          have hz8 : z ≤ 8 := by rw [HZ.out]; rcases size_cases (x.toNat : Int) with e | e | e | e | e <;> omega
          have HQ := rdNumber_c R1.out z hz8 z rfl
          clear hz0 hz8
          cases hn3 : numP z st.r with
          | none =>
            have HNU := Lib.hid (pr_no HQ hn3)
            have HNO := Lib.hid (HSTOP.out (sd_num_none HZ.out HZI.out hn3))
            clear HQ hn3
            go_wp2_with (first
              | (go_at_call 48; refine (HNU.out).mono ?_; rintro e w6 ⟨rfl, g6⟩)
              | (go_at_call 29; refine (HSZC.out).mono ?_; rintro e w5 ⟨rfl, rfl⟩))
            exact ⟨rfl, dpost_no HNO.out ((D1.out.step HDL.out g6 (.inr rfl)).two)⟩
          | some q =>
            obtain ⟨n, r⟩ := q
            have HNU := Lib.hid (pr_yes HQ hn3)
            have hn64 : n < 18446744073709551616 := by
              have h8 := numP_lt hn3
              have : 256 ^ z ≤ 256 ^ 8 := Nat.pow_le_pow_right (by decide) (by rw [HZ.out]; rcases size_cases (x.toNat : Int) with e | e | e | e | e <;> omega)
              have e8 : (256 : Nat) ^ 8 = 18446744073709551616 := by decide
              omega
            have HRZ := Lib.hid (show r.size ≤ 1073741824 by have := numP_size hn3; have := HI.out.rz; omega)
            by_cases hneg : n < 9223372036854775808
            · have hw : IntKind.i64.wrap (n : Int) = (n : Int) := IntWalk.i64_in _ (by omega)
              have hst := Lib.hid (HNEXT.out _ (sd_num_ok HZ.out HZI.out hn3 hneg))
              obtain ⟨N, hN⟩ : ∃ N : Int, N = (n : Int) := ⟨_, rfl⟩
              rw [← hN] at hw hst HNU
              have hN0 : 0 ≤ N := by omega
              clear HQ hn3 hneg hn64 hN
              go_wp2_with (first
                | (at_builtin; refine app_num D6.out HDL.out R6.out N (by have := HI.out.ln; have := HP6.out; omega) rfl (.tmp 57) (.tmp 59) rfl rfl rfl ?_; intro A8 c8 w8 M8 d9 r9; have D9 := Lib.hid d9; have R9 := Lib.hid r9; obtain ⟨_, _, k2, _, _⟩ := mb_facts M8; have n2 := mb_frozen M8 2; clear d9 r9)
                | (go_at_call 48; refine (HNU.out).mono ?_; rintro e w6 ⟨rfl, r6, g6⟩; have D6 := Lib.hid (D1.out.step HDL.out g6 (.inr rfl)); have R6 := Lib.hid r6; obtain ⟨m0, m1, m2, m3, m4⟩ := mb_facts D6.out.mb; clear r6 g6)
                | (go_at_call 29; refine (HSZC.out).mono ?_; rintro e w5 ⟨rfl, rfl⟩)
                | (go_at_call 49; refine unless_yes.mono ?_; rintro e w7 ⟨rfl, rfl⟩))
              go_roundw
              case rel => exact ⟨pos + 1, _, vt, vp, ⟨st.ns ++ [N], st.ts, st.ps, r⟩, HPOS.out, Lib.hid ⟨D9.out, R9.out, hst.out, HRZ.out, by have := HI.out.ln; simp only [List.length_append, List.length_cons, List.length_nil]; omega, Nat.le_succ_of_le HI.out.lt⟩⟩
              case measure => rw [iterPos_of D9.out.it, hmeas.out]; have := HPOS.out; omega
            · have hw : IntKind.i64.wrap (n : Int) = (n : Int) - 18446744073709551616 := by rw [IntKind.wrap_i64]; omega
              have HNO := Lib.hid (HSTOP.out (sd_num_neg HZ.out HZI.out hn3 hneg))
              obtain ⟨N, hN⟩ : ∃ N : Int, N = (n : Int) - 18446744073709551616 := ⟨_, rfl⟩
              rw [← hN] at hw
              have hN0 : N < 0 := by omega
              have hN1 : decide (0 ≤ N) = false := by rw [decide_eq_false_iff_not]; omega
              clear HQ hn3 hneg hn64 hN
              go_wp2_with (first
                | (go_at_call 48; refine (HNU.out).mono ?_; rintro e w6 ⟨rfl, r6, g6⟩; have D6 := Lib.hid (D1.out.step HDL.out g6 (.inr rfl)); clear r6 g6)
                | (go_at_call 29; refine (HSZC.out).mono ?_; rintro e w5 ⟨rfl, rfl⟩)
                | (go_at_call 49; refine unless_no.mono ?_; rintro e w7 ⟨rfl, rfl⟩))
              exact ⟨rfl, dpost_no HNO.out D6.out.two⟩
        · have hz1 : z = 0 := by omega
          subst hz1
          clear hz0
          by_cases hx : x = 84
          · have HX := Lib.hid hx
            have hxI : ((x.toNat : Int) == 84) = true := by rw [hx]; rfl
            have HTB := rdTable_c R1.out HI.out.rz
            clear hx
            cases ht : tableP st.r with
            | none =>
              rw [ht] at HTB
              have HTB' := Lib.hid HTB
              have HNO := Lib.hid (HSTOP.out (by rw [sd_tab HZ.out HX.out, ht]; rfl))
              clear HTB ht
              go_wp2_with (first
                | (go_at_call 38; refine (HTB'.out).mono ?_; rintro e w6 ⟨g6, rfl⟩)
                | (go_at_call 29; refine (HSZC.out).mono ?_; rintro e w5 ⟨rfl, rfl⟩))
              exact ⟨rfl, dpost_no HNO.out ((D1.out.step HDL.out g6 (.inr rfl)).two)⟩
            | some q =>
              obtain ⟨qs, r⟩ := q
              rw [ht] at HTB
              have HTB' := Lib.hid HTB
              have hst := Lib.hid (HNEXT.out ⟨st.ns, st.ts, qs, r⟩ (by rw [sd_tab HZ.out HX.out, ht]; rfl))
              have HRZ := Lib.hid (show r.size ≤ 1073741824 by have := tableP_size ht; have := HI.out.rz; omega)
              clear HTB ht
              go_wp2_with (first
                | (go_at_call 38; refine (HTB'.out).mono ?_; rintro e w6 ⟨g6, v6, rfl, hv6, hr6⟩; obtain ⟨A6, c6, rfl⟩ := rc_any (ownP_rpr hv6); have D9 := Lib.hid (D1.out.set4 HDL.out g6 hv6); have R9 := Lib.hid (rd_kept hr6 (grownBy_set w6 M 4 (.slice A6 qs.length c6)) (fun e => HDL.out.gm (by injection e with e; exact e.symm))); have D6 := D1.out.step HDL.out g6 (.inr rfl); obtain ⟨_, _, _, _, k4⟩ := mb_facts D6.mb; have n4 := mb_frozen D6.mb 4; clear g6 hv6 hr6 D6)
                | (go_at_call 29; refine (HSZC.out).mono ?_; rintro e w5 ⟨rfl, rfl⟩))
              go_roundw
              case rel => exact ⟨pos + 1, vn, vt, _, ⟨st.ns, st.ts, qs, r⟩, HPOS.out, Lib.hid ⟨D9.out, R9.out, hst.out, HRZ.out, Nat.le_succ_of_le HI.out.ln, Nat.le_succ_of_le HI.out.lt⟩⟩
              case measure => rw [iterPos_of D9.out.it, hmeas.out]; have := HPOS.out; omega
          · have HX := Lib.hid hx
            have hxI : ((x.toNat : Int) == 84) = false := beq_eq_false_iff_ne.2 (fun e => hx (UInt8.toNat_inj.1 (by show x.toNat = 84; omega)))
            clear hx
            by_cases hs : x = 115
            · have HS := Lib.hid hs
              have hsI : ((x.toNat : Int) == 115) = true := by rw [hs]; rfl
              have HSH := rdShort_c (w := V.drew) R1.out
              obtain ⟨m0, m1, m2, m3, m4⟩ := mb_facts D1.out.mb
              clear hs
              cases ht : shortP st.r with
              | none =>
                have HSN := Lib.hid (pr_no HSH ht)
                have HNO := Lib.hid (HSTOP.out (by rw [sd_short HZ.out HX.out HS.out, ht]; rfl))
                clear HSH ht
                go_upto_region 17 with (go_at_call 29; refine (HSZC.out).mono ?_; rintro e w5 ⟨rfl, rfl⟩)
                go_region_dies
                all_goals
                  refine (HSN.out).mono ?_
                  rintro e w6 ⟨rfl, g6⟩
                  exact ⟨rfl, dpost_no HNO.out ((D1.out.step HDL.out (grownBy_trans (grownBy_below (below_drewN V 1) _) g6) (.inr rfl)).two)⟩
              | some q =>
                obtain ⟨y, r⟩ := q
                have HSN := Lib.hid (pr_yes HSH ht)
                have hst := Lib.hid (HNEXT.out ⟨st.ns, st.ts ++ [y], st.ps, r⟩ (by rw [sd_short HZ.out HX.out HS.out, ht]; rfl))
                have HRZ := Lib.hid (show r.size ≤ 1073741824 by have := shortP_size ht; have := HI.out.rz; omega)
                clear HSH ht
                go_upto_region 17 with (go_at_call 29; refine (HSZC.out).mono ?_; rintro e w5 ⟨rfl, rfl⟩)
                go_region_law (first
                  | (refine step_txt D6.out HDL.out R6.out y (by have := HI.out.lt; have := HP6.out; omega) rfl (.tmp 72) (.tmp 75) rfl rfl rfl ?_; intro A8 c8 w8 M8 d9 r9; have D9 := Lib.hid d9; have R9 := Lib.hid r9; obtain ⟨_, _, _, k3, _⟩ := mb_facts M8; have n3 := mb_frozen M8 3; clear d9 r9)
                  | (go_simp; go_at_call 50; refine (HSN.out).mono ?_; rintro e w6 ⟨rfl, r6, g6⟩; have D6 := Lib.hid (D1.out.step HDL.out (grownBy_trans (grownBy_below (below_drewN V 1) _) g6) (.inr rfl)); have R6 := Lib.hid r6; obtain ⟨_, _, _, k3, _⟩ := mb_facts D6.out.mb; have ck6 : w6.cell? ⟨K, 0, none⟩ = some (.pointer (some ⟨G, 0, none⟩)) := (by simp [World.cell?, D6.out.kc]); have k3a : (w6.alloc (.cells #[.string y] 9)).cell? ⟨M, 3, none⟩ = some vt := cell_below (below_al1 w6 _) (World.block_lt_of_cell? w6 _ k3) k3; clear r6 g6))
                all_goals
                  go_wp2_with fail
                  go_roundw
                  case rel => exact ⟨pos + 1, vn, _, vp, ⟨st.ns, st.ts ++ [y], st.ps, r⟩, HPOS.out, Lib.hid ⟨D9.out, R9.out, hst.out, HRZ.out, Nat.le_succ_of_le HI.out.ln, by have := HI.out.lt; simp only [List.length_append, List.length_cons, List.length_nil]; omega⟩⟩
                  case measure => rw [iterPos_of D9.out.it, hmeas.out]; have := HPOS.out; omega
            · have HS := Lib.hid hs
              have hsI : ((x.toNat : Int) == 115) = false := beq_eq_false_iff_ne.2 (fun e => hs (UInt8.toNat_inj.1 (by show x.toNat = 115; omega)))
              have HLO := rdLong_c R1.out (by have := HI.out.rz; omega)
              clear hs
              cases ht : longP st.r with
              | none =>
                have HLN := Lib.hid (pr_no HLO ht)
                have HNO := Lib.hid (HSTOP.out (by rw [sd_long HZ.out HX.out HS.out, ht]; rfl))
                clear HLO ht
                go_wp2_with (first
                  | (go_at_call 51; refine (HLN.out).mono ?_; rintro e w6 ⟨rfl, g6⟩)
                  | (go_at_call 29; refine (HSZC.out).mono ?_; rintro e w5 ⟨rfl, rfl⟩))
                exact ⟨rfl, dpost_no HNO.out ((D1.out.step HDL.out g6 (.inr rfl)).two)⟩
              | some q =>
                obtain ⟨y, r⟩ := q
                have HLN := Lib.hid (pr_yes HLO ht)
                have HRZ := Lib.hid (show r.size ≤ 1073741824 by have := longP_size ht; have := HI.out.rz; omega)
                by_cases hy : y.size ≤ 1024
                · have hst := Lib.hid (HNEXT.out ⟨st.ns, st.ts ++ [y], st.ps, r⟩ (by rw [sd_long HZ.out HX.out HS.out, ht, Option.bind_some]; exact if_pos hy))
                  have hyI : (y.size : Int) ≤ 1024 := by omega
                  clear HLO ht hy
                  go_wp2_with (first
                    | (at_builtin; refine app_txt D6.out HDL.out R6.out y (by have := HI.out.lt; have := HP6.out; omega) rfl (.tmp 41) (.tmp 43) rfl rfl rfl ?_; intro A8 c8 w8 M8 d9 r9; have D9 := Lib.hid d9; have R9 := Lib.hid r9; obtain ⟨_, _, _, k3, _⟩ := mb_facts M8; have n3 := mb_frozen M8 3; clear d9 r9)
                    | (go_at_call 51; refine (HLN.out).mono ?_; rintro e w6 ⟨rfl, r6, g6⟩; have D6 := Lib.hid (D1.out.step HDL.out g6 (.inr rfl)); have R6 := Lib.hid r6; obtain ⟨_, _, _, k3, _⟩ := mb_facts D6.out.mb; clear r6 g6)
                    | (go_at_call 29; refine (HSZC.out).mono ?_; rintro e w5 ⟨rfl, rfl⟩)
                    | (go_at_call 49; refine unless_yes.mono ?_; rintro e w7 ⟨rfl, rfl⟩))
                  go_roundw
                  case rel => exact ⟨pos + 1, vn, _, vp, ⟨st.ns, st.ts ++ [y], st.ps, r⟩, HPOS.out, Lib.hid ⟨D9.out, R9.out, hst.out, HRZ.out, Nat.le_succ_of_le HI.out.ln, by have := HI.out.lt; simp only [List.length_append, List.length_cons, List.length_nil]; omega⟩⟩
                  case measure => rw [iterPos_of D9.out.it, hmeas.out]; have := HPOS.out; omega
                · have HNO := Lib.hid (HSTOP.out (by rw [sd_long HZ.out HX.out HS.out, ht, Option.bind_some]; exact if_neg hy))
                  have hyI : (1024 : Int) < y.size := by omega
                  have hyD : decide ((y.size : Int) ≤ 1024) = false := by rw [decide_eq_false_iff_not]; omega
                  clear HLO ht hy
                  go_wp2_with (first
                    | (go_at_call 51; refine (HLN.out).mono ?_; rintro e w6 ⟨rfl, r6, g6⟩; have D6 := Lib.hid (D1.out.step HDL.out g6 (.inr rfl)); clear r6 g6)
                    | (go_at_call 29; refine (HSZC.out).mono ?_; rintro e w5 ⟨rfl, rfl⟩)
                    | (go_at_call 49; refine unless_no.mono ?_; rintro e w7 ⟨rfl, rfl⟩))
                  exact ⟨rfl, dpost_no HNO.out D6.out.two⟩
      · have hnx : ∀ ty, (Instr.next (.pointer (some ⟨W.heap.size, 0, none⟩)) true ty).run Tryd.prog wr = .ok (.tuple #[.bool false]) wr := fun ty => Lib.run_next_end_at wr _ f pos ty HI.out.dc.it hlt
        have hnil : f.data.toList.drop pos = [] := List.drop_eq_nil_of_le (by rw [ba_size]; omega)
        have HEN := Lib.hid (show decP s = if st.r.size = 0 then some ⟨a, b, st.ns, st.ts, st.ps⟩ else none from by rw [HR.out, HI.out.tot, hnil]; rfl)
        have ck : wr.cell? ⟨K, 0, none⟩ = some (.pointer (some ⟨G, 0, none⟩)) := by simp [World.cell?, HI.out.dc.kc]
        obtain ⟨g0, _⟩ := rd_facts HI.out.rd
        have HDC := Lib.hid HI.out.dc
        clear hlt hnil
        by_cases hr0 : st.r.size = 0
        · have HYES := Lib.hid (show decP s = some ⟨a, b, st.ns, st.ts, st.ps⟩ by rw [HEN.out, if_pos hr0])
          rw [ba_nil hr0] at g0
          clear hr0
          go_wp2_with (go_at_call 49; refine unless_yes.mono ?_; rintro e w7 ⟨rfl, rfl⟩)
          go_end0
          exact dpost_yes HYES.out HDC.out.two HDC.out.mb HDC.out.oi HDC.out.os HDC.out.op HDC.out.di
        · have HNO := Lib.hid (show decP s = none by rw [HEN.out, if_neg hr0])
          have hE := ne_nil st.r (by omega)
          clear hr0
          go_wp2_with (go_at_call 49; refine unless_no.mono ?_; rintro e w7 ⟨rfl, rfl⟩)
          exact ⟨rfl, dpost_no HNO.out HDC.out.two⟩

theorem decode1_c {w : World} {G M K : Nat} {s : ByteArray} (hG : RD w G s) (hM : MB w M 0 0 (.slice none 0 0) (.slice none 0 0) (.slice none 0 0)) (hK : w.heap[K]? = some (.cells #[.pointer (some ⟨G, 0, none⟩)] 66 (0, 0))) (hgk : G ≠ K) (hgm : G ≠ M) (hmk : M ≠ K) (hs : s.size ≤ 1073741824) :
    Calls Tryd.prog 47 #[.pointer (some ⟨K, 0, none⟩), .pointer (some ⟨M, 0, none⟩)] w (DPost w G M s) := by
  cases hn : numP 2 s with
  | none => exact dec1_no1 hG hK hn
  | some q =>
    obtain ⟨a, s1⟩ := q
    cases hn2 : numP 2 s1 with
    | none => exact dec1_no2 hG hK hgk hn hn2
    | some q2 =>
      obtain ⟨b, s2⟩ := q2
      exact dec1_c hG hM hK hgk hgm hmk hs hn hn2
end Go.Proofs.YteigbejidfkhpaaDoor

/- Layer 15: table.Decode. -/
namespace Go.Proofs.YteigbejidfkhpaaDoor
open Go Go.RowKit
set_option linter.unusedSimpArgs false
set_option linter.unusedVariables false

theorem results_row_t {P : Program} {fn : Func} {p u : Tmp} {ty : TypeId} (h : fn.results = #[.cell p ty, .tmp u]) (tmps : Array Value) (w : World) (g : Nat) (t : TypeId) (cs : Array Value) (fr : Nat × Nat) (d : TypeDesc)
    (hp : tmps.getD p undef = .pointer (some ⟨g, 0, none⟩)) (hg : w.heap[g]? = some (.cells cs t fr))
    (hu : P.underlying ty = some d) (hd : (match d with | .struct _ | .array _ _ => true | _ => false) = true) (hi : (P.info? ty).map (·.size) = some cs.size) :
    (results fn tmps).run P w = .ok (.tuple #[.agg cs, tmps.getD u undef]) w := by
  have hp' : tmps[p]?.getD undef = .pointer (some ⟨g, 0, none⟩) := by simpa using hp
  simp [results, h, hp', asAddr, run_loadVar_row w g t ty cs fr d hg hu hd hi]
theorem method_end {fn : Func} (h : fn.results = #[.cell 2 26, .tmp 3]) {R : Ending → World → Prop} {a : Act} {w : World} {g : Nat} {t : TypeId} {c0 c1 c2 c3 c4 : Value} {fr : Nat × Nat}
    (hp : a.tmps.getD 2 undef = .pointer (some ⟨g, 0, none⟩)) (hg : w.heap[g]? = some (.cells #[c0, c1, c2, c3, c4] t fr)) (hd : a.defers = [])
    (hR : R (.returned (.tuple #[.agg #[c0, c1, c2, c3, c4], a.tmps.getD 3 undef])) w) : bodyPost Tryd.prog fn R .ret a w :=
  bodyPost_ret (results_row_t h _ _ _ _ _ _ _ hp hg Tryd.underlying26 rfl (by kernel_rfl)) hd hR

/-- What Decode leaves. -/
def DecPost (w : World) (s : ByteArray) (e : Ending) (w' : World) : Prop :=
  Below w.heap.size w w' ∧ match decP s with
    | some m => ∃ vn vt vp, e = .returned (.tuple #[.agg #[.int .i64 m.c, .int .i64 m.i, vn, vt, vp], .int .i64 0]) ∧ w'.ownsRow w.heap.size 3 1 vn m.ns.length (m.ns.map (Value.int .i64)) ∧ w'.ownsRow w.heap.size 9 1 vt m.ts.length (m.ts.map Value.string) ∧ OwnP w' w.heap.size vp m.ps ∧ ∀ k, vn.ownBlock = some k → vp.ownBlock ≠ some k
    | none => e = .returned (.tuple #[.agg #[.int .i64 0, .int .i64 0, .slice none 0 0, .slice none 0 0, .slice none 0 0], .int .i64 11])
theorem decpost_no {w w' : World} {s : ByteArray} (h : decP s = none) (b : Below w.heap.size w w') : DecPost w s (.returned (.tuple #[.agg #[.int .i64 0, .int .i64 0, .slice none 0 0, .slice none 0 0, .slice none 0 0], .int .i64 11])) w' := by
  unfold DecPost
  rw [h]
  exact ⟨b, rfl⟩
theorem decpost_yes {w w' : World} {s : ByteArray} {m : Mth} {vn vt vp : Value} (h : decP s = some m) (b : Below w.heap.size w w') (h1 : w'.ownsRow w.heap.size 3 1 vn m.ns.length (m.ns.map (Value.int .i64))) (h2 : w'.ownsRow w.heap.size 9 1 vt m.ts.length (m.ts.map Value.string)) (h3 : OwnP w' w.heap.size vp m.ps) (h4 : ∀ k, vn.ownBlock = some k → vp.ownBlock ≠ some k) :
    DecPost w s (.returned (.tuple #[.agg #[.int .i64 m.c, .int .i64 m.i, vn, vt, vp], .int .i64 0])) w' := by
  unfold DecPost
  rw [h]
  exact ⟨b, vn, vt, vp, rfl, h1, h2, h3, h4⟩

abbrev zM : Obj := .cells #[.int .i64 0, .int .i64 0, .slice none 0 0, .slice none 0 0, .slice none 0 0] 26
/-- Four blocks, laid one behind the other. -/
def W4 (w : World) (s : ByteArray) : World := (((w.alloc zM).alloc (.cells #[.string s] 68)).alloc (.cells #[.pointer (some ⟨w.heap.size + 1, 0, none⟩)] 66)).alloc zM
theorem w4_facts (w : World) (s : ByteArray) : (W4 w s).heap[w.heap.size]? = some zM ∧ RD (W4 w s) (w.heap.size + 1) s ∧ (W4 w s).heap[w.heap.size + 2]? = some (.cells #[.pointer (some ⟨w.heap.size + 1, 0, none⟩)] 66 (0, 0)) ∧ MB (W4 w s) (w.heap.size + 3) 0 0 (.slice none 0 0) (.slice none 0 0) (.slice none 0 0) ∧ (W4 w s).heap.size = w.heap.size + 4 ∧ Below w.heap.size w (W4 w s) := by
  obtain ⟨h0, h1, h2, h3⟩ := three_blocks w zM (.cells #[.string s] 68) (.cells #[.pointer (some ⟨w.heap.size + 1, 0, none⟩)] 66)
  have hs : (W4 w s).heap.size = w.heap.size + 4 := by
    show (Array.push _ _).size = _
    rw [Array.size_push, h3]
  have b3 : Below w.heap.size w (((w.alloc zM).alloc (.cells #[.string s] 68)).alloc (.cells #[.pointer (some ⟨w.heap.size + 1, 0, none⟩)] 66)) := (((Below.refl _ _).alloc (Nat.le_refl _) _).alloc (by simp) _).alloc (by simp; omega) _
  refine ⟨?_, ?_, ?_, ?_, hs, b3.alloc b3.size _⟩
  · exact (heap_alloc_old _ _ (by omega)).trans h0
  · exact (heap_alloc_old _ _ (by omega)).trans h1
  · exact (heap_alloc_old _ _ (by omega)).trans h2
  · have h := heap_alloc_new (((w.alloc zM).alloc (.cells #[.string s] 68)).alloc (.cells #[.pointer (some ⟨w.heap.size + 1, 0, none⟩)] 66)) zM
    rw [h3] at h
    exact h

theorem cells5_at {w : World} {g : Nat} {t : TypeId} {c0 c1 c2 c3 c4 : Value} {fr : Nat × Nat} (h : w.heap[g]? = some (.cells #[c0, c1, c2, c3, c4] t fr)) (a b c d e : Value) : (((((w.setCell ⟨g, 0, none⟩ a).setCell ⟨g, 1, none⟩ b).setCell ⟨g, 2, none⟩ c).setCell ⟨g, 3, none⟩ d).setCell ⟨g, 4, none⟩ e).heap[g]? = some (.cells #[a, b, c, d, e] t fr) := by
  simp [World.setCell, Array.getElem?_modify, h]
theorem grown5 {w w1 : World} {row : Option Nat} (h : w.grownBy w1 row) {g : Nat} (hg : w.heap.size ≤ g) (a b c d e : Value) : w.grownBy (((((w1.setCell ⟨g, 0, none⟩ a).setCell ⟨g, 1, none⟩ b).setCell ⟨g, 2, none⟩ c).setCell ⟨g, 3, none⟩ d).setCell ⟨g, 4, none⟩ e) row :=
  grown_new (grown_new (grown_new (grown_new (grown_new h hg 0 a) hg 1 b) hg 2 c) hg 3 d) hg 4 e
set_option maxRecDepth 1000000 in
set_option maxHeartbeats 4000000 in
theorem decode_c {w : World} (s : ByteArray) (hs : s.size ≤ 1073741824) :
    Calls Tryd.prog 26 #[.string s] w (DecPost w s) := by
  have hmf : ∀ (fn : Fn) (first cap : Array Value) (w : World), (Instr.makeFunc fn first cap).run Tryd.prog w = .ok (.func fn first cap) w := fun _ _ _ _ => rfl
  have hen : ∀ args w, (callFunc 47 args).run Tryd.prog w = .ok (.enter 47 args) w := fun args w => enters_of Tryd.func47 (by kernel_rfl) rfl args w
  obtain ⟨g0, g1, g2, g3, g4, gb⟩ := w4_facts w s
  obtain ⟨V, hV⟩ : ∃ V, V = W4 w s := ⟨_, rfl⟩
  rw [← hV] at g0 g1 g2 g3 g4 gb
  obtain ⟨V5, hV5⟩ : ∃ V5, V5 = V.alloc (.cells #[.bool false] 4) := ⟨_, rfl⟩
  have hal : Below V.heap.size V V5 := by rw [hV5]; exact below_al1 _ _
  have hok : V5.heap[V.heap.size]? = some (.cells #[.bool false] 4 (0, 0)) := by rw [hV5]; exact heap_alloc_new V _
  have hs5 : V5.heap.size = w.heap.size + 5 := by rw [hV5, show (V.alloc (.cells #[.bool false] 4)).heap.size = V.heap.size + 1 from Array.size_push _, g4]
  have k1 : RD V5 (w.heap.size + 1) s := (hal.block _ (by omega)).trans g1
  have k2 : V5.heap[w.heap.size + 2]? = _ := (hal.block _ (by omega)).trans g2
  have k3 : MB V5 (w.heap.size + 3) 0 0 (.slice none 0 0) (.slice none 0 0) (.slice none 0 0) := (hal.block _ (by omega)).trans g3
  have hC := decode1_c k1 k3 k2 (by omega) (by omega) (by omega) hs
  have hB5 := gb.trans (hal.mono (by omega))
  have hcl : ∀ w', Two V5 w' (w.heap.size + 1) (w.heap.size + 3) → w'.heap[V.heap.size]? = some (.cells #[.bool false] 4 (0, 0)) := fun w' ht => (ht.block V.heap.size (by omega) (by omega) (by omega)).trans hok
  have hck : ∀ w' : World, w'.heap[V.heap.size]? = some (.cells #[.bool false] 4 (0, 0)) → w'.cell? ⟨V.heap.size, 0, none⟩ = some (.bool false) ∧ w'.frozen? ⟨V.heap.size, 0, none⟩ = false := fun w' h => ⟨by simp [World.cell?, h], by simp [World.frozen?, h]⟩
  cases hd : decP s with
  | none =>
    have hg := guard_no (cap := #[.pointer (some ⟨w.heap.size + 2, 0, none⟩), .pointer (some ⟨w.heap.size + 3, 0, none⟩)]) (w := V) (R := fun w' => Two V5 w' (w.heap.size + 1) (w.heap.size + 3)) hen (by
      rw [← hV5]
      refine hC.mono ?_
      rintro e w' ⟨ht, he⟩
      rw [hd] at he
      exact ⟨he, ht, hck _ (hcl _ ht)⟩)
    have HG := Lib.hid hg
    have HD := Lib.hid hd
    have HB5 := Lib.hid hB5
    have HS5 := Lib.hid hs5
    have HG4 := Lib.hid g4
    have HG0 := Lib.hid (show V5.heap[w.heap.size]? = some zM from (hal.block _ (by omega)).trans g0)
    rw [hV] at HG HG4
    unfold W4 zM at HG HG4
    clear hg hd hB5 hs5 g4 hV hV5 g0 g1 g2 g3 gb hal hok k1 k2 k3 hC hcl hck
    go_enter Tryd.func26, Tryd.ntmps26
    go_wp2_with fail
    refine (HG.out).mono ?_
    rintro e w' ⟨rfl, w1, hT, hw'⟩
    rw [HG4.out] at hw'
    have hz : w'.heap[w.heap.size]? = some zM := by
      rw [hw', Below.heap_setCell _ _ _ _ (show w.heap.size ≠ w.heap.size + 4 by omega), heap_alloc_old _ _ (by have := hT.size; have := HS5.out; omega)]
      exact (hT.block _ (by have := HS5.out; omega) (by omega) (by omega)).trans HG0.out
    have hB : Below w.heap.size w w' := by
      rw [hw']
      have b1 := HB5.out.trans (hT.below (B := w.heap.size) (by omega) (by omega) (by have := HS5.out; omega))
      exact below_set (b1.alloc b1.size _) (by omega) 0 _
    have hB' : w.grownBy w' none := grownBy_below hB none
    have HZ := Lib.hid hz
    have HBB := Lib.hid hB'
    have q0 : w'.cell? ⟨w.heap.size, 0, none⟩ = some (.int .i64 0) := by simp [World.cell?, hz]
    have q1 : w'.cell? ⟨w.heap.size, 1, none⟩ = some (.int .i64 0) := by simp [World.cell?, hz]
    have q2 : w'.cell? ⟨w.heap.size, 2, none⟩ = some (.slice none 0 0) := by simp [World.cell?, hz]
    have q3 : w'.cell? ⟨w.heap.size, 3, none⟩ = some (.slice none 0 0) := by simp [World.cell?, hz]
    have q4 : w'.cell? ⟨w.heap.size, 4, none⟩ = some (.slice none 0 0) := by simp [World.cell?, hz]
    have f0 : w'.frozen? ⟨w.heap.size, 0, none⟩ = false := by simp [World.frozen?, hz]
    have f1 : w'.frozen? ⟨w.heap.size, 1, none⟩ = false := by simp [World.frozen?, hz]
    have f2 : w'.frozen? ⟨w.heap.size, 2, none⟩ = false := by simp [World.frozen?, hz]
    have f3 : w'.frozen? ⟨w.heap.size, 3, none⟩ = false := by simp [World.frozen?, hz]
    have f4 : w'.frozen? ⟨w.heap.size, 4, none⟩ = false := by simp [World.frozen?, hz]
    clear hT hw' hz hB hB'
    go_wp2_with fail
    refine method_end rfl rfl (cells5_at HZ.out _ _ _ _ _) rfl ?_
    exact decpost_no HD.out ⟨(grown5 HBB.out (Nat.le_refl _) _ _ _ _ _).os, (grown5 HBB.out (Nat.le_refl _) _ _ _ _ _).tape, (grown5 HBB.out (Nat.le_refl _) _ _ _ _ _).output, (grown5 HBB.out (Nat.le_refl _) _ _ _ _ _).size, fun k hk => (grown5 HBB.out (Nat.le_refl _) _ _ _ _ _).block k hk (by intro h; cases h)⟩
  | some m =>
    have hg := guard_yes (cap := #[.pointer (some ⟨w.heap.size + 2, 0, none⟩), .pointer (some ⟨w.heap.size + 3, 0, none⟩)]) (w := V) (R := fun w' => Two V5 w' (w.heap.size + 1) (w.heap.size + 3) ∧ ∃ vn vt vp, MB w' (w.heap.size + 3) m.c m.i vn vt vp ∧ w'.ownsRow V5.heap.size 3 1 vn m.ns.length (m.ns.map (Value.int .i64)) ∧ w'.ownsRow V5.heap.size 9 1 vt m.ts.length (m.ts.map Value.string) ∧ OwnP w' V5.heap.size vp m.ps ∧ ∀ k, vn.ownBlock = some k → vp.ownBlock ≠ some k) hen (by
      rw [← hV5]
      refine hC.mono ?_
      rintro e w' ⟨ht, he⟩
      rw [hd] at he
      exact ⟨he.1, ⟨ht, he.2⟩, hck _ (hcl _ ht)⟩)
    have HG := Lib.hid hg
    have HD := Lib.hid hd
    have HB5 := Lib.hid hB5
    have HS5 := Lib.hid hs5
    have HG4 := Lib.hid g4
    have HG0 := Lib.hid (show V5.heap[w.heap.size]? = some zM from (hal.block _ (by omega)).trans g0)
    rw [hV] at HG HG4
    unfold W4 zM at HG HG4
    clear hg hd hB5 hs5 g4 hV hV5 g0 g1 g2 g3 gb hal hok k1 k2 k3 hC hcl hck
    go_enter Tryd.func26, Tryd.ntmps26
    go_wp2_with fail
    refine (HG.out).mono ?_
    rintro e w' ⟨rfl, w1, ⟨hT, vn, vt, vp, hM, hn, ht, hp, hdi⟩, hw'⟩
    rw [HG4.out] at hw'
    have hz : w'.heap[w.heap.size]? = some zM := by
      rw [hw', Below.heap_setCell _ _ _ _ (show w.heap.size ≠ w.heap.size + 4 by omega)]
      exact (hT.block _ (by have := HS5.out; omega) (by omega) (by omega)).trans HG0.out
    have hgr : w1.grownBy w' (some (w.heap.size + 4)) := by rw [hw']; exact grownBy_set _ _ _ _
    have hM' : MB w' (w.heap.size + 3) m.c m.i vn vt vp := blk_kept hM hgr (fun e => by injection e with e; omega)
    have hn' := own_kept hn hgr (fun k e => by injection e with e; rw [← e]; exact own_low hn (by have := HS5.out; omega))
    have ht' := own_kept ht hgr (fun k e => by injection e with e; rw [← e]; exact own_low ht (by have := HS5.out; omega))
    have hp' := ownP_kept hp hgr (fun k e => by injection e with e; rw [← e]; exact ownP_low hp (by have := HS5.out; omega))
    have hB : Below w.heap.size w w' := by
      have b1 := HB5.out.trans (hT.below (B := w.heap.size) (by omega) (by omega) (by have := HS5.out; omega))
      rw [hw']
      exact below_set b1 (by omega) 0 _
    have HN := Lib.hid hn'
    have HT' := Lib.hid ht'
    have HP := Lib.hid hp'
    have HZ := Lib.hid hz
    have HDI := Lib.hid hdi
    have HBB := Lib.hid (grownBy_below hB none)
    obtain ⟨A1, c1, rfl⟩ := rc_any (own_rc hn')
    obtain ⟨A2, c2, rfl⟩ := rc_any (own_rc ht')
    obtain ⟨A3, c3, rfl⟩ := rc_any (ownP_rpr hp')
    obtain ⟨m0, m1, m2, m3, m4⟩ := mb_facts hM'
    have q0 : w'.cell? ⟨w.heap.size, 0, none⟩ = some (.int .i64 0) := by simp [World.cell?, hz]
    have q1 : w'.cell? ⟨w.heap.size, 1, none⟩ = some (.int .i64 0) := by simp [World.cell?, hz]
    have q2 : w'.cell? ⟨w.heap.size, 2, none⟩ = some (.slice none 0 0) := by simp [World.cell?, hz]
    have q3 : w'.cell? ⟨w.heap.size, 3, none⟩ = some (.slice none 0 0) := by simp [World.cell?, hz]
    have q4 : w'.cell? ⟨w.heap.size, 4, none⟩ = some (.slice none 0 0) := by simp [World.cell?, hz]
    have f0 : w'.frozen? ⟨w.heap.size, 0, none⟩ = false := by simp [World.frozen?, hz]
    have f1 : w'.frozen? ⟨w.heap.size, 1, none⟩ = false := by simp [World.frozen?, hz]
    have f2 : w'.frozen? ⟨w.heap.size, 2, none⟩ = false := by simp [World.frozen?, hz]
    have f3 : w'.frozen? ⟨w.heap.size, 3, none⟩ = false := by simp [World.frozen?, hz]
    have f4 : w'.frozen? ⟨w.heap.size, 4, none⟩ = false := by simp [World.frozen?, hz]
    clear hT hw' hz hB hgr hM hM' hn ht hp hn' ht' hp' hdi
    go_wp2_with fail
    refine method_end rfl rfl (cells5_at HZ.out _ _ _ _ _) rfl ?_
    have G5 := grown5 HBB.out (Nat.le_refl _) (.int .i64 m.c) (.int .i64 m.i) (.slice A1 m.ns.length c1) (.slice A2 m.ts.length c2) (.slice A3 m.ps.length c3)
    have hset : ∀ (j : Nat) (u : Value) (X : World), X.grownBy (X.setCell ⟨w.heap.size, j, none⟩ u) (some w.heap.size) := fun j u X => grownBy_set X _ j u
    have hlow : w.heap.size < V5.heap.size := by have := HS5.out; omega
    have kn : ∀ (j : Nat) (u : Value) (X : World), X.ownsRow V5.heap.size 3 1 (.slice A1 m.ns.length c1) m.ns.length (m.ns.map (Value.int .i64)) → (X.setCell ⟨w.heap.size, j, none⟩ u).ownsRow V5.heap.size 3 1 (.slice A1 m.ns.length c1) m.ns.length (m.ns.map (Value.int .i64)) := fun j u X h => own_kept h (hset j u X) (fun k e => by injection e with e; rw [← e]; exact own_low h hlow)
    have kt : ∀ (j : Nat) (u : Value) (X : World), X.ownsRow V5.heap.size 9 1 (.slice A2 m.ts.length c2) m.ts.length (m.ts.map Value.string) → (X.setCell ⟨w.heap.size, j, none⟩ u).ownsRow V5.heap.size 9 1 (.slice A2 m.ts.length c2) m.ts.length (m.ts.map Value.string) := fun j u X h => own_kept h (hset j u X) (fun k e => by injection e with e; rw [← e]; exact own_low h hlow)
    have kp : ∀ (j : Nat) (u : Value) (X : World), OwnP X V5.heap.size (.slice A3 m.ps.length c3) m.ps → OwnP (X.setCell ⟨w.heap.size, j, none⟩ u) V5.heap.size (.slice A3 m.ps.length c3) m.ps := fun j u X h => ownP_kept h (hset j u X) (fun k e => by injection e with e; rw [← e]; exact ownP_low h hlow)
    exact decpost_yes HD.out ⟨G5.os, G5.tape, G5.output, G5.size, fun k hk => G5.block k hk (by intro h; cases h)⟩
      (own_lower (kn 4 _ _ (kn 3 _ _ (kn 2 _ _ (kn 1 _ _ (kn 0 _ _ HN.out))))) (Nat.le_of_lt hlow)) (own_lower (kt 4 _ _ (kt 3 _ _ (kt 2 _ _ (kt 1 _ _ (kt 0 _ _ HT'.out))))) (Nat.le_of_lt hlow)) (ownP_lower (kp 4 _ _ (kp 3 _ _ (kp 2 _ _ (kp 1 _ _ (kp 0 _ _ HP.out))))) (Nat.le_of_lt hlow)) HDI.out
end Go.Proofs.YteigbejidfkhpaaDoor

/- Plain law: a valid list's bytes are read as the list. -/
namespace Go.Proofs.YteigbejidfkhpaaDoor
open Go Go.Proofs Go.RowKit
set_option linter.unusedSimpArgs false
set_option linter.unusedVariables false

def bs (l : List UInt8) : ByteArray := ⟨l.toArray⟩
theorem bs_size (l : List UInt8) : (bs l).size = l.length := by unfold bs; show l.toArray.size = _; simp
theorem bs_list (l : List UInt8) : (bs l).data.toList = l := by simp [bs]
theorem bs_of (s : ByteArray) : bs s.data.toList = s := ba_ext (bs_list _)
theorem ba_extract (s : ByteArray) (a b : Nat) : (s.extract a b).data.toList = (s.data.toList.take b).drop a := by
  rw [Lib.extract_data, List.drop_take]
theorem bs_extract (l : List UInt8) (a b : Nat) : (bs l).extract a b = bs ((l.take b).drop a) := by
  apply ba_ext
  rw [bs_list, ba_extract, bs_list]
theorem takeP_app (x r : List UInt8) : takeP x.length (bs (x ++ r)) = some (bs x, bs r) := by
  unfold takeP
  rw [if_pos (by rw [bs_size, List.length_append]; omega), bs_extract, bs_extract]
  have e1 : (x ++ r).take (x.length + r.length) = x ++ r := List.take_of_length_le (by rw [List.length_append]; omega)
  simp [bs_size, e1]
theorem takeP_short {n : Nat} {l : List UInt8} (h : l.length < n) : takeP n (bs l) = none := by
  unfold takeP
  rw [if_neg (by rw [bs_size]; omega)]
theorem numP_app (k n : Nat) (hn : n < 256 ^ k) (r : List UInt8) : numP k (bs (beB n k ++ r)) = some (n, bs r) := by
  have h := takeP_app (beB n k) r
  rw [beB_len] at h
  unfold numP
  rw [h]
  simp only [Option.map_some, bs_list]
  rw [natB_beB, Nat.mod_eq_of_lt hn]
theorem numP_short {k : Nat} {l : List UInt8} (h : l.length < k) : numP k (bs l) = none := by
  unfold numP
  rw [takeP_short h]
  rfl
theorem longP_app (x r : List UInt8) (hx : x.length < 4294967296) : longP (bs (beB x.length 4 ++ (x ++ r))) = some (bs x, bs r) := by
  unfold longP
  rw [numP_app 4 x.length hx]
  exact takeP_app x r
theorem shortP_app (x r : List UInt8) (hx : x.length < 256) : shortP (bs (UInt8.ofNat x.length :: (x ++ r))) = some (bs x, bs r) := by
  have h : UInt8.ofNat x.length :: (x ++ r) = beB x.length 1 ++ (x ++ r) := by simp [beB, dig]
  unfold shortP
  rw [h, numP_app 1 x.length hx]
  exact takeP_app x r
theorem takeP_one (c : UInt8) (r : List UInt8) : takeP 1 (bs (c :: r)) = some (⟨#[c]⟩, bs r) := takeP_app [c] r

theorem sgn64 (n : Int) (h0 : -9223372036854775808 ≤ n) (h1 : n ≤ 9223372036854775807) : sgn 64 (n % 18446744073709551616).toNat = n := by
  unfold sgn
  show (if _ < 9223372036854775808 then _ else _ - 18446744073709551616) = n
  split <;> omega
theorem widR_back {r n : Nat} (hr : r < 2 ^ 64) (hc : r = canonR r) (h : narB r = some n) : widR n = r := by
  by_cases hn : nanB r = true
  · have e : r = 9221120237041090561 := by rw [hc]; unfold canonR; rw [if_pos hn]
    have e2 : n = 2143289344 := by
      unfold narB at h
      rw [if_pos hn] at h
      injection h with h
      exact h.symm
    rw [e, e2]
    decide +kernel
  · have hn' : nanB r = false := by simpa using hn
    obtain ⟨v, hv, ho, hv64⟩ := narB_spec hn' h
    rcases FloatL.order_eq hv64 hr ho with ⟨_, hz⟩ | e
    · have h2 : r = 0 ∨ r = 9223372036854775808 := by
        have : (2 : Nat) ^ 63 = 9223372036854775808 := by decide
        have : (2 : Nat) ^ 64 = 18446744073709551616 := by decide
        omega
      rcases h2 with rfl | rfl
      · have e : narB 0 = some 0 := by decide +kernel
        rw [e] at h
        injection h with h
        rw [← h]
        decide +kernel
      · have e : narB 9223372036854775808 = some 2147483648 := by decide +kernel
        rw [e] at h
        injection h with h
        rw [← h]
        decide +kernel
    · subst e
      unfold widR
      rw [hv]
      exact hc.symm

theorem valP_app {p : Prp} (hp : p.fit) (r : List UInt8) : valP (bs (valB p ++ r)) = some (⟨p.k, p.n, p.t, p.r⟩, bs r) := by
  obtain ⟨gp, rp, np0, np1⟩ := hp
  rcases good_of gp with ⟨a, b, c⟩ | ⟨a, b, c, d⟩ | ⟨a, b, c, d⟩ | ⟨a, b, c, d⟩
  · rw [val1 a, List.cons_append]
    unfold valP
    rw [takeP_one, Option.bind_some]
    show valQ ⟨#[108]⟩ _ = _
    unfold valQ
    rw [if_neg (by decide), if_neg (by decide), if_neg (by decide), if_neg (by decide), if_pos rfl, numP_app 8 _ (by show _ < 18446744073709551616; omega), Option.map_some]
    rw [sgn64 _ np0 np1, ba_nil b, a, c]
  · rw [val2 a, List.cons_append, List.cons_append, List.nil_append]
    unfold valP
    rw [takeP_one, Option.bind_some]
    show valQ ⟨#[116]⟩ _ = _
    unfold valQ
    have h := numP_app 1 p.n.toNat (by rw [Nat.pow_one]; omega) r
    rw [show beB p.n.toNat 1 ++ r = UInt8.ofNat p.n.toNat :: r by simp [beB, dig]] at h
    rw [if_pos rfl, h, Option.map_some]
    rw [ba_nil b, a, c, show ((p.n.toNat : Nat) : Int) = p.n by omega]
  · rw [val3 a, List.cons_append, List.append_assoc]
    unfold valP
    rw [takeP_one, Option.bind_some]
    show valQ ⟨#[83]⟩ _ = _
    unfold valQ
    have h := longP_app p.t.data.toList r (by rw [ba_size]; omega)
    rw [ba_size] at h
    rw [if_neg (by decide), if_neg (by decide), if_neg (by decide), if_neg (by decide), if_neg (by decide), if_neg (by decide), if_neg (by decide), if_pos rfl, h, Option.map_some]
    rw [bs_of, a, b, c]
  · rw [val4 a]
    unfold realB
    cases hn : narB p.r with
    | some n =>
      dsimp only
      rw [List.cons_append]
      unfold valP
      rw [takeP_one, Option.bind_some]
      show valQ ⟨#[102]⟩ _ = _
      unfold valQ
      rw [if_neg (by decide), if_neg (by decide), if_neg (by decide), if_neg (by decide), if_neg (by decide), if_pos rfl, numP_app 4 n (narB_lt hn), Option.map_some]
      rw [widR_back rp d hn, ba_nil c, a, b]
    | none =>
      dsimp only
      rw [List.cons_append]
      unfold valP
      rw [takeP_one, Option.bind_some]
      show valQ ⟨#[100]⟩ _ = _
      unfold valQ
      rw [if_neg (by decide), if_neg (by decide), if_neg (by decide), if_neg (by decide), if_neg (by decide), if_neg (by decide), if_pos rfl, numP_app 8 p.r rp, Option.map_some]
      dsimp only
      rw [← d, ba_nil c, a, b]
theorem itemP_app {p : Prp} (hn : p.nm.size ≤ 16) (hp : p.fit) (r : List UInt8) : itemP (bs (propB p ++ r)) = some (p, bs r) := by
  unfold itemP propB
  have h := shortP_app p.nm.data.toList (valB p ++ r) (by rw [ba_size]; omega)
  rw [ba_size] at h
  rw [List.cons_append, List.append_assoc, h, Option.bind_some]
  dsimp only
  rw [valP_app hp, Option.map_some, bs_of]
theorem itemsP_app : ∀ (ps : List Prp), (∀ p ∈ ps, p.nm.size ≤ 16 ∧ p.fit) → itemsP (bs (propsB ps)).size (bs (propsB ps)) = some ps
  | [], _ => itemsP_nil (by rw [bs_size]; rfl)
  | p :: r, h => by
    have e : propsB (p :: r) = propB p ++ propsB r := by simp [propsB]
    rw [e, itemsP_step (by rw [bs_size]; unfold propB; simp), itemP_app (h p (List.mem_cons_self ..)).1 (h p (List.mem_cons_self ..)).2, Option.bind_some]
    dsimp only
    rw [itemsP_app r (fun q hq => h q (List.mem_cons_of_mem _ hq))]
    rfl

/-! ### A sorted list is sorted as it is; a table's bytes -/
open Go.Sort in
theorem insOuter_id {d : Array Prp} {b : Nat} (h : ∀ i, 0 < i → i < b → ltOf cfP d[i]! d[i - 1]! = false) : ∀ (n i : Nat), b - i ≤ n → 0 < i → insOuter (ltOf cfP) 0 b i d = d
  | 0, i, hn, h0 => insOuter_stop _ _ _ _ _ (by omega)
  | n + 1, i, hn, h0 => by
    by_cases hi : i < b
    · rw [insOuter_go _ _ _ _ _ hi, insInner_stop _ _ _ _ (.inr (h i h0 hi))]
      exact insOuter_id h n (i + 1) (by omega) (by omega)
    · exact insOuter_stop _ _ _ _ _ hi
theorem valid_lt : ∀ (ps : List Prp) (o : Option ByteArray), validL o ps = true → ∀ i p q, ps[i]? = some p → ps[i + 1]? = some q → Go.Op.bytesLess p.nm.toList q.nm.toList = true
  | [], _, _, _, _, _, hp, _ => by simp at hp
  | a :: r, o, h, i, p, q, hp, hq => by
    have hr : validL (some a.nm) r = true := by
      cases o <;> (unfold validL at h; simp only [Bool.and_eq_true] at h; exact h.2)
    cases i with
    | zero =>
      simp only [List.getElem?_cons_zero, Option.some.injEq] at hp
      subst hp
      cases r with
      | nil => simp at hq
      | cons b r =>
        simp only [List.getElem?_cons_succ, List.getElem?_cons_zero, Option.some.injEq] at hq
        subst hq
        unfold validL at hr
        simp only [Bool.and_eq_true] at hr
        exact hr.1.2
    | succ i => exact valid_lt r _ hr i p q (by simpa using hp) (by simpa using hq)
theorem less_iff (a b : ByteArray) : Go.Op.bytesLess a.toList b.toList = true ↔ a.data.toList < b.data.toList := by
  rw [bytesLess_eq, decide_eq_true_eq, ByteArray.toList_eq, ByteArray.toList_eq]
theorem sortP_valid {ps : List Prp} (h : validB ps = true) : sortP ps = ps := by
  have hv : validL none ps = true := by unfold validB at h; simp only [Bool.and_eq_true] at h; exact h.1
  have hl := valid_lt ps none hv
  unfold sortP Sort.insertionSort
  rw [insOuter_id (d := ps.toArray) (b := ps.length) ?_ ps.length 1 (by omega) (by omega)]
  intro i h0 hi
  obtain ⟨j, rfl⟩ : ∃ j, i = j + 1 := ⟨i - 1, by omega⟩
  have h1 := hl j ps[j] ps[j + 1] (List.getElem?_eq_getElem (by omega)) (List.getElem?_eq_getElem hi)
  rw [less_iff] at h1
  have e1 : ps.toArray[j + 1]! = ps[j + 1] := by simp [getElem!_def, hi]
  have e2 : ps.toArray[j + 1 - 1]! = ps[j] := by simp [getElem!_def, show j < ps.length by omega]
  rw [e1, e2, ltP_no]
  exact fun h2 => List.lt_irrefl _ (List.lt_trans h1 h2)
theorem tabP_valid {ps : List Prp} (h : validB ps = true) : tabP ps = some ps := by
  have := valid_len h
  unfold tabP
  rw [sortP_valid h, if_pos ⟨by omega, h⟩]
/-- What table.Put writes. -/
def putB (ps : List Prp) : List UInt8 := beB (propsB ps).length 4 ++ propsB ps
theorem fit_of {ps : List Prp} (h : validB ps = true) (hf : ∀ p ∈ ps, p.r < 2 ^ 64 ∧ -9223372036854775808 ≤ p.n ∧ p.n ≤ 9223372036854775807) : ∀ p ∈ ps, p.nm.size ≤ 16 ∧ p.fit := fun p hp => by
  obtain ⟨v1, v2⟩ := valid_all h p hp
  obtain ⟨q1, q2, q3⟩ := hf p hp
  unfold nameB at v1
  simp only [Bool.and_eq_true, decide_eq_true_eq] at v1
  exact ⟨v1.1.2, v2, q1, q2, q3⟩
theorem props_small {ps : List Prp} (h : validB ps = true) : (propsB ps).length ≤ 4448 := by
  have l1 := propsB_len ps (valid_all h)
  have m1 := valid_len h
  omega
theorem tableP_put {ps : List Prp} (h : validB ps = true) (hf : ∀ p ∈ ps, p.r < 2 ^ 64 ∧ -9223372036854775808 ≤ p.n ∧ p.n ≤ 9223372036854775807) (more : List UInt8) : tableP (bs (putB ps ++ more)) = some (ps, bs more) := by
  have hs := props_small h
  unfold tableP putB
  rw [List.append_assoc, longP_app _ _ (by omega), Option.bind_some]
  dsimp only
  rw [itemsP_app ps (fit_of h hf), Option.bind_some, tabP_valid h]
  rfl
/-- Nothing shorter is a table. -/
theorem tableP_short {ps : List Prp} (h : validB ps = true) {k : Nat} (hk : k < (putB ps).length) : tableP (bs ((putB ps).take k)) = none := by
  have hs := props_small h
  have hl : longP (bs ((putB ps).take k)) = none := by
    unfold longP
    by_cases h4 : k < 4
    · rw [numP_short (by rw [List.length_take]; omega)]
      rfl
    · have e : (putB ps).take k = beB (propsB ps).length 4 ++ (propsB ps).take (k - 4) := by
        unfold putB
        rw [List.take_append, List.take_of_length_le (by rw [beB_len]; omega), beB_len]
      rw [e, numP_app 4 _ (by show _ < 4294967296; omega), Option.bind_some]
      refine takeP_short ?_
      unfold putB at hk
      rw [List.length_append, beB_len] at hk
      rw [List.length_take]
      omega
  unfold tableP
  rw [hl]
  rfl
end Go.Proofs.YteigbejidfkhpaaDoor

/- Layer 15, plain law: a method's payload is read as the method, and as nothing else with a byte behind. -/
namespace Go.Proofs.YteigbejidfkhpaaDoor
open Go Go.RowKit
set_option linter.unusedSimpArgs false
set_option linter.unusedVariables false

theorem beB_one (n : Nat) : beB n 1 = [UInt8.ofNat n] := by simp [beB, dig]
theorem run_enc : ∀ (f : List UInt8) (ns : List Int) (ts : List ByteArray) (tb : Nat) (ps : List Prp) (l r : List UInt8) (ns0 : List Int) (ts0 : List ByteArray) (ps0 : List Prp),
    (∀ n ∈ ns, n ≤ 9223372036854775807) → (∀ p ∈ ps, p.r < 2 ^ 64 ∧ -9223372036854775808 ≤ p.n ∧ p.n ≤ 9223372036854775807) → (tb = 0 → ps0 = []) → (0 < tb → ps0 = ps) →
    encB f ns ts tb ps = some l → runD f ⟨ns0, ts0, ps0, bs (l ++ r)⟩ = some ⟨ns0 ++ ns, ts0 ++ ts, ps, bs r⟩
  | [], ns, ts, tb, ps, l, r, ns0, ts0, ps0, hn, hp, h0, h1, h => by
    unfold encB at h
    split at h
    · rename_i g
      injection h with h
      obtain ⟨rfl, rfl, g3⟩ := g
      subst h
      have e : ps0 = ps := by
        by_cases hz : tb = 0
        · rw [h0 hz, List.eq_nil_of_length_eq_zero (g3 hz)]
        · exact h1 (by omega)
      rw [e]
      simp [runD]
    · cases h
  | c :: f, ns, ts, tb, ps, l, r, ns0, ts0, ps0, hn, hp, h0, h1, h => by
    unfold encB at h
    show (stepD c _).bind (runD f) = _
    by_cases hz : 0 < sizeOf' c.toNat
    · rw [if_pos hz] at h
      cases ns with
      | nil => cases h
      | cons n ns =>
        dsimp only at h
        by_cases hf : fitsB n (sizeOf' c.toNat) = true
        · rw [if_pos hf] at h
          obtain ⟨l', hl, rfl⟩ := Option.map_eq_some_iff.1 h
          have hzc : sizeOf' c.toNat = 1 ∨ sizeOf' c.toNat = 2 ∨ sizeOf' c.toNat = 4 ∨ sizeOf' c.toNat = 8 := by
            rcases size_cases (c.toNat : Int) with e | e | e | e | e <;> omega
          obtain ⟨n0, n1⟩ := fits_lt hf (hn n (List.mem_cons_self ..)) hzc
          have hnum := numP_app (sizeOf' c.toNat) n.toNat n1 (l' ++ r)
          rw [sd_num_ok (st := ⟨ns0, ts0, ps0, bs (beB n.toNat (sizeOf' c.toNat) ++ l' ++ r)⟩) rfl hz (by rw [List.append_assoc]; exact hnum) (by have := hn n (List.mem_cons_self ..); omega), Option.bind_some]
          rw [run_enc f ns ts tb ps l' r (ns0 ++ [((n.toNat : Nat) : Int)]) ts0 ps0 (fun m hm => hn m (List.mem_cons_of_mem _ hm)) hp h0 h1 hl]
          rw [show ((n.toNat : Nat) : Int) = n by omega]
          simp
        · rw [if_neg hf] at h
          cases h
    · rw [if_neg hz] at h
      have hz0 : 0 = sizeOf' c.toNat := by omega
      by_cases hx : c = 84
      · rw [if_pos hx] at h
        by_cases hv : validB ps = true
        · rw [if_pos hv] at h
          obtain ⟨l', hl, rfl⟩ := Option.map_eq_some_iff.1 h
          have ht := tableP_put hv hp (l' ++ r)
          unfold putB at ht
          rw [sd_tab hz0 hx]
          dsimp only
          rw [show beB (propsB ps).length 4 ++ propsB ps ++ l' ++ r = beB (propsB ps).length 4 ++ propsB ps ++ (l' ++ r) by simp, ht, Option.map_some, Option.bind_some]
          exact run_enc f ns ts (tb + 1) ps l' r ns0 ts0 ps hn hp (fun e => by omega) (fun _ => rfl) hl
        · rw [if_neg hv] at h
          cases h
      · rw [if_neg hx] at h
        cases ts with
        | nil => cases h
        | cons t ts =>
          dsimp only at h
          by_cases ht : t.size ≤ 1024 ∧ (c = 115 → t.size ≤ 255)
          · rw [if_pos ht] at h
            obtain ⟨l', hl, rfl⟩ := Option.map_eq_some_iff.1 h
            by_cases hs : c = 115
            · rw [sd_short hz0 hx hs, if_pos hs]
              dsimp only
              have hsh := shortP_app t.data.toList (l' ++ r) (by rw [ba_size]; have := ht.2 hs; omega)
              rw [ba_size, bs_of] at hsh
              rw [beB_one, show [UInt8.ofNat t.size] ++ t.data.toList ++ l' ++ r = UInt8.ofNat t.size :: (t.data.toList ++ (l' ++ r)) by simp, hsh, Option.map_some, Option.bind_some]
              rw [run_enc f ns ts tb ps l' r ns0 (ts0 ++ [t]) ps0 hn hp h0 h1 hl]
              simp
            · rw [sd_long hz0 hx hs, if_neg hs]
              dsimp only
              have hsh := longP_app t.data.toList (l' ++ r) (by rw [ba_size]; omega)
              rw [ba_size, bs_of] at hsh
              rw [show beB t.size 4 ++ t.data.toList ++ l' ++ r = beB t.size 4 ++ (t.data.toList ++ (l' ++ r)) by simp, hsh, Option.bind_some, if_pos ht.1, Option.bind_some]
              rw [run_enc f ns ts tb ps l' r ns0 (ts0 ++ [t]) ps0 hn hp h0 h1 hl]
              simp
          · rw [if_neg ht] at h
            cases h
theorem dec_enc {m : Mth} {l : List UInt8} (hf : m.fit) (h : m.bytes = some l) (r : List UInt8) : decP (bs (l ++ r)) = if r = [] then some m else none := by
  unfold Mth.bytes at h
  obtain ⟨f, h1, h2⟩ := Option.bind_eq_some_iff.1 h
  obtain ⟨l', h3, rfl⟩ := Option.map_eq_some_iff.1 h2
  obtain ⟨c0, c1, i0, i1⟩ := form_range h1
  have hc : ((m.c.toNat : Nat) : Int) = m.c := by omega
  have hi : ((m.i.toNat : Nat) : Int) = m.i := by omega
  have e1 := numP_app 2 m.c.toNat (by show _ < 65536; omega) (beB m.i.toNat 2 ++ (l' ++ r))
  have e2 := numP_app 2 m.i.toNat (by show _ < 65536; omega) (l' ++ r)
  unfold decP
  rw [show beB m.c.toNat 2 ++ beB m.i.toNat 2 ++ l' ++ r = beB m.c.toNat 2 ++ (beB m.i.toNat 2 ++ (l' ++ r)) by simp, e1, Option.bind_some]
  dsimp only
  rw [e2, Option.bind_some]
  dsimp only
  rw [hc, hi, h1, Option.bind_some, run_enc f.data.toList m.ns m.ts 0 m.ps l' r [] [] [] hf.1 hf.2 (fun _ => rfl) (fun e => by omega) h3, Option.bind_some]
  dsimp only
  rw [bs_size]
  cases r with
  | nil => rfl
  | cons x r => rfl
theorem encB_small : ∀ (f : List UInt8) (ns : List Int) (ts : List ByteArray) (tb : Nat) (ps : List Prp) (l : List UInt8), encB f ns ts tb ps = some l → l.length ≤ f.length * 5000
  | [], ns, ts, tb, ps, l, h => by
    unfold encB at h
    split at h
    · injection h with h
      subst h
      exact Nat.zero_le _
    · cases h
  | c :: f, ns, ts, tb, ps, l, h => by
    unfold encB at h
    rw [List.length_cons, Nat.add_mul]
    by_cases hz : 0 < sizeOf' c.toNat
    · rw [if_pos hz] at h
      cases ns with
      | nil => cases h
      | cons n ns =>
        dsimp only at h
        split at h
        · obtain ⟨l', hl, rfl⟩ := Option.map_eq_some_iff.1 h
          have := encB_small f _ _ _ _ _ hl
          have : sizeOf' c.toNat ≤ 8 := by rcases size_cases (c.toNat : Int) with e | e | e | e | e <;> omega
          rw [List.length_append, beB_len]
          omega
        · cases h
    · rw [if_neg hz] at h
      by_cases hx : c = 84
      · rw [if_pos hx] at h
        split at h
        · rename_i hv
          obtain ⟨l', hl, rfl⟩ := Option.map_eq_some_iff.1 h
          have := encB_small f _ _ _ _ _ hl
          have := props_small hv
          rw [List.length_append, List.length_append, beB_len]
          omega
        · cases h
      · rw [if_neg hx] at h
        cases ts with
        | nil => cases h
        | cons t ts =>
          dsimp only at h
          split at h
          · rename_i ht
            obtain ⟨l', hl, rfl⟩ := Option.map_eq_some_iff.1 h
            have := encB_small f _ _ _ _ _ hl
            rw [List.length_append, List.length_append, beB_len, ba_size]
            split <;> omega
          · cases h
theorem bytes_small {m : Mth} {l : List UInt8} (h : m.bytes = some l) : l.length ≤ 40000 := by
  unfold Mth.bytes at h
  obtain ⟨f, h1, h2⟩ := Option.bind_eq_some_iff.1 h
  obtain ⟨l', h3, rfl⟩ := Option.map_eq_some_iff.1 h2
  have := encB_small _ _ _ _ _ _ h3
  have hf := (form_small h1).1
  rw [ba_size] at this
  rw [List.length_append, List.length_append, beB_len, beB_len]
  omega
theorem rb_mid (A : Option Addr) (c : Nat) (l : List UInt8) (hnc : l.length ≤ c) (j : Nat) (h1 : 1 ≤ j) (hj : j ≤ l.length) :
    ∃ v' : Value, (∀ W : World, (Instr.slice 29 (.slice A l.length c) (some (.int .i64 1)) (some (.int .i64 j)) none).run Tryd.prog W = .ok v' W) ∧ ∀ w : World, RB w (.slice A l.length c) l → RB w v' ((l.take j).drop 1) := by
  have hlt : (l.take j).length = j := by rw [List.length_take]; omega
  obtain ⟨A', hrun, hrb, _⟩ := rb_drop A c (l.take j) (by omega) 1 (by omega) (by omega)
  have hel : Tryd.prog.elem 29 = 5 := by simp [Program.elem, Tryd.underlying29]
  have hu : Tryd.prog.underlying 29 = some (.slice (Tryd.prog.elem 29)) := by rw [hel]; exact Tryd.underlying29
  refine ⟨_, fun W => ?_, fun w h => hrb w (by rw [hlt]; exact rb_take h rfl j hj)⟩
  have h2 := hrun W
  rw [hlt] at h2
  rw [run_slice_l W _ _ _ _ hu .i64 1 (by omega) (by omega)] at h2
  rw [run_slice_lh W _ _ _ _ hu .i64 .i64 1 j (by omega) (by omega) (by omega), hlt]
  exact h2
end Go.Proofs.YteigbejidfkhpaaDoor

/- Layer 15: table.Encode. -/
namespace Go.Proofs.YteigbejidfkhpaaDoor
open Go Go.RowKit Go.Sort
set_option linter.unusedSimpArgs false
set_option linter.unusedVariables false

set_option maxRecDepth 100000 in
set_option maxHeartbeats 4000000 in
theorem tEncode_c {w : World} (c i : Int) (ns : List Int) (ts : List ByteArray) (ps : List Prp) {vn vt vp : Value} (hn : RI w vn ns) (ht : RS w vt ts) (hp : RPr w vp ps)
    (hns : ∀ n ∈ ns, n ≤ 9223372036854775807) (hnl : ns.length ≤ 140737488351232) (htl : ts.length ≤ 140737488351232) (hsz : ∀ p ∈ ps, p.nm.size ≤ 140737488351232) (hr : ∀ p ∈ ps, p.r < 18446744073709551616) :
    Calls Tryd.prog 11 #[.agg #[.int .i64 c, .int .i64 i, vn, vt, vp]] w (EncM w (Mth.bytes ⟨c, i, ns, ts, ps⟩)) := by
  obtain ⟨An, cn, rfl, hn1⟩ := rc_form hn
  obtain ⟨At, ct, rfl, ht1⟩ := rc_form ht
  obtain ⟨Ap, cp, rfl, hp1⟩ := rc_form hp
  obtain ⟨total, htot⟩ : ∃ t, t = Mth.bytes ⟨c, i, ns, ts, ps⟩ := ⟨_, rfl⟩
  rw [← htot]
  have HN := Lib.hid hn
  have HTX := Lib.hid ht
  have HP := Lib.hid hp
  have HNS := Lib.hid hns
  have HSZ := Lib.hid hsz
  have HR := Lib.hid hr
  have bW := Lib.hid ((Below.refl w.heap.size w).alloc (Nat.le_refl _) (.cells #[.int .i64 c, .int .i64 i, .slice An ns.length cn, .slice At ts.length ct, .slice Ap ps.length cp] 26))
  have hF := form_c (w := w.alloc (.cells #[.int .i64 c, .int .i64 i, .slice An ns.length cn, .slice At ts.length ct, .slice Ap ps.length cp] 26)) c i
  have HNL := Lib.hid hnl
  have HTL := Lib.hid htl
  clear hn ht hp hns hsz hr hnl htl
  cases hf : formCI c i with
  | none =>
    rw [hf] at hF
    simp only [Option.getD_none, Option.isSome_none] at hF
    have HF := Lib.hid hF
    have HT := Lib.hid (show total = none by rw [htot]; unfold Mth.bytes; rw [hf]; rfl)
    clear hF htot hf
    go_enter Tryd.func11, Tryd.ntmps11
    go_wp2_with fail
    refine (HF.out).mono ?_
    rintro e w1 ⟨rfl, rfl⟩
    go_wp2_with fail
    go_ret2
    exact encM_no HT.out bW.out
  | some s =>
    rw [hf] at hF
    simp only [Option.getD_some, Option.isSome_some] at hF
    have HF := Lib.hid hF
    have hT : total = (encB s.data.toList ns ts 0 ps).map ((beB c.toNat 2 ++ beB i.toNat 2) ++ ·) := by rw [htot]; unfold Mth.bytes; rw [hf]; rfl
    have HT := Lib.hid hT
    have HSM := Lib.hid (form_small hf)
    obtain ⟨r1, r2, r3, r4⟩ := form_range hf
    obtain ⟨cn', rfl⟩ := Int.eq_ofNat_of_zero_le r1
    obtain ⟨im', rfl⟩ := Int.eq_ofNat_of_zero_le r3
    clear hF htot hf hT
    have hMB := mb_new w cn' im' (.slice An ns.length cn) (.slice At ts.length ct) (.slice Ap ps.length cp)
    have hMB' : MB (w.alloc (.cells #[.int .i64 cn', .int .i64 im', .slice An ns.length cn, .slice At ts.length ct, .slice Ap ps.length cp] 26)).drew w.heap.size cn' im' (.slice An ns.length cn) (.slice At ts.length ct) (.slice Ap ps.length cp) := hMB
    have HMB := Lib.hid hMB'
    have bD := Lib.hid bW.out.drew
    clear hMB hMB'
    go_enter Tryd.func11, Tryd.ntmps11
    go_wp2_with fail
    refine (HF.out).mono ?_
    rintro e w1 ⟨rfl, rfl⟩
    clear HF
    go_wp2_with fail
    obtain ⟨q0, q1, q2, q3, q4⟩ := mb_facts HMB.out
    go_region_held3 (fun w' => w'.cell? ⟨w.heap.size, 0, none⟩ = some (.int .i64 cn') ∧ w'.cell? ⟨w.heap.size, 1, none⟩ = some (.int .i64 im'))
      (first | exact ⟨q0, q1⟩ | go_keep)
      (first
        | (go_at_call 28; refine (bigO_c2 (base := w.heap.size) O2.out B2.size (by simp [beB_len]) im' 2 (by omega) (by omega) _ 2 (by first | rfl | exact IntWalk.u64_in _ (by omega)) rfl).mono ?_; rintro e w3 ⟨v3, rfl, o3, b3, k3⟩; have B3 := B2.trans b3; have O3 := Lib.hid o3; have HMB3 := Lib.hid (mb_keeps HMB2.out k3); obtain ⟨q0, q1, q2, q3, q4⟩ := mb_facts HMB3.out; clear o3 b3 k3)
        | (go_at_call 28; refine (bigO_c2 (base := w.heap.size) (ob_nil _ _) bD.out.size (by simp) cn' 2 (by omega) (by omega) _ 2 (by first | rfl | exact IntWalk.u64_in _ (by omega)) rfl).mono ?_; rintro e w2 ⟨v2, rfl, o2, b2, k2⟩; have B2 := bD.out.trans b2; have O2 := Lib.hid o2; have HMB2 := Lib.hid (mb_keeps HMB.out k2); obtain ⟨q0, q1, q2, q3, q4⟩ := mb_facts HMB2.out; clear o2 b2 k2))
    go_wp2_with fail
    go_quiet (fail)
    go_wp2_with fail
    rw [show IntKind.u64.wrap (cn' : Int) = cn' from IntWalk.u64_in _ (by omega), show IntKind.u64.wrap (im' : Int) = im' from IntWalk.u64_in _ (by omega)]
    have HIB := Lib.hid (show w.heap.size ≤ w3.heap.size from B3.size)
    go_loopw [6, 7, 8, 9] (fun b n t tb wr => ∃ (pos : Nat) (pre : List UInt8) (ns' : List Int) (ts' : List ByteArray) (k : Nat) (A7 A8 : Option Addr) (c7 c8 : Nat), pos ≤ s.size ∧ n = .slice A7 ns'.length c7 ∧ t = .slice A8 ts'.length c8 ∧ tb = .int .i64 k ∧ Hid (k ≤ pos) ∧ Hid (EI w wr cn' im' (.slice An ns.length cn) (.slice At ts.length ct) (.slice Ap ps.length cp) w3.heap.size s ps total pos pre ns' ts' k b n t)) (fun _ _ _ _ wr => s.size - wr.iterPos w3.heap.size)
    case atStart =>
      exact ⟨0, beB cn' 2 ++ beB im' 2, ns, ts, 0, An, At, cn, ct, Nat.zero_le _, rfl, rfl, rfl, Lib.hid (Nat.le_refl _), Lib.hid ⟨(own_drew (O3.out)).alloc _, by have h := mb_keeps HMB3.out (keepsO_alloc w3 (.stringIter s 0)); exact h, World.iter_heap (w3.drewN nq) s 0, (B3.trans (below_drewN w3 nq |>.mono B3.size)).alloc B3.size _, HN.out, HTX.out, by simp [beB_len], by rw [HT.out]; rfl, HNS.out, HNL.out, HTL.out⟩⟩
    case round =>
      obtain ⟨pos, pre, ns', ts', k, A7, A8, c7, c8, hpos, rfl, rfl, rfl, HK, HE⟩ := hrel
      clear HT O3 O2 HMB2 HMB3 HMB B3 B2 bD bW HN HTX HNS q0 q1 q2 q3 q4
      by_cases hlt : pos < s.size
      · have hnx : ∀ ty, (Instr.next (.pointer (some ⟨w3.heap.size, 0, none⟩)) true ty).run Tryd.prog wr = .ok (.tuple #[.bool true, .int .i64 pos, .int .i32 (s[pos]'hlt).toNat]) (wr.iterAt w3.heap.size s (pos + 1)) := fun ty => Lib.run_next_ascii_at wr _ s pos ty HE.out.it hlt (small_at HSM.out hlt)
        obtain ⟨W, hW⟩ : ∃ W, W = wr.iterAt w3.heap.size s (pos + 1) := ⟨_, rfl⟩
        rw [← hW] at hnx
        have O1 := Lib.hid (show OB W _ _ _ by rw [hW]; exact own_iterAt HE.out.own HE.out.it (pos + 1))
        have M1 := Lib.hid (show MB W _ _ _ _ _ _ by rw [hW]; exact mb_iterAt HE.out.mb HE.out.it (pos + 1))
        have I1 := Lib.hid (show W.heap[w3.heap.size]? = some (.stringIter s (pos + 1)) by rw [hW]; exact Lib.iterAt_heap _ _ _ _ _ HE.out.it)
        have B1 := Lib.hid (show Below w.heap.size w W by rw [hW]; exact Lib.below_iterAt HE.out.bel HIB.out s (pos + 1))
        have hdr := drop_at hlt
        have hmeas := Lib.hid (iterPos_of HE.out.it)
        obtain ⟨x, hx⟩ : ∃ x : UInt8, x = s[pos] := ⟨_, rfl⟩
        rw [← hx] at hnx hdr
        have HDR := Lib.hid hdr
        have HPOS := Lib.hid hlt
        obtain ⟨z, hz⟩ : ∃ z, z = sizeOf' (x.toNat : Int) := ⟨_, rfl⟩
        have hSZ := sizes_c (w := W) (x.toNat : Int)
        rw [← hz] at hSZ
        have HSZC := Lib.hid hSZ
        have HZ := Lib.hid hz
        clear hW hdr hx hlt hz hSZ hpos
        by_cases hz0 : 0 < z
        · have hzI : (0 : Int) < z := by omega
          have HZI := Lib.hid hzI
          clear hz0
          cases ns' with
          | nil =>
            go_wp2_with (go_at_call 29; refine (HSZC.out).mono ?_; rintro e w5 ⟨rfl, rfl⟩)
            go_ret2
            exact encM_no (enc_num_nil HE.out.tot HDR.out HZ.out HZI.out) B1.out
          | cons n ns' =>
            obtain ⟨a7, rfl, hc0⟩ := ri_head HE.out.ri
            have hc := cell_below B1.out (World.block_lt_of_cell? w _ hc0) hc0
            have hz4 : z = 1 ∨ z = 2 ∨ z = 4 ∨ z = 8 := by rw [HZ.out]; rcases size_cases (x.toNat : Int) with e | e | e | e | e <;> (have := HZ.out; omega)
            have hFT := fits_c (w := W) n z hz4
            have HZ4 := Lib.hid hz4
            have hlen : ((ns'.length : Int) + 1 == 0) = false := beq_eq_false_iff_ne.2 (by omega)
            clear hc0 hz4
            cases hft : fitsB n z with
            | false =>
              rw [hft] at hFT
              have HFT := Lib.hid hFT
              have HFF := Lib.hid hft
              clear hFT hft
              go_wp2_with (first
                | (go_at_call 29; refine (HSZC.out).mono ?_; rintro e w5 ⟨rfl, rfl⟩)
                | (go_at_call 30; refine (HFT.out).mono ?_; rintro e w6 ⟨rfl, rfl⟩))
              go_ret2
              exact encM_no (enc_num_bad HE.out.tot HDR.out HZ.out HZI.out HFF.out) B1.out
            | true =>
              rw [hft] at hFT
              have HFT := Lib.hid hFT
              obtain ⟨hn0, hn1⟩ := fits_lt hft (HE.out.big n (List.mem_cons_self ..)) HZ4.out
              have HFF := Lib.hid hft
              obtain ⟨m, rfl⟩ := Int.eq_ofNat_of_zero_le hn0
              obtain ⟨A7', hsl, hri, hlc⟩ := ri_tail w HE.out.ri
              have HRI := Lib.hid hri
              have HM := Lib.hid (show m < 18446744073709551616 by have := HE.out.big _ (List.mem_cons_self ..); omega)
              have HPL := Lib.hid (show pre.length ≤ 70368744177664 by have := HE.out.len; have := HSM.out.1; have := HPOS.out; omega)
              clear hFT hft hn0 hn1 hri
              go_wp2_with (first
                | (go_at_call 28; refine (bigO_c2 (base := w.heap.size) O1.out B1.out.size HPL.out m z HM.out (by have := HZ4.out; omega) _ _ (by first | rfl | exact IntWalk.u64_in _ (by have := HM.out; omega)) rfl).mono ?_; rintro e w7 ⟨v7, rfl, o7, b7, k7⟩; have O7 := Lib.hid o7; have M7 := Lib.hid (mb_keeps M1.out k7); have I7 := Lib.hid (iter_keeps I1.out k7); have B7 := Lib.hid (B1.out.trans b7); clear o7 b7 k7)
                | (go_at_call 30; refine (HFT.out).mono ?_; rintro e w6 ⟨rfl, rfl⟩)
                | (go_at_call 29; refine (HSZC.out).mono ?_; rintro e w5 ⟨rfl, rfl⟩))
              go_roundw
              case rel =>
                exact ⟨pos + 1, pre ++ beB m z, ns', ts', k, A7', A8, c7 - 1, c8, HPOS.out, rfl, rfl, rfl, Lib.hid (Nat.le_succ_of_le HK.out), Lib.hid ⟨O7.out, M7.out, I7.out, B7.out, HRI.out, HE.out.rs, by have := HE.out.len; have := HZ4.out; simp only [List.length_append, beB_len]; omega, enc_num_ok HE.out.tot HDR.out HZ.out HZI.out HFF.out, fun y hy => HE.out.big y (List.mem_cons_of_mem _ hy), Nat.le_trans (Nat.le_succ _) HE.out.ln, HE.out.lt⟩⟩
              case measure =>
                rw [iterPos_of I7.out, hmeas.out]
                have := HPOS.out
                omega
        · have hz1 : z = 0 := by omega
          subst hz1
          clear hz0
          by_cases hx : x = 84
          · have HX := Lib.hid hx
            have hxI : ((x.toNat : Int) == 84) = true := by rw [hx]; rfl
            clear hx
            cases hv : validB ps with
            | false =>
              have HPB := Lib.hid (putBad_c (v := u6) (rc_below HP.out B1.out) HSZ.out hv)
              have HV := Lib.hid hv
              obtain ⟨_, _, _, _, m4⟩ := mb_facts M1.out
              clear hv
              go_wp2_with (first
                | (go_at_call 29; refine (HSZC.out).mono ?_; rintro e w5 ⟨rfl, rfl⟩)
                | (go_at_call 14; refine (HPB.out).mono ?_; rintro e w6 ⟨rfl, b6⟩))
              go_ret2
              exact encM_no (enc_tab_bad HE.out.tot HDR.out HZ.out rfl HX.out HV.out) (B1.out.trans (b6.mono B1.out.size))
            | true =>
              have HPL := Lib.hid (show pre.length ≤ 17592186044416 by have := HE.out.len; have := HSM.out.1; have := HPOS.out; omega)
              have HPB := Lib.hid (put_c (base := 0) (ob_rb O1.out) HPL.out (rc_below HP.out B1.out) HSZ.out HR.out hv)
              have HV := Lib.hid hv
              have HPP := Lib.hid (show (propsB ps).length ≤ 4448 by have l1 := propsB_len ps (valid_all hv); have m1 := valid_len hv; omega)
              obtain ⟨_, _, _, _, m4⟩ := mb_facts M1.out
              have hkI : (k : Int) ≤ 6 := by have := HK.out; have := HPOS.out; have := HSM.out.1; omega
              clear hv
              go_wp2_with (first
                | (go_at_call 29; refine (HSZC.out).mono ?_; rintro e w5 ⟨rfl, rfl⟩)
                | (go_at_call 14; refine (HPB.out).mono ?_; rintro e w6 ⟨v6, rfl, o6, b6⟩; have O6 := Lib.hid (own_lower o6 B1.out.size); have M6 := Lib.hid (mb_keeps M1.out (keepsO_below b6)); have I6 := Lib.hid (iter_keeps I1.out (keepsO_below b6)); have B6 := Lib.hid (B1.out.trans (b6.mono B1.out.size)); clear o6 b6))
              go_roundw
              case rel =>
                exact ⟨pos + 1, pre ++ (beB (propsB ps).length 4 ++ propsB ps), ns', ts', k + 1, A7, A8, c7, c8, HPOS.out, rfl, rfl, by go_num, Lib.hid (Nat.succ_le_succ HK.out), Lib.hid ⟨by have h := O6.out; rw [List.append_assoc] at h; exact h, M6.out, I6.out, B6.out, HE.out.ri, HE.out.rs, by have := HE.out.len; have := HPP.out; simp only [List.length_append, beB_len]; omega, enc_tab_ok HE.out.tot HDR.out HZ.out rfl HX.out HV.out, HE.out.big, HE.out.ln, HE.out.lt⟩⟩
              case measure =>
                rw [iterPos_of I6.out, hmeas.out]
                have := HPOS.out
                omega
          · have HX := Lib.hid hx
            have hxI : ((x.toNat : Int) == 84) = false := beq_eq_false_iff_ne.2 (fun e => hx (UInt8.toNat_inj.1 (by show x.toNat = 84; omega)))
            clear hx
            cases ts' with
            | nil =>
              go_wp2_with (go_at_call 29; refine (HSZC.out).mono ?_; rintro e w5 ⟨rfl, rfl⟩)
              go_ret2
              exact encM_no (enc_txt_nil HE.out.tot HDR.out HZ.out rfl HX.out) B1.out
            | cons y ts' =>
              obtain ⟨a8, rfl, hc0⟩ := rs_head HE.out.rs
              have hc := cell_below B1.out (World.block_lt_of_cell? w _ hc0) hc0
              have HC0 := Lib.hid hc0
              have hlen : ((ts'.length : Int) + 1 == 0) = false := beq_eq_false_iff_ne.2 (by omega)
              clear hc0
              by_cases hy : 1024 < y.size
              · have hyI : (1024 : Int) < y.size := by omega
                have HY := Lib.hid hy
                clear hy
                go_wp2_with (go_at_call 29; refine (HSZC.out).mono ?_; rintro e w5 ⟨rfl, rfl⟩)
                go_ret2
                exact encM_no (enc_txt_bad HE.out.tot HDR.out HZ.out rfl HX.out (fun h => by have := HY.out; omega)) B1.out
              · have hyI : (y.size : Int) ≤ 1024 := by omega
                have HY := Lib.hid hy
                clear hy
                obtain ⟨A8', hsl, hrs, hlc⟩ := rs_tail w HE.out.rs
                have HRS := Lib.hid hrs
                have HPL := Lib.hid (show pre.length ≤ 70368744177664 by have := HE.out.len; have := HSM.out.1; have := HPOS.out; omega)
                clear hrs
                by_cases hs : x = 115
                · have HS := Lib.hid hs
                  have hsI : ((x.toNat : Int) == 115) = true := by rw [hs]; rfl
                  clear hs
                  by_cases hy2 : 255 < y.size
                  · have hy2I : (255 : Int) < y.size := by omega
                    have HY2 := Lib.hid hy2
                    clear hy2 hsl
                    go_wp2_with (go_at_call 29; refine (HSZC.out).mono ?_; rintro e w5 ⟨rfl, rfl⟩)
                    go_ret2
                    exact encM_no (enc_txt_bad HE.out.tot HDR.out HZ.out rfl HX.out (fun h => by have := HY2.out; have := h.2 HS.out; omega)) B1.out
                  · have hy2I : (y.size : Int) ≤ 255 := by omega
                    have HY2 := Lib.hid hy2
                    clear hy2
                    go_upto_region 15 with (go_at_call 29; refine (HSZC.out).mono ?_; rintro e w5 ⟨rfl, rfl⟩)
                    have OD := Lib.hid (show OB W.drew w.heap.size u6 pre from own_drew O1.out)
                    have MD := Lib.hid (show MB W.drew w.heap.size cn' im' (.slice An ns.length cn) (.slice At ts.length ct) (.slice Ap ps.length cp) from M1.out)
                    have ID := Lib.hid (show W.drew.heap[w3.heap.size]? = some (.stringIter s (pos + 1)) from I1.out)
                    have BD := Lib.hid (show Below w.heap.size w W.drew from B1.out.drew)
                    have q8 : W.drew.cell? a8 = some (.string y) := hc
                    go_region_held3 (fun w' => w'.cell? a8 = some (.string y))
                      (first | exact q8 | go_keep)
                      (first
                        | (refine step_app_s (w0 := w) (base := w.heap.size) (l := pre ++ beB y.size 1) rfl (.tmp 75) (.tmp 78) rfl y rfl rfl O5.out B5.out B5.out.size (by have := HE.out.len; have := HSM.out.1; have := HPOS.out; have := HY.out; simp only [List.length_append, beB_len]; omega) ?_; intro v7 w7 o7 B7 g7; have O7 := Lib.hid o7; have M7 := Lib.hid (mb_keeps M5.out (keepsO_grown O5.out g7)); have I7 := Lib.hid (iter_keeps I5.out (keepsO_grown O5.out g7)); have q8 := cell_below B7 (World.block_lt_of_cell? w _ HC0.out) HC0.out; clear o7 g7)
                        | (go_at_call 28; refine (bigO_c2 (base := w.heap.size) OD.out BD.out.size HPL.out y.size 1 (by have := HY.out; omega) (by omega) _ 1 (by first | rfl | exact IntWalk.u64_in _ (by have := HY.out; omega)) rfl).mono ?_; rintro e w5 ⟨v5, rfl, o5, b5, k5⟩; have O5 := Lib.hid o5; have M5 := Lib.hid (mb_keeps MD.out k5); have I5 := Lib.hid (iter_keeps ID.out k5); have B5 := Lib.hid (BD.out.trans b5); have q8 := cell_below B5.out (World.block_lt_of_cell? w _ HC0.out) HC0.out; clear o5 b5 k5))
                    go_wp2
                    go_roundw
                    case rel =>
                      exact ⟨pos + 1, pre ++ (beB y.size (if x = 115 then 1 else 4) ++ y.data.toList), ns', ts', k, A7, A8', c7, c8 - 1, HPOS.out, rfl, rfl, rfl, Lib.hid (Nat.le_succ_of_le HK.out), Lib.hid ⟨by have h := O7.out; rw [List.append_assoc] at h; rw [if_pos HS.out]; exact h, M7.out, I7.out, B7, HE.out.ri, HRS.out, by have := HE.out.len; have := HY.out; rw [if_pos HS.out]; simp only [List.length_append, beB_len, ba_size]; omega, enc_txt_ok HE.out.tot HDR.out HZ.out rfl HX.out ⟨by have := HY.out; omega, fun _ => by have := HY2.out; omega⟩, HE.out.big, HE.out.ln, Nat.le_trans (Nat.le_succ _) HE.out.lt⟩⟩
                    case measure =>
                      rw [iterPos_of I7.out, hmeas.out]
                      have := HPOS.out
                      omega
                · have HS := Lib.hid hs
                  have hsI : ((x.toNat : Int) == 115) = false := beq_eq_false_iff_ne.2 (fun e => hs (UInt8.toNat_inj.1 (by show x.toNat = 115; omega)))
                  clear hs
                  go_upto_region 15 with (go_at_call 29; refine (HSZC.out).mono ?_; rintro e w5 ⟨rfl, rfl⟩)
                  have OD := Lib.hid (show OB W.drew w.heap.size u6 pre from own_drew O1.out)
                  have MD := Lib.hid (show MB W.drew w.heap.size cn' im' (.slice An ns.length cn) (.slice At ts.length ct) (.slice Ap ps.length cp) from M1.out)
                  have ID := Lib.hid (show W.drew.heap[w3.heap.size]? = some (.stringIter s (pos + 1)) from I1.out)
                  have BD := Lib.hid (show Below w.heap.size w W.drew from B1.out.drew)
                  have q8 : W.drew.cell? a8 = some (.string y) := hc
                  go_region_held3 (fun w' => w'.cell? a8 = some (.string y))
                    (first | exact q8 | go_keep)
                    (first
                      | (refine step_app_s (w0 := w) (base := w.heap.size) (l := pre ++ beB y.size 4) rfl (.tmp 75) (.tmp 78) rfl y rfl rfl O5.out B5.out B5.out.size (by have := HE.out.len; have := HSM.out.1; have := HPOS.out; have := HY.out; simp only [List.length_append, beB_len]; omega) ?_; intro v7 w7 o7 B7 g7; have O7 := Lib.hid o7; have M7 := Lib.hid (mb_keeps M5.out (keepsO_grown O5.out g7)); have I7 := Lib.hid (iter_keeps I5.out (keepsO_grown O5.out g7)); have q8 := cell_below B7 (World.block_lt_of_cell? w _ HC0.out) HC0.out; clear o7 g7)
                      | (go_at_call 28; refine (bigO_c2 (base := w.heap.size) OD.out BD.out.size HPL.out y.size 4 (by have := HY.out; omega) (by omega) _ 4 (by first | rfl | exact IntWalk.u64_in _ (by have := HY.out; omega)) rfl).mono ?_; rintro e w5 ⟨v5, rfl, o5, b5, k5⟩; have O5 := Lib.hid o5; have M5 := Lib.hid (mb_keeps MD.out k5); have I5 := Lib.hid (iter_keeps ID.out k5); have B5 := Lib.hid (BD.out.trans b5); have q8 := cell_below B5.out (World.block_lt_of_cell? w _ HC0.out) HC0.out; clear o5 b5 k5))
                  go_wp2
                  go_roundw
                  case rel =>
                    exact ⟨pos + 1, pre ++ (beB y.size (if x = 115 then 1 else 4) ++ y.data.toList), ns', ts', k, A7, A8', c7, c8 - 1, HPOS.out, rfl, rfl, rfl, Lib.hid (Nat.le_succ_of_le HK.out), Lib.hid ⟨by have h := O7.out; rw [List.append_assoc] at h; rw [if_neg HS.out]; exact h, M7.out, I7.out, B7, HE.out.ri, HRS.out, by have := HE.out.len; have := HY.out; rw [if_neg HS.out]; simp only [List.length_append, beB_len, ba_size]; omega, enc_txt_ok HE.out.tot HDR.out HZ.out rfl HX.out ⟨by have := HY.out; omega, fun h => absurd h HS.out⟩, HE.out.big, HE.out.ln, Nat.le_trans (Nat.le_succ _) HE.out.lt⟩⟩
                  case measure =>
                    rw [iterPos_of I7.out, hmeas.out]
                    have := HPOS.out
                    omega
      · have hnx : ∀ ty, (Instr.next (.pointer (some ⟨w3.heap.size, 0, none⟩)) true ty).run Tryd.prog wr = .ok (.tuple #[.bool false]) wr := fun ty => Lib.run_next_end_at wr _ s pos ty HE.out.it hlt
        have hnil : s.data.toList.drop pos = [] := List.drop_eq_nil_of_le (by rw [ba_size]; omega)
        have HEN := Lib.hid (enc_end HE.out.tot hnil)
        obtain ⟨_, _, _, _, m4⟩ := mb_facts HE.out.mb
        clear hlt hnil
        cases ns' with
        | cons n ns' =>
          have h1 : (ns'.length : Int) + 1 ≤ 140737488351232 := by have := HE.out.ln; simp only [List.length_cons] at this; omega
          have h2 : (ts'.length : Int) ≤ 140737488351232 := by have := HE.out.lt; omega
          have h3 : (0 : Int) ≤ ts'.length := by omega
          have h4 : (0 : Int) ≤ ns'.length := by omega
          have h5 : (0 : Int) < (ns'.length : Int) + 1 + ts'.length := by omega
          go_wp2_with fail
          go_ret2
          exact encM_no (by rw [HEN.out]; simp) HE.out.bel
        | nil =>
          cases ts' with
          | cons t ts' =>
            have h1 : (ts'.length : Int) + 1 ≤ 140737488351232 := by have := HE.out.lt; simp only [List.length_cons] at this; omega
            have h3 : (0 : Int) ≤ ts'.length := by omega
            have h5 : (0 : Int) < (ts'.length : Int) + 1 := by omega
            go_wp2_with fail
            go_ret2
            exact encM_no (by rw [HEN.out]; simp) HE.out.bel
          | nil =>
            by_cases hk0 : k = 0
            · subst hk0
              cases ps with
              | nil =>
                go_wp2_with fail
                go_ret2
                exact encM_yes (by rw [HEN.out]; simp) HE.out.bel HE.out.own
              | cons p ps =>
                have h5 : (0 : Int) < (ps.length : Int) + 1 := by omega
                go_wp2_with fail
                go_ret2
                exact encM_no (by rw [HEN.out]; simp) HE.out.bel
            · have hkb : ((k : Int) == 0) = false := beq_eq_false_iff_ne.2 (by omega)
              have HK0 := Lib.hid hk0
              clear hk0
              go_wp2_with fail
              go_ret2
              exact encM_yes (by rw [HEN.out]; simp [HK0.out]) HE.out.bel HE.out.own
end Go.Proofs.YteigbejidfkhpaaDoor

/- Layer 15's statements: wakes. -/
namespace Go.Proofs.YteigbejidfkhpaaDoor
open Go Go.RowKit
set_option linter.unusedSimpArgs false
set_option linter.unusedVariables false

def wkP : Prp := ⟨⟨#[97]⟩, 2, 1, ByteArray.empty, 0⟩
theorem wkP_v : validB [wkP] = true := by decide +kernel
theorem wkP_b : (⟨([] ++ beB (propsB [wkP]).length 4 ++ propsB [wkP]).toArray⟩ : ByteArray) = ⟨#[0, 0, 0, 4, 1, 97, 116, 1]⟩ := by decide +kernel
theorem wkM_b : Mth.bytes ⟨60, 80, [5, 0], [], []⟩ = some [0, 60, 0, 80, 0, 0, 0, 0, 0, 0, 0, 5, 0] := by decide +kernel
theorem rpr_one (w : World) (p : Prp) : RPr (w.alloc (.cells #[.string p.nm, .int .i64 p.k, .int .i64 p.n, .string p.t, .float .f64 p.r] 48)) (.slice (some ⟨w.heap.size, 0, none⟩) 1 1) [p] :=
  rc_new w 48 1 5 (Prp.cells p) rfl (by omega)
theorem ri_two (w : World) (a b : Int) : RI (w.alloc (.cells #[.int .i64 a, .int .i64 b] 3)) (.slice (some ⟨w.heap.size, 0, none⟩) 2 2) [a, b] :=
  rc_new w 3 2 1 [.int .i64 a, .int .i64 b] rfl (by omega)
theorem rs_nil (w : World) : RS w (.slice none 0 0) [] := own_rc (own_nil w 0 9 1)
theorem rpr_nil (w : World) : RPr w (.slice none 0 0) [] := own_rc (own_nil w 0 48 5)

set_option maxRecDepth 100000 in
set_option maxHeartbeats 2000000 in
theorem wakes_c {w : World} : Calls Tryd.prog 9 #[] w fun e w' => e = .returned (.bool true) ∧ Below w.heap.size w w' := by
  have bW := (Below.refl w.heap.size w).alloc (Nat.le_refl _) (.cells #[.string ⟨#[97]⟩, .int .i64 2, .int .i64 1, .string ByteArray.empty, .float .f64 0] 48)
  have HP := Lib.hid (rpr_one w wkP)
  go_enter Tryd.func9, Tryd.ntmps9
  go_wp2_with fail
  refine (put_c (base := 0) (ob_rb (ob_nil _ 0)) (by simp) HP.out (by decide) (by decide) wkP_v).mono ?_
  rintro e w1 ⟨v1, rfl, o1, b1⟩
  have O1 := Lib.hid o1
  have B1 := bW.trans (b1.mono bW.size)
  clear o1 b1
  go_wp2_with fail
  refine (tEncode_c 60 80 [5, 0] [] [] (ri_two w1 5 0) (rs_nil _) (rpr_nil _) (by simp) (by simp) (by simp) (by simp) (by simp)).mono ?_
  rw [wkM_b]
  rintro e w2 ⟨b2, v2, rfl, o2⟩
  have O2 := Lib.hid o2
  have b3 := ((Below.refl w1.heap.size w1).alloc (Nat.le_refl _) (.cells #[.int .i64 5, .int .i64 0] 3))
  have b4 := b3.trans (b2.mono b3.size)
  have hc1 := rb_string (rb_below (ob_rb O1.out) (b4.mono (by first | exact Nat.le_refl _ | omega)))
  have hc2 := rb_string (ob_rb O2.out)
  rw [wkP_b] at hc1
  have B4 := B1.trans (b4.mono B1.size)
  clear o2 b2 b3 b4 bW
  go_wp2_with fail
  go_ret
  exact ⟨rfl, B4⟩
end Go.Proofs.YteigbejidfkhpaaDoor

/- The reference's sameness: floats, values, lists of properties. -/
namespace Go.Proofs.YteigbejidfkhpaaDoor
open Go Go.RowKit Go.Sort
set_option linter.unusedSimpArgs false
set_option linter.unusedVariables false

theorem str_ne {a b : ByteArray} (h : a ≠ b) : (a.toList == b.toList) = false := by
  refine beq_eq_false_iff_ne.2 fun e => h ?_
  rw [ByteArray.toList_eq, ByteArray.toList_eq] at e
  exact ba_ext e

set_option maxRecDepth 100000 in
theorem rawSame_c {w : World} (r r' : Nat) :
    Calls Tryd.prog 22 #[.float .f64 r, .float .f64 r'] w fun e w' => e = .returned (.bool (decide (r = r'))) ∧ w = w' := by
  have q := bits64_run
  by_cases h : r = r'
  · subst h
    rw [decide_eq_true rfl]
    go_enter Tryd.func22, Tryd.ntmps22
    go_wp2_with fail
    go_ret
    exact ⟨rfl, rfl⟩
  · have hb : ((r : Int) == (r' : Int)) = false := beq_eq_false_iff_ne.2 (by omega)
    rw [decide_eq_false h]
    clear h
    go_enter Tryd.func22, Tryd.ntmps22
    go_wp2_with fail
    go_ret
    exact ⟨rfl, rfl⟩

def valSame (k n : Int) (t : ByteArray) (r : Nat) (k' n' : Int) (t' : ByteArray) (r' : Nat) : Bool := decide (k = k' ∧ n = n' ∧ t = t' ∧ r = r')
set_option maxRecDepth 100000 in
set_option maxHeartbeats 1000000 in
theorem valSame_c {w : World} (k n : Int) (t : ByteArray) (r : Nat) (k' n' : Int) (t' : ByteArray) (r' : Nat) :
    Calls Tryd.prog 40 #[.agg #[.int .i64 k, .int .i64 n, .string t, .float .f64 r], .agg #[.int .i64 k', .int .i64 n', .string t', .float .f64 r']] w fun e w' => e = .returned (.bool (valSame k n t r k' n' t' r')) ∧ Below w.heap.size w w' := by
  have bW := ((Below.refl w.heap.size w).alloc (Nat.le_refl _) (.cells #[.int .i64 k, .int .i64 n, .string t, .float .f64 r] 46)).alloc (by show _ ≤ (w.heap.push _).size; simp) (.cells #[.int .i64 k', .int .i64 n', .string t', .float .f64 r'] 46)
  by_cases hk : k = k'
  · subst hk
    by_cases hn : n = n'
    · subst hn
      by_cases ht : t = t'
      · subst ht
        have e : valSame k n t r k n t r' = decide (r = r') := by unfold valSame; simp
        rw [e]
        clear e
        go_enter Tryd.func40, Tryd.ntmps40
        go_wp2_with fail
        refine (rawSame_c r r').mono ?_
        rintro e w1 ⟨rfl, rfl⟩
        go_wp2_with fail
        go_ret
        exact ⟨rfl, bW⟩
      · have e : valSame k n t r k n t' r' = false := by unfold valSame; simp [ht]
        have ht' := str_ne ht
        rw [e]
        clear e ht
        go_enter Tryd.func40, Tryd.ntmps40
        go_wp2_with fail
        go_ret
        exact ⟨rfl, bW⟩
    · have e : valSame k n t r k n' t' r' = false := by unfold valSame; simp [hn]
      have hn' : (n == n') = false := beq_eq_false_iff_ne.2 hn
      rw [e]
      clear e hn
      go_enter Tryd.func40, Tryd.ntmps40
      go_wp2_with fail
      go_ret
      exact ⟨rfl, bW⟩
  · have e : valSame k n t r k' n' t' r' = false := by unfold valSame; simp [hk]
    have hk' : (k == k') = false := beq_eq_false_iff_ne.2 hk
    rw [e]
    clear e hk
    go_enter Tryd.func40, Tryd.ntmps40
    go_wp2_with fail
    go_ret
    exact ⟨rfl, bW⟩
end Go.Proofs.YteigbejidfkhpaaDoor

/- The reference's sameness of lists of properties. -/
namespace Go.Proofs.YteigbejidfkhpaaDoor
open Go Go.RowKit Go.Sort
set_option linter.unusedSimpArgs false
set_option linter.unusedVariables false

theorem prp_ext {p q : Prp} (h0 : p.nm = q.nm) (h : valSame p.k p.n p.t p.r q.k q.n q.t q.r = true) : p = q := by
  unfold valSame at h
  simp only [decide_eq_true_eq] at h
  obtain ⟨h1, h2, h3, h4⟩ := h
  cases p; cases q
  simp_all

theorem round_less1 {n k : Nat} (h : k < n) : n - (intOf (.int .i64 ((k : Int) + 1))).toNat < n - (intOf (.int .i64 (k : Int))).toNat := by
  show n - ((k : Int) + 1).toNat < n - (k : Int).toNat
  rw [show ((k : Int) + 1).toNat = k + 1 by omega, Int.toNat_natCast]
  omega
theorem valSame_self (p : Prp) : valSame p.k p.n p.t p.r p.k p.n p.t p.r = true := by unfold valSame; simp

set_option maxRecDepth 100000 in
set_option maxHeartbeats 2000000 in
theorem sameAll_c {w : World} {v v' : Value} {ps qs : List Prp} (hp : RPr w v ps) (hq : RPr w v' qs) :
    Calls Tryd.prog 18 #[v, v'] w fun e w' => ∃ b : Bool, e = .returned (.bool b) ∧ (b = true ↔ ps = qs) ∧ Below w.heap.size w w' := by
  have h63 : ps.length ≤ 9223372036854775807 := by obtain ⟨_, _, _, h1, h2, _⟩ := id hp; omega
  obtain ⟨A, c, rfl, hnc, hcell⟩ := props_at hp
  obtain ⟨A', c', rfl, hnc', hcell'⟩ := props_at hq
  have HC := Lib.hid hcell
  have HC' := Lib.hid hcell'
  have H63 := Lib.hid h63
  clear hp hq hcell hcell' h63
  by_cases hl : ps.length = qs.length
  · have HL := Lib.hid hl
    rw [← hl] at hnc' ⊢
    clear hl
    go_enter Tryd.func18, Tryd.ntmps18
    go_wp2_with fail
    go_loopw [13] (fun i wr => ∃ k : Nat, k ≤ ps.length ∧ i = .int .i64 k ∧ Hid (ps.take k = qs.take k) ∧ Below w.heap.size w wr) (fun i _ => ps.length - (intOf i).toNat)
    case atStart => exact ⟨0, Nat.zero_le _, rfl, Lib.hid rfl, Below.refl _ _⟩
    case round =>
      obtain ⟨k, hk, rfl, HT, b2⟩ := hrel
      by_cases hlt : k < ps.length
      · obtain ⟨p, hp⟩ : ∃ p, ps[k]? = some p := ⟨_, List.getElem?_eq_getElem hlt⟩
        obtain ⟨q, hq⟩ : ∃ q, qs[k]? = some q := ⟨_, List.getElem?_eq_getElem (by have := HL.out; omega)⟩
        obtain ⟨a, rfl, q0, q1, q2, q3, q4⟩ := HC.out k p hp
        obtain ⟨a', rfl, r0, r1, r2, r3, r4⟩ := HC'.out k q hq
        have hne : p ≠ q → ¬ ps = qs := fun h e => h (by rw [e] at hp; rw [hp] at hq; injection hq)
        have htk : p = q → ps.take (k + 1) = qs.take (k + 1) := fun h => by rw [List.take_add_one, List.take_add_one, hp, hq, HT.out, h]
        have HNE := Lib.hid hne
        have HTK := Lib.hid htk
        have hwk : wrap64 ((k : Int) + 1) = (k : Int) + 1 := by have := H63.out; unfold wrap64; omega
        have hkI : (k : Int) < ps.length := by omega
        have z0 : ∀ d os, (grow (redrawn wr d) os).cell? (a.add (k * 5)) = some (.string p.nm) := fun d os => cell_regrown (cell_below b2 (World.block_lt_of_cell? w _ q0) q0) d os
        have z1 : ∀ d os, (grow (redrawn wr d) os).cell? ⟨(a.add (k * 5)).block, (a.add (k * 5)).off + 1, none⟩ = some (.int .i64 p.k) := fun d os => cell_regrown (cell_below b2 (World.block_lt_of_cell? w _ q1) q1) d os
        have z2 : ∀ d os, (grow (redrawn wr d) os).cell? ⟨(a.add (k * 5)).block, (a.add (k * 5)).off + 2, none⟩ = some (.int .i64 p.n) := fun d os => cell_regrown (cell_below b2 (World.block_lt_of_cell? w _ q2) q2) d os
        have z3 : ∀ d os, (grow (redrawn wr d) os).cell? ⟨(a.add (k * 5)).block, (a.add (k * 5)).off + 3, none⟩ = some (.string p.t) := fun d os => cell_regrown (cell_below b2 (World.block_lt_of_cell? w _ q3) q3) d os
        have z4 : ∀ d os, (grow (redrawn wr d) os).cell? ⟨(a.add (k * 5)).block, (a.add (k * 5)).off + 4, none⟩ = some (.float .f64 p.r) := fun d os => cell_regrown (cell_below b2 (World.block_lt_of_cell? w _ q4) q4) d os
        have y0 : ∀ d os, (grow (redrawn wr d) os).cell? (a'.add (k * 5)) = some (.string q.nm) := fun d os => cell_regrown (cell_below b2 (World.block_lt_of_cell? w _ r0) r0) d os
        have y1 : ∀ d os, (grow (redrawn wr d) os).cell? ⟨(a'.add (k * 5)).block, (a'.add (k * 5)).off + 1, none⟩ = some (.int .i64 q.k) := fun d os => cell_regrown (cell_below b2 (World.block_lt_of_cell? w _ r1) r1) d os
        have y2 : ∀ d os, (grow (redrawn wr d) os).cell? ⟨(a'.add (k * 5)).block, (a'.add (k * 5)).off + 2, none⟩ = some (.int .i64 q.n) := fun d os => cell_regrown (cell_below b2 (World.block_lt_of_cell? w _ r2) r2) d os
        have y3 : ∀ d os, (grow (redrawn wr d) os).cell? ⟨(a'.add (k * 5)).block, (a'.add (k * 5)).off + 3, none⟩ = some (.string q.t) := fun d os => cell_regrown (cell_below b2 (World.block_lt_of_cell? w _ r3) r3) d os
        have y4 : ∀ d os, (grow (redrawn wr d) os).cell? ⟨(a'.add (k * 5)).block, (a'.add (k * 5)).off + 4, none⟩ = some (.float .f64 q.r) := fun d os => cell_regrown (cell_below b2 (World.block_lt_of_cell? w _ r4) r4) d os
        clear hp hq q0 q1 q2 q3 q4 r0 r1 r2 r3 r4 hne htk
        by_cases hnm : p.nm = q.nm
        · cases hvs : valSame p.k p.n p.t p.r q.k q.n q.t q.r with
          | true =>
            have hpq := prp_ext hnm hvs
            have hnx := HTK.out hpq
            have cS : ∀ d os, Calls Tryd.prog 40 #[.agg #[.int .i64 p.k, .int .i64 p.n, .string p.t, .float .f64 p.r], .agg #[.int .i64 q.k, .int .i64 q.n, .string q.t, .float .f64 q.r]] (grow (redrawn wr d) os) fun e w'' => e = .returned (.bool true) ∧ ∃ p : Regrown, w'' = grow (redrawn wr p.d) p.os := fun d os => Calls.regrown_of (by have := valSame_c (w := grow (redrawn wr d) os) p.k p.n p.t p.r q.k q.n q.t q.r; rw [hvs] at this; exact this)
            rw [← hnm] at y0
            clear hpq hvs hnm
            go_upto_region 6 with fail
            refine wp_region_quiet_below (by kernel_rfl) (by kernel_rfl) ?_
            repeat (go_big_quiet_step (first | exact cS _ _))
            refine wpQuiet_nil ?_
            intro _ hw'
            obtain ⟨⟨dq, osq⟩, hw''⟩ := hw'
            subst hw''
            have bE := b2.trans ((below_regrown wr dq osq).mono b2.size)
            go_wp2
            go_roundw
            case rel => exact ⟨k + 1, by omega, by go_num, Lib.hid hnx, bE⟩
            case measure => first | exact round_less1 hlt | (rw [hwk]; exact round_less1 hlt)
          | false =>
            have hpq : p ≠ q := fun e => by subst e; rw [valSame_self] at hvs; cases hvs
            have HPQ := Lib.hid hpq
            have cS : ∀ d os, Calls Tryd.prog 40 #[.agg #[.int .i64 p.k, .int .i64 p.n, .string p.t, .float .f64 p.r], .agg #[.int .i64 q.k, .int .i64 q.n, .string q.t, .float .f64 q.r]] (grow (redrawn wr d) os) fun e w'' => e = .returned (.bool false) ∧ ∃ p : Regrown, w'' = grow (redrawn wr p.d) p.os := fun d os => Calls.regrown_of (by have := valSame_c (w := grow (redrawn wr d) os) p.k p.n p.t p.r q.k q.n q.t q.r; rw [hvs] at this; exact this)
            rw [← hnm] at y0
            clear hpq hvs hnm hwk
            go_upto_region 6 with fail
            refine wp_region_quiet_below (by kernel_rfl) (by kernel_rfl) ?_
            repeat (go_big_quiet_step (first | exact cS _ _))
            refine wpQuiet_nil ?_
            intro _ hw'
            obtain ⟨⟨dq, osq⟩, hw''⟩ := hw'
            subst hw''
            have bE := b2.trans ((below_regrown wr dq osq).mono b2.size)
            go_wp2
            go_ret
            exact ⟨false, rfl, ⟨(fun h => by cases h), fun h => absurd h (HNE.out HPQ.out)⟩, bE⟩
        · have hpq : p ≠ q := fun e => hnm (by rw [e])
          have HPQ := Lib.hid hpq
          have hnm' := str_ne hnm
          clear hpq hnm hwk
          go_upto_region 6 with fail
          refine wp_region_quiet_below (by kernel_rfl) (by kernel_rfl) ?_
          repeat (go_big_quiet_step (first | fail))
          refine wpQuiet_nil ?_
          intro _ hw'
          obtain ⟨⟨dq, osq⟩, hw''⟩ := hw'
          subst hw''
          have bE := b2.trans ((below_regrown wr dq osq).mono b2.size)
          go_wp2
          go_ret
          exact ⟨false, rfl, ⟨(fun h => by cases h), fun h => absurd h (HNE.out HPQ.out)⟩, bE⟩
      · have hk2 : k = ps.length := by omega
        subst hk2
        have heq : ps = qs := by
          have := HT.out
          rwa [List.take_of_length_le (Nat.le_refl _), List.take_of_length_le (by have := HL.out; omega)] at this
        have HEQ := Lib.hid heq
        clear hlt heq
        go_wp2_with fail
        go_ret
        exact ⟨true, rfl, ⟨fun _ => HEQ.out, fun _ => rfl⟩, b2⟩
  · have hne : ¬ ps = qs := fun e => hl (by rw [e])
    have HNE := Lib.hid hne
    have hlb : ((ps.length : Int) == (qs.length : Int)) = false := beq_eq_false_iff_ne.2 (by omega)
    have hlb2 : (ps.length == qs.length) = false := beq_eq_false_iff_ne.2 hl
    clear hne hl
    go_enter Tryd.func18, Tryd.ntmps18
    go_wp2_with fail
    go_ret
    exact ⟨false, rfl, ⟨(fun h => by cases h), fun h => absurd h HNE.out⟩, Below.refl _ _⟩
end Go.Proofs.YteigbejidfkhpaaDoor

/- Layer 15: the reference's sameness of methods. -/
namespace Go.Proofs.YteigbejidfkhpaaDoor
open Go Go.RowKit Go.Sort
set_option linter.unusedSimpArgs false
set_option linter.unusedVariables false

theorem ri_at {w : World} {v : Value} {ts : List Int} (h : RI w v ts) : ∃ A c, v = .slice A ts.length c ∧ ts.length ≤ c ∧ ∀ j y, ts[j]? = some y → ∃ a, A = some a ∧ w.cell? (a.add j) = some (.int .i64 y) := by
  obtain ⟨A, c, rfl, h1, h2, h3, h4, h5⟩ := h
  exact ⟨A, c, rfl, h1, fun j y hy => h5 j _ (by rw [List.getElem?_map, hy]; rfl)⟩
theorem take_next {X : Type} {xs ys : List X} {k : Nat} {x y : X} (hx : xs[k]? = some x) (hy : ys[k]? = some y) (h : xs.take k = ys.take k) (e : x = y) : xs.take (k + 1) = ys.take (k + 1) := by
  rw [List.take_add_one, List.take_add_one, hx, hy, h, e]
theorem take_all {X : Type} {xs ys : List X} (h : xs.take xs.length = ys.take xs.length) (hl : xs.length = ys.length) : xs = ys := by
  rwa [List.take_of_length_le (Nat.le_refl _), List.take_of_length_le (by omega)] at h
def SamePost (w : World) (m m' : Mth) (e : Ending) (w' : World) : Prop := ∃ b : Bool, e = .returned (.bool b) ∧ (b = true ↔ m = m') ∧ Below w.heap.size w w'
theorem same_no {w w' : World} {m m' : Mth} (h : m ≠ m') (b : Below w.heap.size w w') : SamePost w m m' (.returned (.bool false)) w' := ⟨false, rfl, ⟨(fun h => by cases h), fun e => absurd e h⟩, b⟩
theorem str_beq {a b : ByteArray} (h : a ≠ b) : (a.toList == b.toList) = false := by
  have hc : a.toList ≠ b.toList := fun e => h (by
    rw [ByteArray.toList_eq, ByteArray.toList_eq] at e
    exact ByteArray.ext (Array.toList_inj.1 e))
  exact beq_eq_false_iff_ne.2 hc

set_option maxRecDepth 100000 in
set_option maxHeartbeats 4000000 in
theorem methSame_c {w : World} (m m' : Mth) {vn vt vp vn' vt' vp' : Value} (hn : RI w vn m.ns) (ht : RS w vt m.ts) (hp : RPr w vp m.ps) (hn' : RI w vn' m'.ns) (ht' : RS w vt' m'.ts) (hp' : RPr w vp' m'.ps)
    (hnl : m.ns.length ≤ 140737488351232) (htl : m.ts.length ≤ 140737488351232) :
    Calls Tryd.prog 12 #[.agg #[.int .i64 m.c, .int .i64 m.i, vn, vt, vp], .agg #[.int .i64 m'.c, .int .i64 m'.i, vn', vt', vp']] w (SamePost w m m') := by
  obtain ⟨c, i, ns, ts, ps⟩ := m
  obtain ⟨c', i', ns', ts', ps'⟩ := m'
  dsimp only at hn ht hp hn' ht' hp' hnl htl ⊢
  obtain ⟨An, cn, rfl, hn1, hnc⟩ := ri_at hn
  obtain ⟨At, ct, rfl, ht1, _, htc⟩ := rs_at ht
  obtain ⟨Ap, cp, rfl, hp1⟩ := rc_form hp
  obtain ⟨An', cn', rfl, hn1', hnc'⟩ := ri_at hn'
  obtain ⟨At', ct', rfl, ht1', _, htc'⟩ := rs_at ht'
  obtain ⟨Ap', cp', rfl, hp1'⟩ := rc_form hp'
  have HNC := Lib.hid hnc
  have HTC := Lib.hid htc
  have HNC' := Lib.hid hnc'
  have HTC' := Lib.hid htc'
  have HP := Lib.hid hp
  have HP' := Lib.hid hp'
  have hnlI : (ns.length : Int) ≤ 140737488351232 := by omega
  have htlI : (ts.length : Int) ≤ 140737488351232 := by omega
  have b1 := (Below.refl w.heap.size w).alloc (Nat.le_refl _) (.cells #[.int .i64 c, .int .i64 i, .slice An ns.length cn, .slice At ts.length ct, .slice Ap ps.length cp] 26)
  have bW := Lib.hid (b1.alloc b1.size (.cells #[.int .i64 c', .int .i64 i', .slice An' ns'.length cn', .slice At' ts'.length ct', .slice Ap' ps'.length cp'] 26))
  clear hn ht hp hn' ht' hp' hnc htc hnc' htc' b1 hnl htl
  by_cases h1 : c = c'
  · subst h1
    by_cases h2 : i = i'
    · subst h2
      by_cases h3 : ns.length = ns'.length
      · have HL := Lib.hid h3
        rw [← h3] at hn1' bW ⊢
        clear h3
        by_cases h4 : ts.length = ts'.length
        · have HL4 := Lib.hid h4
          rw [← h4] at ht1' bW ⊢
          clear h4
          have hM1 := mb_new w c i (.slice An ns.length cn) (.slice At ts.length ct) (.slice Ap ps.length cp)
          obtain ⟨w1, hw1⟩ : ∃ w1, w1 = w.alloc (.cells #[.int .i64 c, .int .i64 i, .slice An ns.length cn, .slice At ts.length ct, .slice Ap ps.length cp] 26) := ⟨_, rfl⟩
          have hM2 := mb_new w1 c i (.slice An' ns.length cn') (.slice At' ts.length ct') (.slice Ap' ps'.length cp')
          have hs1 : w1.heap.size = w.heap.size + 1 := by rw [hw1]; exact Array.size_push _
          rw [← hw1] at hM1
          have hM1 := mb_keeps hM1 (keepsO_alloc w1 (.cells #[.int .i64 c, .int .i64 i, .slice An' ns.length cn', .slice At' ts.length ct', .slice Ap' ps'.length cp'] 26))
          rw [hs1] at hM2
          rw [hw1] at hM1 hM2
          have HM1 := Lib.hid hM1
          have HM2 := Lib.hid hM2
          clear hs1 hM1 hM2 hw1
          go_enter Tryd.func12, Tryd.ntmps12
          go_wp2_with fail
          go_loopw [40, 5] (fun x _y wr => ∃ k : Nat, k ≤ ns.length ∧ x = .int .i64 k ∧ Hid (ns.take k = ns'.take k) ∧ Hid (Below ((w.alloc (.cells #[.int .i64 c, .int .i64 i, .slice An ns.length cn, .slice At ts.length ct, .slice Ap ps.length cp] 26)).alloc (.cells #[.int .i64 c, .int .i64 i, .slice An' ns.length cn', .slice At' ts.length ct', .slice Ap' ps'.length cp'] 26)).heap.size ((w.alloc (.cells #[.int .i64 c, .int .i64 i, .slice An ns.length cn, .slice At ts.length ct, .slice Ap ps.length cp] 26)).alloc (.cells #[.int .i64 c, .int .i64 i, .slice An' ns.length cn', .slice At' ts.length ct', .slice Ap' ps'.length cp'] 26)) wr)) (fun x _ _ => ns.length - (intOf x).toNat)
          case atStart => exact ⟨0, Nat.zero_le _, rfl, Lib.hid rfl, Lib.hid (Below.refl _ _)⟩
          case round =>
            obtain ⟨k, hk, rfl, HT, HB⟩ := hrel
            obtain ⟨_, _, m2, m3, m4⟩ := mb_facts (mb_keeps HM1.out (keepsO_below HB.out))
            obtain ⟨_, _, m2', m3', m4'⟩ := mb_facts (mb_keeps HM2.out (keepsO_below HB.out))
            by_cases hlt : k < ns.length
            · obtain ⟨x, hx⟩ : ∃ x, ns[k]? = some x := ⟨_, List.getElem?_eq_getElem hlt⟩
              obtain ⟨y, hy⟩ : ∃ y, ns'[k]? = some y := ⟨_, List.getElem?_eq_getElem (by have := HL.out; omega)⟩
              obtain ⟨a, rfl, q0⟩ := HNC.out k x hx
              obtain ⟨a', rfl, q0'⟩ := HNC'.out k y hy
              have p0 := cell_below (bW.out.trans (HB.out.mono bW.out.size)) (World.block_lt_of_cell? w _ q0) q0
              have p0' := cell_below (bW.out.trans (HB.out.mono bW.out.size)) (World.block_lt_of_cell? w _ q0') q0'
              have HX := Lib.hid hx
              have HY := Lib.hid hy
              have hkI : (k : Int) < ns.length := by omega
              clear q0 q0' hx hy
              by_cases hxy : x = y
              · have hnx := Lib.hid (take_next HX.out HY.out HT.out hxy)
                subst hxy
                go_wp2_with fail
                go_quiet (fail)
                go_wp2_with fail
                go_roundw
                case rel => exact ⟨k + 1, hlt, by go_num, hnx, Lib.hid (HB.out.trans (below_drewN _ _ |>.mono HB.out.size))⟩
                case measure => exact round_less1 hlt
              · have HXY := Lib.hid hxy
                clear hxy
                have hxyb : (x == y) = false := beq_eq_false_iff_ne.2 HXY.out
                go_wp2_with fail
                go_quiet (fail)
                go_wp2_with fail
                go_ret
                exact same_no (fun e => HXY.out (by injection e with _ _ e; have h1 := HX.out; have h2 := HY.out; rw [e, h2] at h1; injection h1 with h1; exact h1.symm)) (bW.out.trans ((HB.out.trans (below_drewN _ _ |>.mono HB.out.size)).mono bW.out.size))
            · have hk2 : k = ns.length := by omega
              subst hk2
              have HNS := Lib.hid (take_all HT.out HL.out)
              clear hlt hk
              go_wp2_with fail
              go_loopw [58, 6] (fun x _y wr => ∃ k : Nat, k ≤ ts.length ∧ x = .int .i64 k ∧ Hid (ts.take k = ts'.take k) ∧ Hid (Below ((w.alloc (.cells #[.int .i64 c, .int .i64 i, .slice An ns.length cn, .slice At ts.length ct, .slice Ap ps.length cp] 26)).alloc (.cells #[.int .i64 c, .int .i64 i, .slice An' ns.length cn', .slice At' ts.length ct', .slice Ap' ps'.length cp'] 26)).heap.size ((w.alloc (.cells #[.int .i64 c, .int .i64 i, .slice An ns.length cn, .slice At ts.length ct, .slice Ap ps.length cp] 26)).alloc (.cells #[.int .i64 c, .int .i64 i, .slice An' ns.length cn', .slice At' ts.length ct', .slice Ap' ps'.length cp'] 26)) wr)) (fun x _ _ => ts.length - (intOf x).toNat)
              case atStart => exact ⟨0, Nat.zero_le _, rfl, Lib.hid rfl, HB⟩
              case round =>
                clear HB m2 m3 m4 m2' m3' m4'
                obtain ⟨k, hk, rfl, HT2, HB⟩ := hrel
                obtain ⟨_, _, m2, m3, m4⟩ := mb_facts (mb_keeps HM1.out (keepsO_below HB.out))
                obtain ⟨_, _, m2', m3', m4'⟩ := mb_facts (mb_keeps HM2.out (keepsO_below HB.out))
                by_cases hlt : k < ts.length
                · obtain ⟨x, hx⟩ : ∃ x, ts[k]? = some x := ⟨_, List.getElem?_eq_getElem hlt⟩
                  obtain ⟨y, hy⟩ : ∃ y, ts'[k]? = some y := ⟨_, List.getElem?_eq_getElem (by have := HL4.out; omega)⟩
                  obtain ⟨a, rfl, q0⟩ := HTC.out k x hx
                  obtain ⟨a', rfl, q0'⟩ := HTC'.out k y hy
                  have p0 := cell_below (bW.out.trans (HB.out.mono bW.out.size)) (World.block_lt_of_cell? w _ q0) q0
                  have p0' := cell_below (bW.out.trans (HB.out.mono bW.out.size)) (World.block_lt_of_cell? w _ q0') q0'
                  have HX := Lib.hid hx
                  have HY := Lib.hid hy
                  have hkI : (k : Int) < ts.length := by omega
                  clear q0 q0' hx hy
                  by_cases hxy : x = y
                  · have hnx := Lib.hid (take_next HX.out HY.out HT2.out hxy)
                    subst hxy
                    go_wp2_with fail
                    go_quiet (fail)
                    go_wp2_with fail
                    go_roundw
                    case rel => exact ⟨k + 1, hlt, by go_num, hnx, Lib.hid (HB.out.trans (below_drewN _ _ |>.mono HB.out.size))⟩
                    case measure => exact round_less1 hlt
                  · have HXY := Lib.hid hxy
                    have hxyb := str_beq hxy
                    clear hxy
                    go_wp2_with fail
                    go_quiet (fail)
                    go_wp2_with fail
                    go_ret
                    exact same_no (fun e => HXY.out (by injection e with _ _ _ e; have h1 := HX.out; have h2 := HY.out; rw [e, h2] at h1; injection h1 with h1; exact h1.symm)) (bW.out.trans ((HB.out.trans (below_drewN _ _ |>.mono HB.out.size)).mono bW.out.size))
                · have hk2 : k = ts.length := by omega
                  subst hk2
                  have HTS := Lib.hid (take_all HT2.out HL4.out)
                  have bX := Lib.hid (bW.out.trans (HB.out.mono bW.out.size))
                  have HSA := Lib.hid (sameAll_c (rc_below HP.out bX.out) (rc_below HP'.out bX.out))
                  clear hlt hk
                  go_wp2_with fail
                  refine (HSA.out).mono ?_
                  rintro e w9 ⟨b, rfl, hb, b9⟩
                  go_wp2_with fail
                  go_ret
                  exact ⟨b, rfl, ⟨fun h => by rw [HNS.out, HTS.out, hb.1 h], fun e => hb.2 (by injection e)⟩, bX.out.trans (b9.mono bX.out.size)⟩
        · have hne : ((ts.length : Int) == (ts'.length : Int)) = false := beq_eq_false_iff_ne.2 (by omega)
          have hne2 : (ts.length == ts'.length) = false := beq_eq_false_iff_ne.2 h4
          have HE := Lib.hid (show (⟨c, i, ns, ts, ps⟩ : Mth) ≠ ⟨c, i, ns', ts', ps'⟩ from fun e => h4 (by injection e with _ _ _ e; rw [e]))
          clear h4
          go_enter Tryd.func12, Tryd.ntmps12
          go_wp2_with fail
          go_ret
          exact same_no HE.out bW.out
      · have hne : ((ns.length : Int) == (ns'.length : Int)) = false := beq_eq_false_iff_ne.2 (by omega)
        have hne2 : (ns.length == ns'.length) = false := beq_eq_false_iff_ne.2 h3
        have HE := Lib.hid (show (⟨c, i, ns, ts, ps⟩ : Mth) ≠ ⟨c, i, ns', ts', ps'⟩ from fun e => h3 (by injection e with _ _ e; rw [e]))
        clear h3
        go_enter Tryd.func12, Tryd.ntmps12
        go_wp2_with fail
        go_ret
        exact same_no HE.out bW.out
    · have hne : (i == i') = false := beq_eq_false_iff_ne.2 h2
      have HE := Lib.hid (show (⟨c, i, ns, ts, ps⟩ : Mth) ≠ ⟨c, i', ns', ts', ps'⟩ from fun e => h2 (by injection e))
      have hne2 : (i != i') = true := by simp [h2]
      go_enter Tryd.func12, Tryd.ntmps12
      go_wp2_with fail
      go_ret
      exact same_no HE.out bW.out
  · have hne : (c == c') = false := beq_eq_false_iff_ne.2 h1
    have HE := Lib.hid (show (⟨c, i, ns, ts, ps⟩ : Mth) ≠ ⟨c', i', ns', ts', ps'⟩ from fun e => h1 (by injection e))
    have hne2 : (c != c') = true := by simp [h1]
    go_enter Tryd.func12, Tryd.ntmps12
    go_wp2_with fail
    go_ret
    exact same_no HE.out bW.out
end Go.Proofs.YteigbejidfkhpaaDoor

/- TableTells: two methods have one payload just if they are the same; it begins with its class and number: the walk. -/
namespace Go.Proofs.YteigbejidfkhpaaDoor
open Go Go.RowKit Go.Sort
open Go.ChangeShapes Go.WideShapes Go.Deep
set_option linter.unusedSimpArgs false
set_option linter.unusedVariables false

theorem rb_four {w : World} {v : Value} {a b c d : UInt8} {u : List UInt8} (h : RB w v (a :: b :: c :: d :: u)) : ∃ ad cp n, v = .slice (some ad) n cp ∧ 4 ≤ n ∧ n ≤ cp ∧ cp ≤ 9223372036854775807 ∧ w.cell? ad = some (.int .u8 a.toNat) ∧ w.cell? ⟨ad.block, ad.off + 1, none⟩ = some (.int .u8 b.toNat) ∧ w.cell? ⟨ad.block, ad.off + 2, none⟩ = some (.int .u8 c.toNat) ∧ w.cell? ⟨ad.block, ad.off + 3, none⟩ = some (.int .u8 d.toNat) := by
  obtain ⟨A, cp, rfl, h1, h2, h3, h4, h5⟩ := h
  obtain ⟨ad, rfl, c0⟩ := h5 0 _ rfl
  obtain ⟨a1, e1, c1⟩ := h5 1 _ rfl
  obtain ⟨a2, e2, c2⟩ := h5 2 _ rfl
  obtain ⟨a3, e3, c3⟩ := h5 3 _ rfl
  injection e1 with e1; injection e2 with e2; injection e3 with e3
  subst e1 e2 e3
  refine ⟨ad, cp, _, rfl, by simp, by simpa using h1, h2, by rwa [show ad.add 0 = ad by unfold Addr.add; simp] at c0, by simpa [Addr.add] using c1, by simpa [Addr.add] using c2, by simpa [Addr.add] using c3⟩

theorem below_dd {B : Nat} {a w : World} (h : Below B a w) (n m : Nat) : Below B a ((w.drewN n).drewN m) := h.trans ⟨rfl, rfl, rfl, Nat.le_refl _, fun _ _ => rfl⟩
theorem below_gr {B : Nat} {a w : World} (h : Go.RowKit.Below B a w) (hB : B ≤ w.heap.size) (d : Nat) (os : Array Obj) : Go.RowKit.Below B a (grow (redrawn w d) os) := h.trans ((below_regrown w d os).mono hB)
/-- What a walk knows of a method that came in. -/
structure MthIn (w : World) (m : Mth) (vn vt vp : Value) : Prop where
  rn : RI w vn m.ns
  rt : RS w vt m.ts
  rp : RPr w vp m.ps
  fit : m.fit
  nl : m.ns.length ≤ 140737488351232
  tl : m.ts.length ≤ 140737488351232
  tz : ∀ t ∈ m.ts, t.size ≤ 140737488351232
  pz : ∀ p ∈ m.ps, p.nm.size ≤ 140737488351232 ∧ p.t.size ≤ 140737488351232

theorem mthIn_below {w w1 : World} {m : Mth} {vn vt vp : Value} (h : MthIn w m vn vt vp) (b : Below w.heap.size w w1) : MthIn w1 m vn vt vp :=
  ⟨rc_below h.rn b, rc_below h.rt b, rc_below h.rp b, h.fit, h.nl, h.tl, h.tz, h.pz⟩
theorem heavyIn {w : World} {m : Mth} {vn vt vp : Value} (h : MthIn w m vn vt vp) : Calls Tryd.prog 10 #[.agg #[.int .i64 m.c, .int .i64 m.i, vn, vt, vp]] w (HvPost w m.ns m.ts m.ps) :=
  heavy_c h.rn h.rt h.rp h.nl h.tz h.pz
theorem encIn {w : World} {m : Mth} {vn vt vp : Value} (h : MthIn w m vn vt vp) : Calls Tryd.prog 11 #[.agg #[.int .i64 m.c, .int .i64 m.i, vn, vt, vp]] w (EncM w m.bytes) :=
  tEncode_c m.c m.i m.ns m.ts m.ps h.rn h.rt h.rp h.fit.1 h.nl h.tl (fun p hp => (h.pz p hp).1) (fun p hp => (h.fit.2 p hp).1)
theorem sameIn {w : World} {m m' : Mth} {vn vt vp vn' vt' vp' : Value} (h : MthIn w m vn vt vp) (h' : MthIn w m' vn' vt' vp') : Calls Tryd.prog 12 #[.agg #[.int .i64 m.c, .int .i64 m.i, vn, vt, vp], .agg #[.int .i64 m'.c, .int .i64 m'.i, vn', vt', vp']] w (SamePost w m m') :=
  methSame_c m m' h.rn h.rt h.rp h'.rn h'.rt h'.rp h.nl h.tl

set_option maxRecDepth 100000 in
set_option maxHeartbeats 4000000 in
theorem tableTells_c {w : World} (m m' : Mth) {vn vt vp vn' vt' vp' : Value} (hm : MthIn w m vn vt vp) (hm' : MthIn w m' vn' vt' vp') :
    Calls Tryd.prog 3 #[.agg #[.int .i64 m.c, .int .i64 m.i, vn, vt, vp], .agg #[.int .i64 m'.c, .int .i64 m'.i, vn', vt', vp']] w fun e w' => e = .returned (.bool true) ∧ Below w.heap.size w w' := by
  have b1 := (Below.refl w.heap.size w).alloc (Nat.le_refl _) (.cells #[.int .i64 m.c, .int .i64 m.i, vn, vt, vp] 26)
  have bW := Lib.hid (b1.alloc b1.size (.cells #[.int .i64 m'.c, .int .i64 m'.i, vn', vt', vp'] 26))
  have hM1 := mb_new w m.c m.i vn vt vp
  obtain ⟨w1, hw1⟩ : ∃ w1, w1 = w.alloc (.cells #[.int .i64 m.c, .int .i64 m.i, vn, vt, vp] 26) := ⟨_, rfl⟩
  have hM2 := mb_new w1 m'.c m'.i vn' vt' vp'
  have hs1 : w1.heap.size = w.heap.size + 1 := by rw [hw1]; exact Array.size_push _
  rw [← hw1] at hM1
  have hM1 := mb_keeps hM1 (keepsO_alloc w1 (.cells #[.int .i64 m'.c, .int .i64 m'.i, vn', vt', vp'] 26))
  rw [hs1] at hM2
  rw [hw1] at hM1 hM2
  have HM1 := Lib.hid hM1
  have HM2 := Lib.hid hM2
  have HI := Lib.hid hm
  have HI' := Lib.hid hm'
  clear hs1 hM1 hM2 hw1 b1 hm hm'
  obtain ⟨c, i, ns, ts, ps⟩ := m
  obtain ⟨c', i', ns', ts', ps'⟩ := m'
  dsimp only at HM1 HM2 bW ⊢
  go_enter Tryd.func3, Tryd.ntmps3
  go_wp2_with fail
  refine wakes_c.mono ?_
  rintro e w2 ⟨rfl, b2⟩
  have B2 := Lib.hid (bW.out.trans (b2.mono bW.out.size))
  have M1 := Lib.hid (mb_keeps HM1.out (keepsO_below b2))
  have M2 := Lib.hid (mb_keeps HM2.out (keepsO_below b2))
  have I2 := Lib.hid (mthIn_below HI.out B2.out)
  have I2' := Lib.hid (mthIn_below HI'.out B2.out)
  obtain ⟨q0, q1, q2, q3, q4⟩ := mb_facts M1.out
  obtain ⟨p0, p1, p2, p3, p4⟩ := mb_facts M2.out
  clear b2 HM1 HM2
  go_wp2_with fail
  refine (heavyIn I2.out).mono ?_
  rintro e w3 ⟨h3, rfl, hh3, b3⟩
  cases h3 with
  | true =>
    go_wp2_with fail
    go_ret
    exact ⟨rfl, B2.out.trans (b3.mono B2.out.size)⟩
  | false =>
    have B3 := Lib.hid (B2.out.trans (b3.mono B2.out.size))
    have M13 := Lib.hid (mb_keeps M1.out (keepsO_below b3))
    have M23 := Lib.hid (mb_keeps M2.out (keepsO_below b3))
    have I3 := Lib.hid (mthIn_below I2.out b3)
    have I3' := Lib.hid (mthIn_below I2'.out b3)
    clear b3 hh3 q0 q1 q2 q3 q4 p0 p1 p2 p3 p4
    obtain ⟨q0, q1, q2, q3, q4⟩ := mb_facts M13.out
    obtain ⟨p0, p1, p2, p3, p4⟩ := mb_facts M23.out
    go_wp2_with fail
    refine (heavyIn I3'.out).mono ?_
    rintro e w4 ⟨h4, rfl, hh4, b4⟩
    cases h4 with
    | true =>
      go_wp2_with fail
      go_ret
      exact ⟨rfl, B3.out.trans (b4.mono B3.out.size)⟩
    | false =>
      have B4 := Lib.hid (B3.out.trans (b4.mono B3.out.size))
      have M14 := Lib.hid (mb_keeps M13.out (keepsO_below b4))
      have M24 := Lib.hid (mb_keeps M23.out (keepsO_below b4))
      have I4 := Lib.hid (mthIn_below I3.out b4)
      have I4' := Lib.hid (mthIn_below I3'.out b4)
      clear b4 hh4 q0 q1 q2 q3 q4 p0 p1 p2 p3 p4 B2 B3 M1 M2 M13 M23 I2 I2' I3 I3'
      obtain ⟨q0, q1, q2, q3, q4⟩ := mb_facts M14.out
      obtain ⟨p0, p1, p2, p3, p4⟩ := mb_facts M24.out
      go_wp2_with fail
      refine (encIn I4.out).mono ?_
      intro e w5 he5
      obtain ⟨b5, he5⟩ := he5
      have B5 := Lib.hid (B4.out.trans (b5.mono B4.out.size))
      have M15 := Lib.hid (mb_keeps M14.out (keepsO_below b5))
      have M25 := Lib.hid (mb_keeps M24.out (keepsO_below b5))
      have I5 := Lib.hid (mthIn_below I4.out b5)
      have I5' := Lib.hid (mthIn_below I4'.out b5)
      clear b5 q0 q1 q2 q3 q4 p0 p1 p2 p3 p4 B4 M14 M24 I4 I4'
      obtain ⟨q0, q1, q2, q3, q4⟩ := mb_facts M15.out
      obtain ⟨p0, p1, p2, p3, p4⟩ := mb_facts M25.out
      cases hb1 : Mth.bytes ⟨c, i, ns, ts, ps⟩ with
      | none =>
        rw [hb1] at he5
        dsimp only at he5
        subst he5
        clear hb1
        go_wp2_with fail
        refine (encIn I5'.out).mono ?_
        intro e w6 he6
        obtain ⟨b6, he6⟩ := he6
        have B6 := Lib.hid (B5.out.trans (b6.mono B5.out.size))
        cases hb2 : Mth.bytes ⟨c', i', ns', ts', ps'⟩ with
        | none =>
          rw [hb2] at he6
          dsimp only at he6
          subst he6
          clear hb2 b6
          go_wp2_with fail
          go_quiet (fail)
          go_wp2_with fail
          go_quiet (fail)
          go_wp2_with fail
          go_ret
          exact ⟨rfl, below_dd B6.out _ _⟩
        | some y =>
          rw [hb2] at he6
          dsimp only at he6
          obtain ⟨v6, rfl, _⟩ := he6
          clear hb2 b6
          go_wp2_with fail
          go_quiet (fail)
          go_wp2_with fail
          go_quiet (fail)
          go_wp2_with fail
          go_ret
          exact ⟨rfl, below_dd B6.out _ _⟩
      | some x =>
        rw [hb1] at he5
        dsimp only at he5
        obtain ⟨v5, rfl, o5⟩ := he5
        obtain ⟨xa, xb, xc, xd, xu, rfl, hx1, hx2⟩ := bytes_head hb1
        have HX1 := Lib.hid hx1
        have HX2 := Lib.hid hx2
        have HB1 := Lib.hid hb1
        have O5 := Lib.hid o5
        clear hb1 hx1 hx2 o5
        go_wp2_with fail
        refine (encIn I5'.out).mono ?_
        intro e w6 he6
        obtain ⟨b6, he6⟩ := he6
        have B6 := Lib.hid (B5.out.trans (b6.mono B5.out.size))
        have M16 := Lib.hid (mb_keeps M15.out (keepsO_below b6))
        have M26 := Lib.hid (mb_keeps M25.out (keepsO_below b6))
        have I6 := Lib.hid (mthIn_below I5.out b6)
        have I6' := Lib.hid (mthIn_below I5'.out b6)
        have R6 := Lib.hid (rb_below (ob_rb O5.out) b6)
        clear b6 q0 q1 q2 q3 q4 p0 p1 p2 p3 p4 B5 M15 M25 I5 I5' O5
        obtain ⟨q0, q1, q2, q3, q4⟩ := mb_facts M16.out
        obtain ⟨p0, p1, p2, p3, p4⟩ := mb_facts M26.out
        obtain ⟨ad, cp, n, rfl, hn4, hcp, hcp2, r0, r1, r2, r3⟩ := rb_four R6.out
        have hxd : decide ((n : Int) < 4) = false := decide_eq_false (by omega)
        have n0 : (0 : Int) < n := by omega
        have n1 : (1 : Int) < n := by omega
        have n2 : (2 : Int) < n := by omega
        have n3 : (3 : Int) < n := by omega
        have n0' : 0 < n := by omega
        have hxl3 : (n : Int) ≤ 9223372036854775807 := by omega
        have t0 := UInt8.toNat_lt xa
        have t1 := UInt8.toNat_lt xb
        have t2 := UInt8.toNat_lt xc
        have t3 := UInt8.toNat_lt xd
        have f0 : IntKind.i64.wrap (xa.toNat : Int) = (xa.toNat : Int) := IntWalk.i64_in _ (by omega)
        have f1 : IntKind.i64.wrap (xb.toNat : Int) = (xb.toNat : Int) := IntWalk.i64_in _ (by omega)
        have f2 : IntKind.i64.wrap (xc.toNat : Int) = (xc.toNat : Int) := IntWalk.i64_in _ (by omega)
        have f3 : IntKind.i64.wrap (xd.toNat : Int) = (xd.toNat : Int) := IntWalk.i64_in _ (by omega)
        have e0 : IntKind.i64.wrap ((xa.toNat : Int) * 256) = (xa.toNat : Int) * 256 := IntWalk.i64_in _ (by omega)
        have e1 : IntKind.i64.wrap ((xa.toNat : Int) * 256 + (xb.toNat : Int)) = c := by rw [← HX1.out]; exact IntWalk.i64_in _ (by omega)
        have e2 : IntKind.i64.wrap ((xc.toNat : Int) * 256) = (xc.toNat : Int) * 256 := IntWalk.i64_in _ (by omega)
        have e3 : IntKind.i64.wrap ((xc.toNat : Int) * 256 + (xd.toNat : Int)) = i := by rw [← HX2.out]; exact IntWalk.i64_in _ (by omega)
        cases hb2 : Mth.bytes ⟨c', i', ns', ts', ps'⟩ with
        | none =>
          rw [hb2] at he6
          dsimp only at he6
          subst he6
          clear hb2
          go_wp2_with fail
          go_quiet (fail)
          go_wp2_with fail
          go_quiet (fail)
          go_wp2_with fail
          go_ret
          exact ⟨rfl, below_dd B6.out _ _⟩
        | some y =>
          rw [hb2] at he6
          dsimp only at he6
          obtain ⟨v6, rfl, o6⟩ := he6
          have O6 := Lib.hid o6
          have HB2 := Lib.hid hb2
          clear hb2 o6
          go_wp2_with fail
          go_quiet (fail)
          go_wp2_with fail
          have R1 := Lib.hid R6.out
          have R2 := Lib.hid (ob_rb O6.out)
          obtain ⟨W, hW⟩ : ∃ W, W = w6.drewN nq := ⟨_, rfl⟩
          have bWW : Go.RowKit.Below w6.heap.size w6 W := by rw [hW]; exact below_drewN _ _
          have hWs : W.heap.size = w6.heap.size := by rw [hW]; rfl
          have hcx : ∀ (d : Nat) (os : Array Obj), (convert 29 9 (.slice (some ad) n cp)).run Tryd.prog (grow (redrawn W d) os) = .ok (.string ⟨(xa :: xb :: xc :: xd :: xu).toArray⟩) (grow (redrawn W d) os) := fun d os => rb_string (rb_below (rb_below R1.out bWW) (below_regrown W d os))
          have hcy : ∀ (d : Nat) (os : Array Obj), (convert 29 9 v6).run Tryd.prog (grow (redrawn W d) os) = .ok (.string ⟨y.toArray⟩) (grow (redrawn W d) os) := fun d os => rb_string (rb_below (rb_below R2.out bWW) (below_regrown W d os))
          have z0 : ∀ d os, (grow (redrawn W d) os).cell? ⟨w.heap.size, 0, none⟩ = some (.int .i64 c) := fun d os => cell_regrown (by rw [hW]; exact q0) d os
          have z1 : ∀ d os, (grow (redrawn W d) os).cell? ⟨w.heap.size, 1, none⟩ = some (.int .i64 i) := fun d os => cell_regrown (by rw [hW]; exact q1) d os
          have z2 : ∀ d os, (grow (redrawn W d) os).cell? ⟨w.heap.size, 2, none⟩ = some vn := fun d os => cell_regrown (by rw [hW]; exact q2) d os
          have z3 : ∀ d os, (grow (redrawn W d) os).cell? ⟨w.heap.size, 3, none⟩ = some vt := fun d os => cell_regrown (by rw [hW]; exact q3) d os
          have z4 : ∀ d os, (grow (redrawn W d) os).cell? ⟨w.heap.size, 4, none⟩ = some vp := fun d os => cell_regrown (by rw [hW]; exact q4) d os
          have y0 : ∀ d os, (grow (redrawn W d) os).cell? ⟨w.heap.size + 1, 0, none⟩ = some (.int .i64 c') := fun d os => cell_regrown (by rw [hW]; exact p0) d os
          have y1 : ∀ d os, (grow (redrawn W d) os).cell? ⟨w.heap.size + 1, 1, none⟩ = some (.int .i64 i') := fun d os => cell_regrown (by rw [hW]; exact p1) d os
          have y2 : ∀ d os, (grow (redrawn W d) os).cell? ⟨w.heap.size + 1, 2, none⟩ = some vn' := fun d os => cell_regrown (by rw [hW]; exact p2) d os
          have y3 : ∀ d os, (grow (redrawn W d) os).cell? ⟨w.heap.size + 1, 3, none⟩ = some vt' := fun d os => cell_regrown (by rw [hW]; exact p3) d os
          have y4 : ∀ d os, (grow (redrawn W d) os).cell? ⟨w.heap.size + 1, 4, none⟩ = some vp' := fun d os => cell_regrown (by rw [hW]; exact p4) d os
          have J1 := Lib.hid (mthIn_below I6.out bWW)
          have J2 := Lib.hid (mthIn_below I6'.out bWW)
          have BWW := Lib.hid (B6.out.trans (bWW.mono B6.out.size))
          clear q0 q1 q2 q3 q4 p0 p1 p2 p3 p4 r0 r1 r2 r3 e0 e1 e2 e3 f0 f1 f2 f3 hxd bWW
          by_cases heq : (⟨c, i, ns, ts, ps⟩ : Mth) = ⟨c', i', ns', ts', ps'⟩
          · have hcS : ∀ (d : Nat) (os : Array Obj), Calls Tryd.prog 12 #[.agg #[.int .i64 c, .int .i64 i, vn, vt, vp], .agg #[.int .i64 c', .int .i64 i', vn', vt', vp']] (grow (redrawn W d) os) fun e w'' => e = .returned (.bool true) ∧ ∃ p : Regrown, w'' = grow (redrawn W p.d) p.os := fun d os => Calls.regrown_of ((sameIn (mthIn_below J1.out (below_regrown W d os)) (mthIn_below J2.out (below_regrown W d os))).mono fun e w' ⟨b, he, hb, hbel⟩ => ⟨by rw [he, hb.2 heq], hbel⟩)
            have hyx : y = xa :: xb :: xc :: xd :: xu := by have h1 := HB1.out; have h2 := HB2.out; rw [heq, h2] at h1; injection h1
            subst hyx
            rw [← hW]
            clear heq hW
            refine wp_region_quiet_below (by kernel_rfl) (by kernel_rfl) ?_
            repeat (go_big_quiet_step (first | exact hcS _ _))
            refine wpQuiet_nil ?_
            intro _ hw'
            obtain ⟨⟨dq, osq⟩, hw''⟩ := hw'
            subst hw''
            go_wp2
            go_ret
            exact ⟨rfl, below_gr BWW.out BWW.out.size _ _⟩
          · have hcS : ∀ (d : Nat) (os : Array Obj), Calls Tryd.prog 12 #[.agg #[.int .i64 c, .int .i64 i, vn, vt, vp], .agg #[.int .i64 c', .int .i64 i', vn', vt', vp']] (grow (redrawn W d) os) fun e w'' => e = .returned (.bool false) ∧ ∃ p : Regrown, w'' = grow (redrawn W p.d) p.os := fun d os => Calls.regrown_of ((sameIn (mthIn_below J1.out (below_regrown W d os)) (mthIn_below J2.out (below_regrown W d os))).mono fun e w' ⟨b, he, hb, hbel⟩ => ⟨by rw [he, show b = false by cases b; rfl; exact absurd (hb.1 rfl) heq], hbel⟩)
            have hyx : ¬ (xa :: xb :: xc :: xd :: xu) = y := fun e => heq (bytes_inj I6.out.fit I6'.out.fit HB1.out (by rw [e]; exact HB2.out))
            have hst : ((xa :: xb :: xc :: xd :: xu) == y) = false := beq_eq_false_iff_ne.2 hyx
            rw [← hW]
            clear heq hW hyx
            refine wp_region_quiet_below (by kernel_rfl) (by kernel_rfl) ?_
            repeat (go_big_quiet_step (first | exact hcS _ _))
            refine wpQuiet_nil ?_
            intro _ hw'
            obtain ⟨⟨dq, osq⟩, hw''⟩ := hw'
            subst hw''
            go_wp2
            go_ret
            exact ⟨rfl, below_gr BWW.out BWW.out.size _ _⟩
end Go.Proofs.YteigbejidfkhpaaDoor

/- Data that came in, opened whole: structs, slices, slices in structs in slices. -/
namespace Go.Proofs.YteigbejidfkhpaaDoor
open Go Go.RowKit
open Go.ChangeShapes Go.WideShapes Go.Deep
set_option linter.unusedSimpArgs false
set_option linter.unusedVariables false

section
variable {H : Type} (enc : TypeId × Value → H) (P : Program) (W : World)
/-- Data of type t: s cells, which are f of some x that is Good. -/
def Opn (t : TypeId) (s : Nat) {X : Type} (f : X → List Value) (Good : X → Prop) : Prop :=
  P.cellsOf t = s ∧ (∀ x, (f x).length = s) ∧ ∀ (n : Nat) (cs : List Value) (y : DataW H × List MemPlace), DataW.trod enc P W 0 (fun _ => true) true n t cs = some y → cs.length = s → (DataW.weights P t y.1).all (· ≤ reachBytes) = true → ∃ x, cs = f x ∧ Good x
/-- Fields, from an offset on. -/
def OpnF (fs : List Field) (off sz : Nat) {X : Type} (f : X → List Value) (Good : X → Prop) : Prop :=
  (∀ x, (f x).length = sz) ∧ ∀ (n : Nat) (cs : List Value) (ys : List (DataW H × List MemPlace)), ys.length = fs.length → (∀ (i : Nat) (fl : Field), fs[i]? = some fl → DataW.trod enc P W 0 (fun _ => true) true n fl.type ((cs.drop fl.offset).take (P.cellsOf fl.type)) = ys[i]?) → cs.length = off + sz →
    (DataW.weightsEach P (fs.map (·.type)) (ys.map (·.1))).all (· ≤ reachBytes) = true → ∃ x, cs.drop off = f x ∧ Good x
end

section
variable {H : Type} {enc : TypeId × Value → H} {P : Program} {W : World}
theorem Opn.map {t : TypeId} {s : Nat} {X Y : Type} {f : X → List Value} {Good : X → Prop} (h : Opn enc P W t s f Good) (g : X → Y) (f' : Y → List Value) (Good' : Y → Prop) (hl : ∀ y, (f' y).length = s) (hf : ∀ x, f x = f' (g x)) (hg : ∀ x, Good x → Good' (g x)) : Opn enc P W t s f' Good' :=
  ⟨h.1, hl, fun n cs y hy hc hw => by
    obtain ⟨x, h1, h2⟩ := h.2.2 n cs y hy hc hw
    exact ⟨g x, by rw [h1, hf], hg x h2⟩⟩
theorem opnF_nil (off : Nat) : OpnF enc P W [] off 0 (fun _ : Unit => []) (fun _ => True) :=
  ⟨fun _ => rfl, fun n cs ys _ _ hc _ => ⟨(), List.drop_eq_nil_of_le (by omega), trivial⟩⟩
theorem opnF_cons {fl : Field} {fs : List Field} {off s sz : Nat} {X Y : Type} {f : X → List Value} {g : Y → List Value} {Good : X → Prop} {Good' : Y → Prop} (h : Opn enc P W fl.type s f Good) (ho : fl.offset = off) (hr : OpnF enc P W fs (off + s) sz g Good') :
    OpnF enc P W (fl :: fs) off (s + sz) (fun p : X × Y => f p.1 ++ g p.2) (fun p => Good p.1 ∧ Good' p.2) := by
  refine ⟨fun p => by rw [List.length_append, h.2.1, hr.1], fun n cs ys hl hf hc hw => ?_⟩
  match ys, hl with
  | y :: ys, hl =>
    simp only [List.map_cons, DataW.weightsEach, List.all_append, Bool.and_eq_true] at hw
    have h0 := hf 0 fl rfl
    simp only [List.getElem?_cons_zero] at h0
    rw [h.1, ho] at h0
    obtain ⟨x, hx, gx⟩ := h.2.2 n _ y h0 (by rw [List.length_take, List.length_drop]; omega) hw.1
    obtain ⟨z, hz, gz⟩ := hr.2 n cs ys (by simpa using hl) (fun i fl' hi => by have := hf (i + 1) fl' (by simpa using hi); simpa using this) (by omega) hw.2
    exact ⟨(x, z), by show _ = f x ++ g z; rw [← hx, ← hz, ← List.drop_drop, List.take_append_drop], gx, gz⟩
theorem opn_struct {t : TypeId} {fs : Array Field} {sz : Nat} {X : Type} {f : X → List Value} {Good : X → Prop} (hs : P.underlying t = some (.struct fs)) (hc : P.cellsOf t = sz) (h : OpnF enc P W fs.toList 0 sz f Good) : Opn enc P W t sz f Good := by
  refine ⟨hc, h.1, fun n cs y hy hl hw => ?_⟩
  obtain ⟨xs, n', _, rfl, _, hlen, hf⟩ := DataW.trod_struct hs hy
  have hw' : (DataW.weightsEach P (fs.toList.map (·.type)) (xs.map (·.1))).all (· ≤ reachBytes) = true := by
    simpa only [DataW.weights, hs] using hw
  obtain ⟨x, hx, gx⟩ := h.2 n' cs xs (by rw [Array.length_toList]; exact hlen) (fun i fl hi => hf i fl (by simpa using hi)) (by omega) hw'
  exact ⟨x, by simpa using hx, gx⟩
theorem opn_int {t : TypeId} {k : IntKind} (hu : P.underlying t = some (.int k)) (hc : P.cellsOf t = 1) : Opn enc P W t 1 (fun n : Int => [.int k n]) (fun n => (Lit.int k n).wf = true) :=
  ⟨hc, fun _ => rfl, fun n cs y hy _ _ => by
    obtain ⟨z, h1, _, h2⟩ := DataW.trod_int hu hy
    exact ⟨z, h1, h2⟩⟩
theorem opn_bool {t : TypeId} (hu : P.underlying t = some .bool) (hc : P.cellsOf t = 1) : Opn enc P W t 1 (fun b : Bool => [.bool b]) (fun _ => True) :=
  ⟨hc, fun _ => rfl, fun n cs y hy _ _ => by
    obtain ⟨z, h1, _⟩ := DataW.trod_bool hu hy
    exact ⟨z, h1, trivial⟩⟩
theorem opn_string {t : TypeId} (hu : P.underlying t = some .string) (hc : P.cellsOf t = 1) : Opn enc P W t 1 (fun s : ByteArray => [.string s]) (fun s => s.size ≤ 140737488351232) :=
  ⟨hc, fun _ => rfl, fun n cs y hy _ hw => by
    obtain ⟨z, h1, rfl, _⟩ := DataW.trod_string hu hy
    refine ⟨z, h1, ?_⟩
    simp only [DataW.weights, List.all_cons, List.all_nil, Bool.and_true, decide_eq_true_eq, Array.length_toList] at hw
    exact hw⟩
theorem opn_float {t : TypeId} (hu : P.underlying t = some (.float .f64)) (hc : P.cellsOf t = 1) : Opn enc P W t 1 (fun r : Nat => [.float .f64 r]) (fun r => r < 18446744073709551616) :=
  ⟨hc, fun _ => rfl, fun n cs y hy _ _ => by
    cases n with
    | zero => simp [DataW.trod] at hy
    | succ n =>
      unfold DataW.trod at hy
      rw [hu] at hy
      split at hy
      all_goals first
        | (simp_all [Lit.wf]; done)
        | (rename_i k' b heq _
           injection heq with heq
           injection heq with heq
           subst heq
           split at hy
           · rename_i hc2
             obtain ⟨rfl, hb⟩ := hc2
             exact ⟨b, rfl, by simpa [Lit.wf] using hb⟩
           · cases hy)⟩
theorem weightsAll_mem {e : TypeId} : ∀ {l : List (DataW H)} {d : DataW H}, d ∈ l → ∀ n ∈ d.weights P e, n ∈ DataW.weightsAll P e l
  | d' :: r, d, hd, n, hn => by
    simp only [DataW.weightsAll, List.mem_append]
    rcases List.mem_cons.1 hd with rfl | h
    · exact Or.inl hn
    · exact Or.inr (weightsAll_mem h n hn)
/-- v reads as the row xs of good elements. -/
def RowOf (P : Program) (W : World) (e : TypeId) (s : Nat) {X : Type} (f : X → List Value) (Good : X → Prop) (v : Value) : Prop :=
  ∃ xs : List X, RC W v xs.length s (xs.flatMap f) ∧ (∀ x ∈ xs, Good x) ∧ xs.length * P.bytesOf e ≤ 140737488351232
theorem opn_slice {t e : TypeId} {s : Nat} {X : Type} {f : X → List Value} {Good : X → Prop} (hs : 0 < s) (hu : P.underlying t = some (.slice e)) (hct : P.cellsOf t = 1) (he : Opn enc P W e s f Good) :
    Opn enc P W t 1 (fun v : Value => [v]) (RowOf P W e s f Good) := by
  obtain ⟨hc, hf, hel⟩ := he
  refine ⟨hct, fun _ => rfl, fun fuel cs y hy hl hw => ?_⟩
  rcases open_slice hu hy with ⟨hcs, _⟩ | ⟨a, len, cap, m, n, D, Pl, hcs, _, hlen', hm, hmm, hx, hi⟩
  · refine ⟨_, hcs, [], ⟨none, 0, rfl, Nat.le_refl _, by omega, by simp, fun _ => rfl, fun j u hu => ?_⟩, fun n hn => absurd hn (by simp), by simp⟩
    simp at hu
  · simp only [if_true] at hmm
    subst hmm
    subst hx
    refine ⟨_, hcs, ?_⟩
    simp only [DataW.weights, hu, List.all_cons, List.all_append, Bool.and_eq_true, decide_eq_true_eq] at hw
    obtain ⟨hw0, hw1, _⟩ := hw
    simp only [List.length_map, List.length_range] at hw0
    have key : ∀ i : Fin len, ∃ y, W.cells? 0 (a.add (i.1 * s)) s = some (f y) ∧ Good y := by
      intro i
      obtain ⟨cs', h1, h2⟩ := hi i.1 (by omega)
      rw [hc] at h1
      obtain ⟨y, rfl, hg⟩ := hel n cs' _ h2 (World.cells?_some h1).2.1 (List.all_eq_true.2 fun k hk => List.all_eq_true.1 hw1 k (weightsAll_mem (List.mem_map.2 ⟨i.1, List.mem_range.2 i.2, rfl⟩) k hk))
      exact ⟨y, h1, hg⟩
    have hlen : (List.ofFn fun i : Fin len => Classical.choose (key i)).length = len := by simp
    refine ⟨List.ofFn fun i : Fin len => Classical.choose (key i), ?_, ?_, ?_⟩
    · rw [hlen]
      refine ⟨some a, _, rfl, hlen', by simpa [maxLen] using hm, by rw [flat_len f s hf, hlen], (fun h => by cases h), fun q u hq => ⟨a, rfl, ?_⟩⟩
      rw [flat_get f s hs hf] at hq
      obtain ⟨y, hy, hq⟩ := Option.bind_eq_some_iff.1 hq
      have hql : q / s < len := by
        have := (List.getElem?_eq_some_iff.1 hy).1
        rwa [hlen] at this
      have hye : y = Classical.choose (key ⟨q / s, hql⟩) := by
        rw [List.getElem?_ofFn] at hy
        simp only [hql, dite_true, Option.some.injEq] at hy
        exact hy.symm
      have hk := (Classical.choose_spec (key ⟨q / s, hql⟩)).1
      rw [← hye] at hk
      have := (World.cells?_some hk).2.2 (q % s) (Nat.mod_lt _ hs)
      rw [add_add] at this
      rw [Nat.div_add_mod' q s] at this
      rw [this]
      exact hq
    · intro y hy
      rw [List.mem_ofFn] at hy
      obtain ⟨i, rfl⟩ := hy
      exact (Classical.choose_spec (key i)).2
    · rw [hlen]
      refine Nat.le_trans (Nat.mul_le_mul_right _ ?_) hw0
      omega
/-- A parameter that is a struct, by value. -/
theorem open_agg {t : TypeId} {fs : Array Field} {s base : Nat} {X : Type} {f : X → List Value} {Good : X → Prop} {v : Value} {d : DataW H} {p : List MemPlace} {ts : List TypeId} {ds : List (DataW H)} (hO : Opn enc P W t s f Good) (hs : P.underlying t = some (.struct fs)) (hv : Value.okWide P W .any base t v)
    (h : DataW.Trod enc P W 0 (fun _ => true) true t v d p) (hsz : (DataW.weightsEach P ts ds).all (· ≤ reachBytes) = true) (j : Nat) (ht : ts[j]? = some t) (hd : ds[j]? = some d) : ∃ x, v = .agg (f x).toArray ∧ Good x := by
  obtain ⟨cs, rfl, hz⟩ := okWide_struct hs hv
  obtain ⟨fuel, hf⟩ := h
  obtain ⟨x, hx, hg⟩ := hO.2.2 fuel _ _ hf (by rw [hO.1] at hz; simpa [Value.cells] using hz) (List.all_eq_true.2 fun k hk => List.all_eq_true.1 hsz k (DataW.weights_mem_each ht hd k hk))
  refine ⟨x, ?_, hg⟩
  rw [← hx]
  simp [Value.cells]
/-- A parameter that is a slice. -/
theorem open_sl {t e : TypeId} {s base : Nat} {X : Type} {f : X → List Value} {Good : X → Prop} {v : Value} {d : DataW H} {p : List MemPlace} {ts : List TypeId} {ds : List (DataW H)} (h0 : 0 < s) (hu : P.underlying t = some (.slice e)) (hct : P.cellsOf t = 1) (hO : Opn enc P W e s f Good) (hv : Value.okWide P W .any base t v)
    (h : DataW.Trod enc P W 0 (fun _ => true) true t v d p) (hsz : (DataW.weightsEach P ts ds).all (· ≤ reachBytes) = true) (j : Nat) (ht : ts[j]? = some t) (hd : ds[j]? = some d) : RowOf P W e s f Good v := by
  obtain ⟨a, len, cap, rfl⟩ := okWide_slice hu hv
  obtain ⟨fuel, hf⟩ := h
  obtain ⟨x, hx, hg⟩ := (opn_slice h0 hu hct hO).2.2 fuel _ _ hf (by simp [Value.cells]) (List.all_eq_true.2 fun k hk => List.all_eq_true.1 hsz k (DataW.weights_mem_each ht hd k hk))
  have e1 : Value.slice a len cap = x := by simpa [Value.cells] using hx
  rw [e1]
  exact hg
end
end Go.Proofs.YteigbejidfkhpaaDoor

/- Properties that came in. -/
namespace Go.Proofs.YteigbejidfkhpaaDoor
open Go Go.RowKit
open Go.ChangeShapes Go.WideShapes Go.Deep
set_option linter.unusedSimpArgs false
set_option linter.unusedVariables false

section
variable {H : Type} {enc : TypeId × Value → H} {W : World}
theorem opn_i64 {t : TypeId} (hu : Tryd.prog.underlying t = some (.int .i64)) (hc : Tryd.prog.cellsOf t = 1) : Opn enc Tryd.prog W t 1 (fun n : Int => [.int .i64 n]) (fun n => -9223372036854775808 ≤ n ∧ n ≤ 9223372036854775807) :=
  (opn_int hu hc).map id _ _ (fun _ => rfl) (fun _ => rfl) (fun x hx => wf_i64 hx)
/-- What a property that came in is good for. -/
def Prp.came (p : Prp) : Prop := p.nm.size ≤ 140737488351232 ∧ p.t.size ≤ 140737488351232 ∧ p.r < 18446744073709551616 ∧ (-9223372036854775808 ≤ p.n ∧ p.n ≤ 9223372036854775807) ∧ (-9223372036854775808 ≤ p.k ∧ p.k ≤ 9223372036854775807)
theorem opn_prop : Opn enc Tryd.prog W 48 5 Prp.cells Prp.came :=
  (opn_struct Tryd.underlying48 (by kernel_rfl) (opnF_cons (opn_string Tryd.underlying9 (by kernel_rfl)) rfl (opnF_cons
    (opn_struct Tryd.underlying46 (by kernel_rfl) (opnF_cons (opn_i64 Tryd.underlying3 (by kernel_rfl)) rfl (opnF_cons (opn_i64 Tryd.underlying3 (by kernel_rfl)) rfl (opnF_cons (opn_string Tryd.underlying9 (by kernel_rfl)) rfl (opnF_cons (opn_float Tryd.underlying41 (by kernel_rfl)) rfl (opnF_nil _)))))) rfl (opnF_nil _)))).map
    (fun x => ⟨x.1, x.2.1.1, x.2.1.2.1, x.2.1.2.2.1, x.2.1.2.2.2.1⟩) _ _ (fun _ => rfl) (fun _ => rfl) (fun x hx => ⟨hx.1, hx.2.1.2.2.1, hx.2.1.2.2.2.1, hx.2.1.2.1, hx.2.1.1⟩)

theorem flat_one {X : Type} (g : X → Value) (xs : List X) : xs.flatMap (fun x => [g x]) = xs.map g := by
  induction xs with
  | nil => rfl
  | cons a r ih => simp [List.flatMap_cons, ih]
set_option maxRecDepth 100000 in
theorem open_props {v : Value} {base : Nat} {d : DataW H} {p : List MemPlace} {ts : List TypeId} {ds : List (DataW H)} (hv : Value.okWide Tryd.prog W .any base 24 v) (h : DataW.Trod enc Tryd.prog W 0 (fun _ => true) true 24 v d p)
    (hsz : (DataW.weightsEach Tryd.prog ts ds).all (· ≤ reachBytes) = true) (j : Nat) (ht : ts[j]? = some 24) (hd : ds[j]? = some d) :
    ∃ ps : List Prp, RPr W v ps ∧ ∀ p ∈ ps, p.came := by
  obtain ⟨ps, r, g, _⟩ := open_sl (by omega) Tryd.underlying24 (by kernel_rfl) opn_prop hv h hsz j ht hd
  exact ⟨ps, r, g⟩
end
end Go.Proofs.YteigbejidfkhpaaDoor
