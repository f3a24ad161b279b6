/- Texts of this claim, joined: Base, Open, Open2, TbA, TbJ, Shelf, TbB, TbC, FloatL, TbD, TbE, TbF, TkA, RmA, RmB, TbM, TbN. -/
import Derived.Handy
import Derived.Lib.Hide
import Derived.Lib.AppendStr
import Derived.Lib.BufferWrite
import Derived.WalkLawsBesides
import Derived.WalkSpells
import Derived.OwnWalk
import Derived.Maps.AppendAt
import Derived.Laws.BytesArg
import Derived.Deep.DeepFit
import Derived.Deep.DeepMust
import Derived.Deep.LoopGhost
import Derived.Outline
import Derived.Laws.Slices
import Derived.Laws.IdiomStrings
import Derived.RowKit3
import Derived.Test.YteigbejidfkhpaaDoorProg
import Derived.WalkKit
import Derived.ProofKit
import Derived.OpenShut
import Derived.SizedLaws
import Derived.ChangeSlices
import Derived.Deep.Slices
import Derived.Deep.Strs
import Derived.Laws.OwnMore
import Derived.Deep.DeepCutAuto
import Derived.Deep.CutRange
import Derived.Shelf.Strings.Trim
import Derived.Shelf.Small.Utf8
import Derived.Shelf.Small.Strs
import Derived.Shelf.Strings.Search1
import Derived.Shelf.Strings.Runes
import Derived.Shelf.Strings.AsciiSet
import Derived.Shelf.Unicode.DecodeSlow
import Derived.Shelf.Strings.SlTrimAscii
import Derived.Deep.RegionWith
import Derived.BigRegion
import Derived.Deep.RegionHeld3
import Derived.BigQuiet
import Derived.Lib.QuietBelow
import Ieee.Arith
import Derived.Laws.FloatArith
import Derived.Laws.FloatBits
import Derived.Deep.AppendLies
import Derived.WalkSmall
import Derived.Lib.ConvBytes
import Derived.Deep.QuietTactic
/- Words of this seat's proofs: bytes that are read, bytes that a call has made, appends; the listed variables. -/
namespace Go.Proofs.YteigbejidfkhpaaDoor
open Go Go.RowKit

/-! ### rows of cells -/
/-- The slice value v of n elements (size cells each) reads as the cells cs. -/
def RC (w : World) (v : Value) (n size : Nat) (cs : List Value) : Prop :=
  ∃ A c, v = .slice A n c ∧ n ≤ c ∧ c ≤ 9223372036854775807 ∧ cs.length = n * size ∧ (A = none → c = 0) ∧ ∀ j u, cs[j]? = some u → ∃ a, A = some a ∧ w.cell? (a.add j) = some u

theorem add_plain (g j : Nat) : (⟨g, 0, none⟩ : Addr).add j = ⟨g, j, none⟩ := by unfold Addr.add; split <;> simp_all

theorem own_rc {w : World} {base e size n : Nat} {v : Value} {xs : List Value} (h : w.ownsRow base e size v n xs) : RC w v n size xs := by
  obtain ⟨h1, h2⟩ := h
  rcases h2 with ⟨rfl, rfl⟩ | ⟨g, cap, cur, rfl, hb, hh, hn, hc, hs, ht⟩
  · refine ⟨none, 0, rfl, Nat.le_refl _, by omega, h1, fun _ => rfl, fun j u hu => ?_⟩
    have : xs = [] := List.eq_nil_of_length_eq_zero (by simpa using h1)
    subst this
    simp at hu
  · refine ⟨_, cap, rfl, hn, by simpa [maxLen] using hc, h1, (fun h => by cases h), fun j u hu => ⟨_, rfl, ?_⟩⟩
    have h' : w.ownsRow base e size (.slice (some ⟨g, 0, none⟩) n cap) n xs := ⟨h1, .inr ⟨g, cap, cur, rfl, hb, hh, hn, hc, hs, ht⟩⟩
    exact h'.cells (g := g) rfl j u hu

theorem cell_below {w w1 : World} {B : Nat} (h : Below B w w1) {a : Addr} {v : Value} (hB : a.block < B) (hc : w.cell? a = some v) : w1.cell? a = some v := (h.cell hB).trans hc

theorem add_block (a : Addr) (j : Nat) : (a.add j).block = a.block := by unfold Addr.add; split <;> rfl

theorem rc_below {w w1 : World} {v : Value} {n size : Nat} {cs : List Value} (h : RC w v n size cs) (hb : Below w.heap.size w w1) : RC w1 v n size cs := by
  obtain ⟨A, c, rfl, h1, h2, h3, h4, h5⟩ := h
  refine ⟨A, c, rfl, h1, h2, h3, h4, fun j u hu => ?_⟩
  obtain ⟨a, ha, hc⟩ := h5 j u hu
  exact ⟨a, ha, cell_below hb (World.block_lt_of_cell? w _ hc) hc⟩

theorem rc_alloc {w : World} {v : Value} {n size : Nat} {cs : List Value} (h : RC w v n size cs) (o : Obj) : RC (w.alloc o) v n size cs :=
  rc_below h ((Below.refl _ _).alloc (Nat.le_refl _) o)

theorem rc_drew {w : World} {v : Value} {n size : Nat} {cs : List Value} (h : RC w v n size cs) : RC w.drew v n size cs :=
  rc_below h ((Below.refl _ _).drew)

/-- A block that was just made. -/
theorem rc_new {fr : Nat × Nat} (w : World) (e n size : Nat) (cs : List Value) (hl : cs.length = n * size) (hn : n ≤ 9223372036854775807) : RC (w.alloc (.cells cs.toArray e fr)) (.slice (some ⟨w.heap.size, 0, none⟩) n n) n size cs := by
  refine ⟨_, n, rfl, Nat.le_refl _, hn, hl, (fun h => by cases h), fun j u hu => ⟨_, rfl, ?_⟩⟩
  rw [add_plain]
  have := heap_alloc_new w (.cells cs.toArray e fr)
  simp only [World.cell?, this]
  simpa using hu

theorem own_below {w w1 : World} {base e size n : Nat} {v : Value} {xs : List Value} (h : w.ownsRow base e size v n xs) (hb : Below w.heap.size w w1) : w1.ownsRow base e size v n xs := by
  obtain ⟨h1, h2⟩ := h
  refine ⟨h1, ?_⟩
  rcases h2 with h2 | ⟨g, cap, cur, rfl, hg, hh, r⟩
  · exact .inl h2
  · exact .inr ⟨g, cap, cur, rfl, hg, (hb.block g (Array.getElem?_eq_some_iff.1 hh).1).trans hh, r⟩

theorem own_base {w : World} {base e size n : Nat} {v : Value} {xs : List Value} (h : w.ownsRow base e size v n xs) (k : Nat) (hk : v.ownBlock = some k) : base ≤ k := by
  rcases h.2 with ⟨rfl, _⟩ | ⟨g, cap, cur, rfl, hb, _⟩
  · simp [Value.ownBlock] at hk
  · have : g = k := by simpa [Value.ownBlock] using hk
    omega

theorem own_nil (W : World) (base e size : Nat) : W.ownsRow base e size (.slice none 0 0) 0 [] := ⟨by simp, .inl ⟨rfl, rfl⟩⟩

theorem own_lower {w : World} {base base' e size n : Nat} {v : Value} {xs : List Value} (h : w.ownsRow base e size v n xs) (hb : base' ≤ base) : w.ownsRow base' e size v n xs := by
  obtain ⟨h1, h2⟩ := h
  refine ⟨h1, ?_⟩
  rcases h2 with h2 | ⟨g, cap, cur, rfl, hg, r⟩
  · exact .inl h2
  · exact .inr ⟨g, cap, cur, rfl, by omega, r⟩

/-- What is written is another row. -/
theorem own_other {w w1 : World} {base e size n : Nat} {v : Value} {xs : List Value} (h : w.ownsRow base e size v n xs) {row : Option Nat} (hg : w.grownBy w1 row) (hne : ∀ k, v.ownBlock = some k → row ≠ some k) : w1.ownsRow base e size v n xs := by
  obtain ⟨h1, h2⟩ := h
  refine ⟨h1, ?_⟩
  rcases h2 with h2 | ⟨g, cap, cur, rfl, hgb, hh, r⟩
  · exact .inl h2
  · exact .inr ⟨g, cap, cur, rfl, hgb, (hg.block g (Array.getElem?_eq_some_iff.1 hh).1 (fun e => hne g (by simp [Value.ownBlock]) e.symm)).trans hh, r⟩

section
variable {P : Program} {ops : Array Oper} {rest : List Oper} {o : Oper} {a : Act} {Q : Exit → Act → World → Prop}
/-- append(v, u...): v a row of the call's own, u a row that is read (nil too). -/
theorem run_app {W : World} (base t ty e : Nat) (size bytes : Nat) (z : Value) (ht : P.underlying t = some (.slice e))
    (hinfo : (P.info? e).map (fun i => (i.zero, i.size, i.bytes)) = some (some z, size, bytes)) (hz : z.cells.size = size) (hs0 : 0 < size)
    (v u : Value) (n m : Nat) (xs news : List Value) (hown : W.ownsRow base e size v n xs) (hr : RC W u m size news) (h1 : ∀ y ∈ news, y.oneCell' = true)
    (hb : (n + m) * bytes ≤ 140737488355328) (h63 : n + m ≤ 9223372036854775807) (hbase : base ≤ W.heap.size) :
    ∃ v1 w1, (Builtin.append_ #[t, t] ty #[v, u]).run P W = .ok v1 w1 ∧ w1.ownsRow base e size v1 (n + m) (xs ++ news) ∧ W.grownBy w1 v.ownBlock ∧ (v1.ownBlock = v.ownBlock ∨ v1.ownBlock = some W.heap.size) := by
  obtain ⟨i0, hi, hzz⟩ := Option.map_eq_some_iff.1 hinfo
  simp only [Prod.mk.injEq] at hzz
  obtain ⟨hz0, hz1, hz2⟩ := hzz
  obtain ⟨A, c, rfl, hmc, hc63, hl, hA, hcells⟩ := hr
  rcases A with _ | ad
  · have hc0 := hA rfl
    have h0 : m = 0 := by omega
    subst h0
    have hn : news = [] := List.eq_nil_of_length_eq_zero (by simpa using hl)
    subst hn
    refine ⟨v, W, ?_, by simpa using hown, World.grownBy.refl W _, .inl rfl⟩
    rcases hown.2 with ⟨rfl, hn⟩ | ⟨g, cap, cur, rfl, _, _, hnc, _⟩
    · simp [Builtin.append_, run_underlying ht, sizeOf, typeInfo, hi, Builtin.lenOf, Builtin.firstCells]
    · simp [Builtin.append_, run_underlying ht, sizeOf, typeInfo, hi, Builtin.lenOf, Builtin.firstCells, hnc, storeCells]
  · obtain ⟨v1, w1, hrun, h2, h3, _, h5⟩ := run_append_own_at (P := P) W base t ty e i0 z size bytes ht hi hz0 hz1 hz2 hz hs0 v n xs hown ad m c news hl
      (fun j u hu => by obtain ⟨a', ha, hc⟩ := hcells j u hu; injection ha with ha; subst ha; exact hc) h1 (by simp only [maxLen]; omega) hb hbase
    exact ⟨v1, w1, hrun, h2, h3, h5⟩

theorem app_own {w0 W : World} (base t e : Nat) (size bytes : Nat) (z : Value) (ht : P.underlying t = some (.slice e))
    (hinfo : (P.info? e).map (fun i => (i.zero, i.size, i.bytes)) = some (some z, size, bytes)) (hz : z.cells.size = size) (hs0 : 0 < size)
    (hgd : o.guard = none) (s x : Operand) (ho : o.op = .call { callee := .builtin .append, args := #[s, x], argTypes := #[t, t] })
    (v u : Value) (n m : Nat) (xs news : List Value) (hs : a.eval s = v) (hx : a.eval x = u) (hown : W.ownsRow base e size v n xs) (hr : RC W u m size news) (h1 : ∀ y ∈ news, y.oneCell' = true)
    (hB : Below base w0 W) (hb : (n + m) * bytes ≤ 140737488355328) (h63 : n + m ≤ 9223372036854775807) (hbase : base ≤ W.heap.size)
    (h : ∀ v1 w1, w1.ownsRow base e size v1 (n + m) (xs ++ news) → Below base w0 w1 → W.grownBy w1 v.ownBlock → (v1.ownBlock = v.ownBlock ∨ v1.ownBlock = some W.heap.size) → wpList P ops Q rest (a.put o.dst v1) w1) :
    wpList P ops Q (o :: rest) a W := by
  obtain ⟨v1, w1, hrun, h2, h3, h5⟩ := run_app (P := P) base t o.type e size bytes z ht hinfo hz hs0 v u n m xs news hown hr h1 hb h63 hbase
  refine wpList_plain hgd fun K hK => ?_
  unfold Oper.wp execOp
  simp only [ho, resolve, invoke, builtin, Sem.run_bind, Sem.run_pure, Result.andThen_ok, List.map_toArray, List.map_cons, List.map_nil, hs, hx, hrun]
  exact hK _ _ (h v1 w1 h2 (hB.grown h3 hbase (own_base hown)) h3 h5)
end

/-! ### bytes -/
/-- v reads as the bytes l. -/
def RB (w : World) (v : Value) (l : List UInt8) : Prop := RC w v l.length 1 (Lib.byteCells l)
/-- v is a row of the call's own, of the bytes l. -/
def OB (w : World) (base : Nat) (v : Value) (l : List UInt8) : Prop := w.ownsRow base 5 1 v l.length (Lib.byteCells l)
theorem ob_rb {w : World} {base : Nat} {v : Value} {l : List UInt8} (h : OB w base v l) : RB w v l := own_rc h
theorem ob_nil (w : World) (base : Nat) : OB w base (.slice none 0 0) [] := own_nil _ _ _ _
theorem rb_one (w : World) (x : UInt8) : RB (w.alloc (.cells #[.int .u8 x.toNat] 5)) (.slice (some ⟨w.heap.size, 0, none⟩) 1 1) [x] :=
  rc_new w 5 1 1 (Lib.byteCells [x]) rfl (by omega)

theorem info_u8 : (Tryd.prog.info? 5).map (fun i => (i.zero, i.size, i.bytes)) = some (some (.int .u8 0), 1, 1) := by kernel_rfl

theorem app_b {ops : Array Oper} {rest : List Oper} {o : Oper} {a : Act} {Q : Exit → Act → World → Prop} {w0 W : World} {base : Nat} {l m : List UInt8} {v u : Value}
    (hgd : o.guard = none) (s x : Operand) (ho : o.op = .call { callee := .builtin .append, args := #[s, x], argTypes := #[29, 29] })
    (hs : a.eval s = v) (hx : a.eval x = u) (hown : OB W base v l) (hr : RB W u m) (hB : Below base w0 W) (hbase : base ≤ W.heap.size) (hb : l.length + m.length ≤ 140737488355328)
    (h : ∀ v1 w1, OB w1 base v1 (l ++ m) → Below base w0 w1 → W.grownBy w1 v.ownBlock → (v1.ownBlock = v.ownBlock ∨ v1.ownBlock = some W.heap.size) → wpList Tryd.prog ops Q rest (a.put o.dst v1) w1) :
    wpList Tryd.prog ops Q (o :: rest) a W :=
  app_own base 29 5 1 1 (.int .u8 0) Tryd.underlying29 info_u8 rfl (by decide) hgd s x ho v u _ _ _ _ hs hx hown hr (Lib.byteCells_one _) hB (by omega) (by omega) hbase
    (fun v1 w1 h1 h2 h3 h4 => h v1 w1 (by unfold OB; rw [List.length_append, Lib.byteCells_append]; exact h1) h2 h3 h4)

theorem app_s {ops : Array Oper} {rest : List Oper} {o : Oper} {a : Act} {Q : Exit → Act → World → Prop} {w0 W : World} {base : Nat} {l : List UInt8} {v : Value}
    (hgd : o.guard = none) (s x : Operand) (ho : o.op = .call { callee := .builtin .append, args := #[s, x], argTypes := #[29, 9] })
    (y : ByteArray) (hs : a.eval s = v) (hx : a.eval x = .string y) (hown : OB W base v l) (hB : Below base w0 W) (hbase : base ≤ W.heap.size) (hb : l.length + y.size ≤ 140737488355328)
    (h : ∀ v1 w1, OB w1 base v1 (l ++ y.data.toList) → Below base w0 w1 → W.grownBy w1 v.ownBlock → wpList Tryd.prog ops Q rest (a.put o.dst v1) w1) :
    wpList Tryd.prog ops Q (o :: rest) a W := by
  obtain ⟨i0, hi, hzz⟩ := Option.map_eq_some_iff.1 info_u8
  simp only [Prod.mk.injEq] at hzz
  obtain ⟨hz0, hz1, hz2⟩ := hzz
  refine Lib.wpList_append_own_string W hgd s x 29 9 ho base 5 i0 Tryd.underlying29 Tryd.underlying9 hi hz0 hz1 hz2 v l.length (Lib.byteCells l) hs hown y hx (by simp only [maxLen]; omega) hb hbase ?_
  intro v1 w1 hown1 hg _
  refine h v1 w1 ?_ (hB.grown hg hbase (own_base hown)) hg
  unfold OB
  rw [List.length_append, Lib.byteCells_append, Array.length_toList]
  exact hown1

theorem add_add (a : Addr) (i j : Nat) : (a.add i).add j = a.add (i + j) := by
  unfold Addr.add
  by_cases h1 : i = 0 <;> by_cases h2 : j = 0 <;> simp [h1, h2, Nat.add_assoc]

/-- What is cut off behind. -/
theorem rc_take {w : World} {A : Option Addr} {n c size : Nat} {cs : List Value} (h : RC w (.slice A n c) n size cs) (k : Nat) (hk : k ≤ n) : RC w (.slice A k c) k size (cs.take (k * size)) := by
  obtain ⟨A', c', he, h1, h2, h3, h4, h5⟩ := h
  injection he with e1 e2 e3
  subst e1 e3
  refine ⟨A, c, rfl, by omega, h2, ?_, h4, fun j u hu => ?_⟩
  · rw [List.length_take, h3]
    have := Nat.mul_le_mul_right size hk
    omega
  · rw [List.getElem?_take] at hu
    split at hu
    · exact h5 j u hu
    · cases hu

/-- What is cut off in front: the address is a letter. -/
theorem rc_drop {P : Program} {t e : TypeId} {i : TypeInfo} (ht : P.underlying t = some (.slice e)) (hi : P.info? e = some i) (A : Option Addr) (n c : Nat) (hnc : n ≤ c) (j : Int) (h0 : 0 ≤ j) (hj : j ≤ n) :
    ∃ A' : Option Addr, (∀ W : World, (Instr.slice t (.slice A n c) (some (.int .i64 j)) none none).run P W = .ok (.slice A' (n - j.toNat) (c - j.toNat)) W) ∧
      (∀ (w : World) (cs : List Value), RC w (.slice A n c) n i.size cs → RC w (.slice A' (n - j.toNat) (c - j.toNat)) (n - j.toNat) i.size (cs.drop (j.toNat * i.size))) ∧ ∀ a', A' = some a' → ∃ a, A = some a ∧ a'.block = a.block := by
  obtain ⟨m, rfl⟩ := Int.eq_ofNat_of_zero_le h0
  simp only [Int.toNat_natCast]
  have hm : m ≤ n := by omega
  refine ⟨if c = m then A else A.map (·.add (m * i.size)), fun W => ?_, fun w cs h => ?_, fun a' ha => ?_⟩
  · have hel : P.elem t = e := by simp [Program.elem, ht]
    have hu : P.underlying t = some (.slice (P.elem t)) := by rw [hel]; exact ht
    rw [run_slice_l W t A n c hu .i64 (m : Int) (Int.natCast_nonneg _) (by omega), hel]
    simp [sizeOf, typeInfo, hi, sliced, Result.andThen]
  · obtain ⟨A', c', he, h1, h2, h3, h4, h5⟩ := h
    injection he with e1 e2 e3
    subst e1 e3
    refine ⟨_, c - m, rfl, by omega, by omega, ?_, ?_, fun q u hu => ?_⟩
    · rw [List.length_drop, h3, ← Nat.sub_mul]
    · intro hA
      split at hA
      · have := h4 hA; omega
      · have : A = none := by simpa using hA
        have := h4 this; omega
    · rw [List.getElem?_drop] at hu
      obtain ⟨a, ha, hc⟩ := h5 _ u hu
      subst ha
      split
      · rename_i hcm
        have hq : m * i.size + q < cs.length := (List.getElem?_eq_some_iff.1 hu).1
        have : m * i.size + q < m * i.size := by
          have hnm : n = m := by omega
          rw [h3, hnm] at hq
          exact hq
        omega
      · exact ⟨a.add (m * i.size), rfl, by rw [add_add]; exact hc⟩
  · split at ha
    · exact ⟨a', ha, rfl⟩
    · obtain ⟨a, h1, h2⟩ := Option.map_eq_some_iff.1 ha
      exact ⟨a, h1, by rw [← h2, add_block]⟩

theorem rb_take {w : World} {A : Option Addr} {n c : Nat} {l : List UInt8} (h : RB w (.slice A n c) l) (hn : n = l.length) (k : Nat) (hk : k ≤ n) : RB w (.slice A k c) (l.take k) := by
  subst hn
  have := rc_take h k hk
  unfold RB
  rw [List.length_take, Nat.min_eq_left hk]
  have e : Lib.byteCells (l.take k) = (Lib.byteCells l).take (k * 1) := by simp [Lib.byteCells, List.map_take]
  rw [e]
  exact this

theorem rb_drop (A : Option Addr) (c : Nat) (l : List UInt8) (hnc : l.length ≤ c) (j : Int) (h0 : 0 ≤ j) (hj : j ≤ l.length) :
    ∃ A' : Option Addr, (∀ W : World, (Instr.slice 29 (.slice A l.length c) (some (.int .i64 j)) none none).run Tryd.prog W = .ok (.slice A' (l.length - j.toNat) (c - j.toNat)) W) ∧
      (∀ w : World, RB w (.slice A l.length c) l → RB w (.slice A' (l.length - j.toNat) (c - j.toNat)) (l.drop j.toNat)) ∧ ∀ a', A' = some a' → ∃ a, A = some a ∧ a'.block = a.block := by
  obtain ⟨i0, hi, hzz⟩ := Option.map_eq_some_iff.1 info_u8
  simp only [Prod.mk.injEq] at hzz
  obtain ⟨hz0, hz1, hz2⟩ := hzz
  obtain ⟨A', h1, h2, h3⟩ := rc_drop (P := Tryd.prog) Tryd.underlying29 hi A l.length c hnc j h0 hj
  refine ⟨A', h1, fun w h => ?_, h3⟩
  have := h2 w _ (by rw [hz1]; exact h)
  rw [hz1] at this
  unfold RB
  rw [List.length_drop]
  have e : Lib.byteCells (l.drop j.toNat) = (Lib.byteCells l).drop (j.toNat * 1) := by simp [Lib.byteCells, List.map_drop]
  rw [e]
  exact this

theorem rb_cell {w : World} {A : Option Addr} {n c : Nat} {l : List UInt8} (h : RB w (.slice A n c) l) (j : Nat) (x : UInt8) (hx : l[j]? = some x) : ∃ a, A = some a ∧ w.cell? (a.add j) = some (.int .u8 x.toNat) := by
  obtain ⟨A', c', he, _, _, _, _, h5⟩ := h
  injection he with e1 e2 e3
  subst e1
  exact h5 j _ (by simp [Lib.byteCells, hx])

theorem rb_string {w : World} {v : Value} {l : List UInt8} (h : RB w v l) : (convert 29 9 v).run Tryd.prog w = .ok (.string ⟨l.toArray⟩) w := by
  obtain ⟨A, c, rfl, h1, h2, h3, h4, h5⟩ := h
  rcases A with _ | a
  · have := h4 rfl
    have hl : l = [] := List.eq_nil_of_length_eq_zero (by omega)
    subst hl
    exact run_convert_bytes_nil w _ _ Tryd.underlying29 Tryd.underlying5 _ _ _ Tryd.underlying9
  · refine run_convert_bytes_back w _ _ _ a c l Tryd.underlying29 Tryd.underlying5 Tryd.underlying9 (fun j hj => ?_)
    obtain ⟨a', ha, hc⟩ := h5 j (.int .u8 l[j].toNat) (by simp [Lib.byteCells, hj])
    injection ha with ha
    subst ha
    exact hc

theorem rb_below {w w1 : World} {v : Value} {l : List UInt8} (h : RB w v l) (hb : Below w.heap.size w w1) : RB w1 v l := rc_below h hb
theorem below_drewN (w : World) (n : Nat) : Below w.heap.size w (w.drewN n) := ⟨rfl, rfl, rfl, Nat.le_refl _, fun _ _ => rfl⟩
theorem grownBy_drewN (w : World) (n : Nat) (r : Option Nat) : w.grownBy (w.drewN n) r := ⟨rfl, rfl, rfl, Nat.le_refl _, fun _ _ _ => rfl⟩
theorem grownBy_set (w : World) (g j : Nat) (u : Value) : w.grownBy (w.setCell ⟨g, j, none⟩ u) (some g) :=
  ⟨rfl, rfl, rfl, by simp [World.setCell], fun k _ h => Below.heap_setCell w ⟨g, j, none⟩ u k (by rintro rfl; exact h rfl)⟩
theorem grownBy_below {w w1 : World} (h : Below w.heap.size w w1) (r : Option Nat) : w.grownBy w1 r := ⟨h.os, h.tape, h.output, h.size, fun k hk _ => h.block k hk⟩
theorem grownBy_trans {a b c : World} {r : Option Nat} (h : a.grownBy b r) (k : b.grownBy c r) : a.grownBy c r := h.trans k
/-- A block that was not written. -/
theorem rc_grown {w w1 : World} {v : Value} {n size : Nat} {cs : List Value} {r : Nat} (h : RC w v n size cs) (hg : w.grownBy w1 (some r)) (hne : ∀ A n c, v = .slice (some A) n c → A.block ≠ r) : RC w1 v n size cs := by
  obtain ⟨A, c, rfl, h1, h2, h3, h4, h5⟩ := h
  refine ⟨A, c, rfl, h1, h2, h3, h4, fun j u hu => ?_⟩
  obtain ⟨a, ha, hc⟩ := h5 j u hu
  refine ⟨a, ha, ?_⟩
  subst ha
  have hb := World.block_lt_of_cell? w _ hc
  have : w1.cell? (a.add j) = w.cell? (a.add j) := World.cell?_of_block (w := w) (hg.block _ hb (by rw [add_block]; intro e; exact hne a n c rfl (Option.some.inj e)))
  rw [this]
  exact hc
end Go.Proofs.YteigbejidfkhpaaDoor

/- From a row's data to the walks' facts: bytes, ints, strings in a slice. -/
namespace Go.Proofs.YteigbejidfkhpaaDoor
open Go Go.RowKit
open Go.ChangeShapes Go.WideShapes
set_option linter.unusedSimpArgs false
set_option linter.unusedVariables false

def I64 (ns : List Int) : Prop := ∀ n ∈ ns, -9223372036854775808 ≤ n ∧ n ≤ 9223372036854775807
/-- v reads as the ints ns. -/
def RI (w : World) (v : Value) (ns : List Int) : Prop := RC w v ns.length 1 (ns.map (Value.int .i64))

section
variable {H : Type} {enc : TypeId × Value → H} {P : Program} {W : World} {base : Nat} {t e : TypeId} {v : Value} {d : DataW H} {ps : List MemPlace} {ts : List TypeId} {ds : List (DataW H)}

/-- A slice of whole numbers that came in. -/
theorem open_nums {k : IntKind} (hu : P.underlying t = some (.slice e)) (he : P.underlying e = some (.int k)) (hv : Value.okWide P W .any base t v) (h : DataW.Trod enc P W 0 (fun _ => true) true t v d ps) (hc : P.cellsOf e = 1)
    (hsz : (DataW.weightsEach P ts ds).all (· ≤ reachBytes) = true) (j : Nat) (ht : ts[j]? = some t) (hd : ds[j]? = some d) :
    ∃ zs : List Int, RC W v zs.length 1 (zs.map (Value.int k)) ∧ (∀ n ∈ zs, (Lit.int k n).wf = true) ∧ zs.length * P.bytesOf e ≤ 140737488351232 := by
  obtain ⟨a, len, cap, rfl⟩ := okWide_slice hu hv
  obtain ⟨fuel, hf⟩ := h
  rcases open_ints hu he hc hf with ⟨hcs, _⟩ | ⟨x, l, c, zs, hcs, _, hl, hm, hz, hx, hcell, hwz⟩
  · simp [Value.cells] at hcs
    obtain ⟨rfl, rfl, rfl⟩ := hcs
    refine ⟨[], ⟨none, 0, rfl, Nat.le_refl _, by omega, rfl, fun _ => rfl, fun j u hu => ?_⟩, fun n hn => absurd hn (by simp), by simp⟩
    simp at hu
  · simp [Value.cells] at hcs
    obtain ⟨rfl, rfl, rfl⟩ := hcs
    simp only [if_true] at hz
    obtain ⟨hx, _⟩ := Prod.mk.inj hx
    subst hx
    have z := sized_slice hsz ht hd hu
    have h1 : (lits (H := H) k (zs.take len)).length + (lits (H := H) k (zs.drop len)).length = zs.length := by
      simp [lits]
      omega
    rw [h1] at z
    have hlen : (zs.take len).length = len := by rw [List.length_take]; omega
    refine ⟨zs.take len, ?_, fun n hn => hwz n (List.mem_of_mem_take hn), ?_⟩
    · rw [hlen]
      refine ⟨some x, cap, rfl, hl, by simpa [maxLen] using hm, by simp; omega, (fun h => by cases h), fun q u hq => ⟨x, rfl, ?_⟩⟩
      rw [List.getElem?_map] at hq
      obtain ⟨n, hn, rfl⟩ := Option.map_eq_some_iff.1 hq
      have hql : q < zs.length := by
        have := (List.getElem?_eq_some_iff.1 hn).1
        rw [hlen] at this
        omega
      rw [hcell q hql]
      rw [List.getElem?_take] at hn
      split at hn
      · rw [List.getD_eq_getElem?_getD, hn]; rfl
      · cases hn
    · rw [hlen]
      refine Nat.le_trans (Nat.mul_le_mul_right _ ?_) z
      omega
end

theorem wf_u8 {n : Int} (h : (Lit.int .u8 n).wf = true) : 0 ≤ n ∧ n ≤ 255 := by
  have e1 : IntKind.u8.min = 0 := rfl
  have e2 : IntKind.u8.max = 255 := rfl
  simp [Lit.wf, e1, e2] at h
  omega
theorem wf_i64 {n : Int} (h : (Lit.int .i64 n).wf = true) : -9223372036854775808 ≤ n ∧ n ≤ 9223372036854775807 := by
  have e1 : IntKind.i64.min = -9223372036854775808 := rfl
  have e2 : IntKind.i64.max = 9223372036854775807 := rfl
  simp [Lit.wf, e1, e2] at h
  omega

theorem bytes_of_nums : ∀ (zs : List Int), (∀ n ∈ zs, (Lit.int .u8 n).wf = true) → zs.map (Value.int .u8) = Lib.byteCells (zs.map fun n => UInt8.ofNat n.toNat)
  | [], _ => rfl
  | n :: r, h => by
    have ih := bytes_of_nums r (fun x hx => h x (by simp [hx]))
    have hn := wf_u8 (h n (by simp))
    simp only [List.map_cons, Lib.byteCells] at ih ⊢
    rw [ih]
    congr 2
    simp
    omega

section
variable {H : Type} {enc : TypeId × Value → H} {W : World} {base : Nat} {t : TypeId} {v : Value} {d : DataW H} {ps : List MemPlace} {ts : List TypeId} {ds : List (DataW H)}
set_option maxRecDepth 100000 in
theorem open_bytes {e : TypeId} (hu : Tryd.prog.underlying t = some (.slice e)) (he : Tryd.prog.underlying e = some (.int .u8)) (hv : Value.okWide Tryd.prog W .any base t v) (h : DataW.Trod enc Tryd.prog W 0 (fun _ => true) true t v d ps) (hc : Tryd.prog.cellsOf e = 1 ∧ Tryd.prog.bytesOf e = 1)
    (hsz : (DataW.weightsEach Tryd.prog ts ds).all (· ≤ reachBytes) = true) (j : Nat) (ht : ts[j]? = some t) (hd : ds[j]? = some d) :
    ∃ l : List UInt8, RB W v l ∧ l.length ≤ 140737488351232 := by
  obtain ⟨zs, h1, h2, h3⟩ := open_nums hu he hv h hc.1 hsz j ht hd
  refine ⟨zs.map fun n => UInt8.ofNat n.toNat, ?_, ?_⟩
  · rw [bytes_of_nums zs h2] at h1
    unfold RB
    simpa using h1
  · rw [hc.2] at h3
    simpa using h3
set_option maxRecDepth 100000 in
theorem open_intl {e : TypeId} (hu : Tryd.prog.underlying t = some (.slice e)) (he : Tryd.prog.underlying e = some (.int .i64)) (hv : Value.okWide Tryd.prog W .any base t v) (h : DataW.Trod enc Tryd.prog W 0 (fun _ => true) true t v d ps) (hc : Tryd.prog.cellsOf e = 1 ∧ Tryd.prog.bytesOf e = 8)
    (hsz : (DataW.weightsEach Tryd.prog ts ds).all (· ≤ reachBytes) = true) (j : Nat) (ht : ts[j]? = some t) (hd : ds[j]? = some d) :
    ∃ ns : List Int, RI W v ns ∧ I64 ns ∧ ns.length ≤ 140737488351232 := by
  obtain ⟨zs, h1, h2, h3⟩ := open_nums hu he hv h hc.1 hsz j ht hd
  refine ⟨zs, h1, fun n hn => wf_i64 (h2 n hn), ?_⟩
  rw [hc.2] at h3
  omega
end
end Go.Proofs.YteigbejidfkhpaaDoor

/- Slices of any elements: rows of their cells. Bools; parts. -/
namespace Go.Proofs.YteigbejidfkhpaaDoor
open Go Go.RowKit
open Go.ChangeShapes Go.WideShapes Go.Deep
set_option linter.unusedSimpArgs false
set_option linter.unusedVariables false

theorem flat_get {X V : Type} (f : X → List V) (s : Nat) (hs : 0 < s) (hf : ∀ x, (f x).length = s) : ∀ (xs : List X) (q : Nat), (xs.flatMap f)[q]? = (xs[q / s]?).bind fun x => (f x)[q % s]?
  | [], q => by simp
  | x :: r, q => by
    rw [List.flatMap_cons]
    by_cases h : q < s
    · rw [List.getElem?_append_left (by rw [hf]; exact h), Nat.div_eq_of_lt h, Nat.mod_eq_of_lt h]; rfl
    · rw [List.getElem?_append_right (by rw [hf]; omega), hf, flat_get f s hs hf r (q - s)]
      have h1 : q / s = (q - s) / s + 1 := by rw [Nat.div_eq_sub_div hs (by omega)]
      have h2 : q % s = (q - s) % s := by rw [Nat.mod_eq_sub_mod (by omega)]
      rw [h1, h2, List.getElem?_cons_succ]

theorem flat_len {X V : Type} (f : X → List V) (s : Nat) (hf : ∀ x, (f x).length = s) : ∀ (xs : List X), (xs.flatMap f).length = xs.length * s
  | [] => by simp
  | x :: r => by rw [List.flatMap_cons, List.length_append, hf, flat_len f s hf r, List.length_cons, Nat.succ_mul, Nat.add_comm]

section
variable {H : Type} {enc : TypeId × Value → H} {P : Program} {W : World} {base : Nat} {t e : TypeId} {v : Value} {d : DataW H} {ps : List MemPlace} {ts : List TypeId} {ds : List (DataW H)}
/-- A slice that came in, of elements of s cells each. -/
theorem open_row {X : Type} (f : X → List Value) (Good : X → Prop) (s : Nat) (hs : 0 < s) (hf : ∀ x, (f x).length = s) (hu : P.underlying t = some (.slice e)) (hc : P.cellsOf e = s)
    (hel : ∀ n cs y, DataW.trod enc P W 0 (fun _ => true) true n e cs = some y → cs.length = s → ∃ x, cs = f x ∧ Good x)
    (hv : Value.okWide P W .any base t v) (h : DataW.Trod enc P W 0 (fun _ => true) true t v d ps)
    (hsz : (DataW.weightsEach P ts ds).all (· ≤ reachBytes) = true) (j : Nat) (ht : ts[j]? = some t) (hd : ds[j]? = some d) :
    ∃ xs : List X, RC W v xs.length s (xs.flatMap f) ∧ (∀ x ∈ xs, Good x) ∧ xs.length * P.bytesOf e ≤ 140737488351232 := by
  obtain ⟨a, len, cap, rfl⟩ := okWide_slice hu hv
  obtain ⟨fuel, hfu⟩ := h
  rcases open_slice hu hfu with ⟨hcs, _⟩ | ⟨x, l, c, m, n, D, Pl, hcs, _, hl, hm, hmm, hx, hi⟩
  · simp [Value.cells] at hcs
    obtain ⟨rfl, rfl, rfl⟩ := hcs
    refine ⟨[], ⟨none, 0, rfl, Nat.le_refl _, by omega, by simp, fun _ => rfl, fun j u hu => ?_⟩, fun n hn => absurd hn (by simp), by simp⟩
    simp at hu
  · simp [Value.cells] at hcs
    obtain ⟨rfl, rfl, rfl⟩ := hcs
    simp only [if_true] at hmm
    subst hmm
    obtain ⟨hx, _⟩ := Prod.mk.inj hx
    subst hx
    have z := sized_slice hsz ht hd hu
    simp only [List.length_map, List.length_range] at z
    have key : ∀ i : Fin len, ∃ y, W.cells? 0 (x.add (i.1 * s)) s = some (f y) ∧ Good y := by
      intro i
      obtain ⟨cs', h1, h2⟩ := hi i.1 (by omega)
      rw [hc] at h1
      obtain ⟨y, rfl, hg⟩ := hel n cs' _ h2 (World.cells?_some h1).2.1
      exact ⟨y, h1, hg⟩
    have hlen : (List.ofFn fun i : Fin len => Classical.choose (key i)).length = len := by simp
    refine ⟨List.ofFn fun i : Fin len => Classical.choose (key i), ?_, ?_, ?_⟩
    · rw [hlen]
      refine ⟨some x, _, rfl, hl, by simpa [maxLen] using hm, by rw [flat_len f s hf, hlen], (fun h => by cases h), fun q u hq => ⟨x, rfl, ?_⟩⟩
      rw [flat_get f s hs hf] at hq
      obtain ⟨y, hy, hq⟩ := Option.bind_eq_some_iff.1 hq
      have hql : q / s < len := by
        have := (List.getElem?_eq_some_iff.1 hy).1
        rwa [hlen] at this
      have hye : y = Classical.choose (key ⟨q / s, hql⟩) := by
        rw [List.getElem?_ofFn] at hy
        simp only [hql, dite_true, Option.some.injEq] at hy
        exact hy.symm
      have hk := (Classical.choose_spec (key ⟨q / s, hql⟩)).1
      rw [← hye] at hk
      have := (World.cells?_some hk).2.2 (q % s) (Nat.mod_lt _ hs)
      rw [add_add] at this
      rw [Nat.div_add_mod' q s] at this
      rw [this]
      exact hq
    · intro y hy
      rw [List.mem_ofFn] at hy
      obtain ⟨i, rfl⟩ := hy
      exact (Classical.choose_spec (key i)).2
    · rw [hlen]
      refine Nat.le_trans (Nat.mul_le_mul_right _ ?_) z
      omega
end

/-- Element k's cells. -/
theorem row_at {X : Type} {f : X → List Value} {s : Nat} (hs : 0 < s) (hf : ∀ x, (f x).length = s) {w : World} {v : Value} {xs : List X} (h : RC w v xs.length s (xs.flatMap f)) :
    ∃ A c, v = .slice A xs.length c ∧ xs.length ≤ c ∧ ∀ k x, xs[k]? = some x → ∃ a, A = some a ∧ ∀ r u, (f x)[r]? = some u → w.cell? (a.add (k * s + r)) = some u := by
  obtain ⟨A, c, rfl, h1, h2, h3, h4, h5⟩ := h
  refine ⟨A, c, rfl, h1, fun k x hx => ?_⟩
  have hg : ∀ r u, (f x)[r]? = some u → (xs.flatMap f)[k * s + r]? = some u := by
    intro r u hr
    have hrs : r < s := by rw [← hf x]; exact (List.getElem?_eq_some_iff.1 hr).1
    rw [flat_get f s hs hf, show (k * s + r) / s = k by rw [Nat.mul_comm, Nat.mul_add_div hs, Nat.div_eq_of_lt hrs]; omega, show (k * s + r) % s = r by rw [Nat.mul_comm, Nat.mul_add_mod, Nat.mod_eq_of_lt hrs], hx]
    exact hr
  have hx0 : ∃ u, (f x)[0]? = some u := ⟨_, List.getElem?_eq_getElem (by rw [hf]; exact hs)⟩
  obtain ⟨u0, hu0⟩ := hx0
  obtain ⟨a, ha, _⟩ := h5 _ u0 (hg 0 u0 hu0)
  refine ⟨a, ha, fun r u hr => ?_⟩
  obtain ⟨a', ha', hc⟩ := h5 _ u (hg r u hr)
  rw [ha] at ha'
  injection ha' with ha'
  subst ha'
  exact hc

/-- v reads as the bools bs. -/
def boolCells (b : Bool) : List Value := [.bool b]
def RBo (w : World) (v : Value) (bs : List Bool) : Prop := RC w v bs.length 1 (bs.flatMap boolCells)
section
variable {H : Type} {enc : TypeId × Value → H} {W : World} {base : Nat} {t e : TypeId} {v : Value} {d : DataW H} {ps : List MemPlace} {ts : List TypeId} {ds : List (DataW H)}
set_option maxRecDepth 100000 in
theorem open_bools (hu : Tryd.prog.underlying t = some (.slice e)) (he : Tryd.prog.underlying e = some .bool) (hv : Value.okWide Tryd.prog W .any base t v) (h : DataW.Trod enc Tryd.prog W 0 (fun _ => true) true t v d ps) (hc : Tryd.prog.cellsOf e = 1 ∧ Tryd.prog.bytesOf e = 1)
    (hsz : (DataW.weightsEach Tryd.prog ts ds).all (· ≤ reachBytes) = true) (j : Nat) (ht : ts[j]? = some t) (hd : ds[j]? = some d) :
    ∃ bs : List Bool, RBo W v bs ∧ bs.length ≤ 140737488351232 := by
  obtain ⟨xs, h1, _, h3⟩ := open_row boolCells (fun _ => True) 1 (by omega) (fun _ => rfl) hu hc.1 (fun n cs y hy hl => by
    obtain ⟨b, rfl, _⟩ := DataW.trod_bool he hy
    exact ⟨b, rfl, trivial⟩) hv h hsz j ht hd
  rw [hc.2] at h3
  exact ⟨xs, h1, by omega⟩
end
end Go.Proofs.YteigbejidfkhpaaDoor

/- Layer 15: numbers as bytes; table.big; a clone. -/
namespace Go.Proofs.YteigbejidfkhpaaDoor
open Go Go.RowKit
set_option linter.unusedSimpArgs false
set_option linter.unusedVariables false

/-- Byte i of a number; its k bytes, the highest first. -/
def dig (n i : Nat) : UInt8 := UInt8.ofNat (n / 2 ^ (8 * i))
def beB (n : Nat) : Nat → List UInt8
  | 0 => []
  | k + 1 => dig n k :: beB n k
theorem beB_len (n : Nat) : ∀ k, (beB n k).length = k
  | 0 => rfl
  | k + 1 => by simp [beB, beB_len n k]

theorem dig_val (n r : Nat) : ((n : Int) / 2 ^ (8 * r) % 256) = ((dig n r).toNat : Int) := by
  have h : (dig n r).toNat = n / 2 ^ (8 * r) % 256 := by
    unfold dig
    exact UInt8.toNat_ofNat' ..
  rw [h, Int.natCast_emod, Int.natCast_ediv, Int.natCast_pow]
  rfl
theorem rb_dig (w : World) (x : UInt8) (z : Int) (hz : z = (x.toNat : Int)) : RB (w.alloc (.cells #[.int .u8 z] 5)) (.slice (some ⟨w.heap.size, 0, none⟩) 1 1) [x] := by
  subst hz
  exact rb_one w x

/-- The number that bytes are, the highest first. -/
def natB (l : List UInt8) : Nat := l.foldl (fun a b => a * 256 + b.toNat) 0
theorem natB_snoc (l : List UInt8) (b : UInt8) : natB (l ++ [b]) = natB l * 256 + b.toNat := by simp [natB]
theorem natB_lt (l : List UInt8) : natB l < 256 ^ l.length := by
  have key : ∀ (l : List UInt8) (a : Nat), l.foldl (fun a b => a * 256 + b.toNat) a < (a + 1) * 256 ^ l.length := by
    intro l
    induction l with
    | nil => intro a; simp
    | cons b r ih =>
      intro a
      simp only [List.foldl_cons, List.length_cons]
      refine Nat.lt_of_lt_of_le (ih _) ?_
      have hb : b.toNat < 256 := UInt8.toNat_lt b
      rw [Nat.pow_succ, Nat.mul_comm (256 ^ r.length) 256, ← Nat.mul_assoc]
      exact Nat.mul_le_mul_right _ (by omega)
  unfold natB
  simpa using key l 0

theorem ba_at (s : ByteArray) (k : Nat) (h : k < s.size) : s.data.toList[k]? = some s[k] := by
  have h' : k < s.data.size := h
  rw [Array.getElem?_toList, Array.getElem?_eq_getElem h']
  rfl

theorem foldl_acc : ∀ (r : List UInt8) (a : Nat), r.foldl (fun a b => a * 256 + b.toNat) a = a * 256 ^ r.length + natB r := by
  intro r
  induction r with
  | nil => intro a; simp [natB]
  | cons b r ih =>
    intro a
    unfold natB
    simp only [List.foldl_cons, List.length_cons]
    rw [ih, ih (0 * 256 + b.toNat), Nat.pow_succ, Nat.add_mul, Nat.add_mul]
    simp only [Nat.zero_mul, Nat.zero_add, Nat.mul_assoc, Nat.mul_comm 256, Nat.add_assoc]
theorem natB_cons (b : UInt8) (r : List UInt8) : natB (b :: r) = b.toNat * 256 ^ r.length + natB r := by
  have := foldl_acc r b.toNat
  unfold natB at this ⊢
  simpa using this
theorem pow256 (i : Nat) : 2 ^ (8 * i) = 256 ^ i := by rw [Nat.pow_mul]
theorem dig_mod (n m k i : Nat) (h : i < k) : dig (n * 256 ^ k + m) i = dig m i := by
  unfold dig
  rw [pow256]
  have hk : 256 ^ k = 256 ^ (k - i - 1) * 256 * 256 ^ i := by
    rw [← Nat.pow_succ, ← Nat.pow_add]
    congr 1
    omega
  have hp : 0 < 256 ^ i := Nat.pow_pos (by decide)
  have e : (n * 256 ^ k + m) / 256 ^ i = n * 256 ^ (k - i - 1) * 256 + m / 256 ^ i := by
    rw [hk, ← Nat.mul_assoc, ← Nat.mul_assoc, Nat.add_comm, Nat.add_mul_div_right _ _ hp, Nat.add_comm]
  rw [e]
  apply UInt8.toNat_inj.1
  rw [UInt8.toNat_ofNat', UInt8.toNat_ofNat']
  omega
theorem beB_mod (n m k : Nat) : ∀ j, j ≤ k → beB (n * 256 ^ k + m) j = beB m j
  | 0, _ => rfl
  | j + 1, h => by rw [beB, beB, dig_mod n m k j (by omega), beB_mod n m k j (by omega)]
theorem beB_natB : ∀ l : List UInt8, beB (natB l) l.length = l
  | [] => rfl
  | b :: r => by
    have hr := natB_lt r
    have hp : 0 < 256 ^ r.length := Nat.pow_pos (by decide)
    rw [List.length_cons, beB, natB_cons, beB_mod _ _ _ _ (Nat.le_refl _), beB_natB r]
    congr 1
    unfold dig
    rw [pow256, Nat.add_comm, Nat.add_mul_div_right _ _ hp, Nat.div_eq_of_lt hr, Nat.zero_add]
    exact UInt8.ofNat_toNat

theorem dig_nat (n k : Nat) : (dig n k).toNat = n / 256 ^ k % 256 := by
  unfold dig
  rw [pow256]
  exact UInt8.toNat_ofNat' ..
theorem natB_beB (n : Nat) : ∀ k, natB (beB n k) = n % 256 ^ k
  | 0 => by simp [beB, natB, Nat.mod_one]
  | k + 1 => by
    rw [beB, natB_cons, beB_len, natB_beB n k, dig_nat, Nat.mod_pow_succ, Nat.add_comm, Nat.mul_comm]

theorem wrap_u8 (b : UInt8) : wrap64 (b.toNat : Int) = b.toNat := by
  have := UInt8.toNat_lt b
  unfold wrap64
  omega

set_option maxRecDepth 100000 in
set_option maxHeartbeats 1000000 in
theorem clone_b {w : World} {v : Value} {l : List UInt8} (h : RB w v l) (hl : l.length ≤ 140737488355328) :
    Calls Tryd.prog 32 #[v] w fun e w' => ∃ v', e = .returned v' ∧ OB w' w.heap.size v' l ∧ Below w.heap.size w w' := by
  obtain ⟨A, c, rfl, hnc, hc, hlen, hA, hcell⟩ := id h
  have q := fun (w : World) (a : Option Addr) (n c n' c' : Nat) => Lib.run_eql_slice_nil (P := Tryd.prog) w 29 _ a n c n' c' Tryd.underlying29
  have H := Lib.hid h
  have HC := Lib.hid hcell
  clear h hcell hlen
  rcases A with _ | ad
  · have : l = [] := List.eq_nil_of_length_eq_zero (by have := hA rfl; omega)
    subst this
    clear hA
    go_enter Tryd.func32, Tryd.ntmps32
    go_wp2
    go_ret
    exact ⟨_, rfl, ob_nil _ _, Below.refl _ _⟩
  · clear hA
    go_enter Tryd.func32, Tryd.ntmps32
    go_wp2_with (at_builtin; refine app_b (w0 := w) (base := w.heap.size) (l := []) (m := l) rfl (.tmp 5) (.tmp 6) rfl rfl rfl (World.ownsRow_made w #[] 0 (Nat.le_refl _) (Nat.zero_le _) (by simp)) (rc_alloc H.out _) ((Below.refl _ _).alloc (Nat.le_refl _) _) (by simp) (by simpa using hl) ?_; intro v1 w1 hown hb hg hat)
    go_ret
    exact ⟨v1, rfl, hown, hb⟩

set_option maxRecDepth 100000 in
set_option maxHeartbeats 1000000 in
theorem tableBig_c {w : World} {base : Nat} {v : Value} {l : List UInt8} (h : OB w base v l) (hB : base ≤ w.heap.size) (hl : l.length ≤ 70368744177664) (n : Nat) (hn : n < 18446744073709551616) (k : Nat) (hk : k ≤ 8) :
    Calls Tryd.prog 28 #[v, .int .u64 n, .int .i64 k] w fun e w' => ∃ v', e = .returned v' ∧ OB w' base v' (l ++ beB n k) ∧ Below base w w' := by
  have H := Lib.hid h
  clear h
  go_enter Tryd.func28, Tryd.ntmps28
  go_wp2
  go_loopw [0, 7] (fun x i wr => ∃ (r : Nat) (pre : List UInt8), r ≤ k ∧ i = .int .i64 ((r : Int) - 1) ∧ Hid (pre ++ beB n r = beB n k) ∧ Hid (OB wr base x (l ++ pre)) ∧ Below base w wr) (fun _ i _ => (intOf i + 1).toNat)
  case atStart => exact ⟨k, [], Nat.le_refl _, rfl, Lib.hid rfl, by simpa [Lib.hid] using H, Below.refl _ _⟩
  case round =>
    obtain ⟨r, pre, hr, rfl, HP, O2, b2⟩ := hrel
    cases r with
    | zero =>
      go_wp2
      go_ret
      have := HP.out
      simp only [beB, List.append_nil] at this
      exact ⟨_, rfl, by rw [← this]; exact O2.out, b2⟩
    | succ r =>
      have hpl : pre.length ≤ 8 := by
        have := congrArg List.length HP.out
        rw [List.length_append, beB_len, beB_len] at this
        omega
      go_wp2_with (at_builtin; refine app_b (w0 := w) (base := base) (l := l ++ pre) (m := [dig n r]) rfl (.tmp 14) (.tmp 20) rfl rfl rfl (O2.out.alloc _) (rb_dig wr _ _ (dig_val n r)) (b2.alloc (by have := b2.size; omega) _) (by have := b2.size; simp; omega) (by simp; omega) ?_; intro v4 w4 o4 b4 _ _; have O4 := Lib.hid o4; clear o4)
      go_roundw
      case rel => exact ⟨r, pre ++ [dig n r], by omega, by go_num, Lib.hid (by have := HP.out; simpa [beB] using this), Lib.hid (by have := O4.out; rwa [List.append_assoc] at this), b4⟩
      case measure => simp [intOf]

theorem ba_size (s : ByteArray) : s.data.toList.length = s.size := by rw [Array.length_toList]; rfl
theorem ne_nil (s : ByteArray) (h : 0 < s.size) : s.toList.isEmpty = false := by
  rw [ByteArray.toList_eq]
  have h' : 0 < s.data.toList.length := by rw [Array.length_toList]; exact h
  cases hd : s.data.toList with
  | nil => rw [hd] at h'; exact absurd h' (by decide)
  | cons a l => rfl
theorem ba_ext {a b : ByteArray} (h : a.data.toList = b.data.toList) : a = b := ByteArray.ext (Array.toList_inj.1 h)
theorem ba_nil {s : ByteArray} (h : s.size = 0) : s = ByteArray.empty := by
  apply ByteArray.ext
  exact Array.eq_empty_of_size_eq_zero (by have : s.data.size = s.size := rfl; omega)
theorem ob_lit {w : World} {base : Nat} (l : List UInt8) (cs : Array Value) (n : Nat) (hb : base ≤ w.heap.size) (hn : n = l.length) (hl : n ≤ 4096) (hc : cs.toList = Lib.byteCells l) : OB (w.alloc (.cells cs 5)) base (.slice (some ⟨w.heap.size, 0, none⟩) n n) l := by
  subst hn
  have h := World.ownsRow_lit (e := 5) (size := 1) w cs l.length hb (by simp only [maxLen]; omega) (by rw [← Array.length_toList, hc]; simp [Lib.byteCells])
  rw [hc] at h
  exact h
end Go.Proofs.YteigbejidfkhpaaDoor

/- Layer 15: Form, sizes, fits. -/
namespace Go.Proofs.YteigbejidfkhpaaDoor
open Go Go.RowKit
set_option linter.unusedSimpArgs false
set_option linter.unusedVariables false

/-- The form of a method, by class * 256 + number. -/
def formOf (x : Nat) : Option ByteArray :=
  if x = 2570 then some ⟨#[111, 111, 84, 83, 83]⟩
  else if x = 2571 then some ⟨#[84, 115, 83, 115]⟩
  else if x = 2590 then some ⟨#[104, 108, 104]⟩
  else if x = 2591 then some ⟨#[104, 108, 104]⟩
  else if x = 2600 then some ⟨#[115, 115, 98]⟩
  else if x = 2601 then some ⟨#[115]⟩
  else if x = 15381 then some ⟨#[115]⟩
  else if x = 15432 then some ⟨#[115]⟩
  else if x = 2610 then some ⟨#[104, 115, 104, 104]⟩
  else if x = 5160 then some ⟨#[104, 115, 104, 104]⟩
  else if x = 2611 then some ⟨#[]⟩
  else if x = 5161 then some ⟨#[]⟩
  else if x = 12821 then some ⟨#[]⟩
  else if x = 15371 then some ⟨#[]⟩
  else if x = 21771 then some ⟨#[]⟩
  else if x = 23050 then some ⟨#[]⟩
  else if x = 23051 then some ⟨#[]⟩
  else if x = 23060 then some ⟨#[]⟩
  else if x = 23061 then some ⟨#[]⟩
  else if x = 23070 then some ⟨#[]⟩
  else if x = 23071 then some ⟨#[]⟩
  else if x = 5130 then some ⟨#[115]⟩
  else if x = 5131 then some ⟨#[83]⟩
  else if x = 12810 then some ⟨#[104, 115, 98, 84]⟩
  else if x = 12811 then some ⟨#[115, 108, 108]⟩
  else if x = 12820 then some ⟨#[104, 115, 115, 115, 98, 84]⟩
  else if x = 15370 then some ⟨#[108, 104, 98]⟩
  else if x = 15380 then some ⟨#[104, 115, 115, 98, 84]⟩
  else if x = 15400 then some ⟨#[104, 115, 115, 98]⟩
  else if x = 15420 then some ⟨#[115, 76, 98, 115, 115]⟩
  else if x = 15430 then some ⟨#[104, 115, 98]⟩
  else if x = 15431 then some ⟨#[76, 98, 115, 115, 108]⟩
  else if x = 15440 then some ⟨#[76, 98]⟩
  else if x = 15450 then some ⟨#[76, 98]⟩
  else if x = 15480 then some ⟨#[76, 98]⟩
  else if x = 21770 then some ⟨#[98]⟩
  else none
def formCI (c i : Int) : Option ByteArray := if 0 ≤ c ∧ c ≤ 255 ∧ 0 ≤ i ∧ i ≤ 255 then formOf (c.toNat * 256 + i.toNat) else none

theorem or_lem (z b : Nat) (hz : z < 2 ^ 48) (hb : b < 256) : bits BinOp.or IntKind.i64 ((z : Int) * 256) (b : Int) = ((z * 256 + b : Nat) : Int) := by
  have h3 : (z * 256) ||| b = z * 256 + b := by
    have := Nat.shiftLeft_add_eq_or_of_lt (i := 8) (b := b) (by omega) z
    rw [Nat.shiftLeft_eq] at this
    exact this.symm
  rw [show ((z : Int) * 256) = ((z * 256 : Nat) : Int) by omega]
  have e64 : IntKind.i64.bits = 64 := rfl
  have hm : (BitVec.ofInt IntKind.i64.bits ((z * 256 : Nat) : Int) ||| BitVec.ofInt IntKind.i64.bits ((b : Nat) : Int)).toNat = z * 256 + b := by
    rw [BitVec.toNat_or, BitVec.ofInt_natCast, BitVec.ofInt_natCast, BitVec.toNat_ofNat, BitVec.toNat_ofNat, e64, Nat.mod_eq_of_lt (by omega), Nat.mod_eq_of_lt (by omega), h3]
  show IntKind.i64.wrap (((BitVec.ofInt IntKind.i64.bits ((z * 256 : Nat) : Int) ||| BitVec.ofInt IntKind.i64.bits ((b : Nat) : Int)).toNat : Nat) : Int) = _
  rw [hm]
  exact IntWalk.i64_in _ (by omega)

set_option maxRecDepth 100000 in
set_option maxHeartbeats 4000000 in
theorem form_c {w : World} (c i : Int) :
    Calls Tryd.prog 23 #[.int .i64 c, .int .i64 i] w fun e w' => e = .returned (.tuple #[.string ((formCI c i).getD ByteArray.empty), .bool (formCI c i).isSome]) ∧ w = w' := by
  by_cases hr : 0 ≤ c ∧ c ≤ 255 ∧ 0 ≤ i ∧ i ≤ 255
  · have hf : formCI c i = formOf (c.toNat * 256 + i.toNat) := by unfold formCI; rw [if_pos hr]
    obtain ⟨h0, h1, h2, h3⟩ := hr
    obtain ⟨cn, rfl⟩ := Int.eq_ofNat_of_zero_le h0
    obtain ⟨im, rfl⟩ := Int.eq_ofNat_of_zero_le h2
    rw [hf]
    have hor := or_lem cn im (by omega) (by omega)
    obtain ⟨x, hx⟩ : ∃ x : Nat, x = cn * 256 + im := ⟨_, rfl⟩
    rw [← hx] at hor
    rw [show ((cn : Nat) : Int).toNat * 256 + ((im : Nat) : Int).toNat = x from hx.symm]
    clear hf hx
    go_enter Tryd.func23, Tryd.ntmps23
    go_upto_region 4 with fail

    by_cases g0 : x = 2570
    · subst g0
      go_wp2_with fail
      go_ret2
      exact ⟨rfl, rfl⟩
    have n0 : ((x : Int) == 2570) = false := beq_eq_false_iff_ne.2 (by omega)
    by_cases g1 : x = 2571
    · subst g1
      go_wp2_with fail
      go_ret2
      exact ⟨rfl, rfl⟩
    have n1 : ((x : Int) == 2571) = false := beq_eq_false_iff_ne.2 (by omega)
    by_cases g2 : x = 2590
    · subst g2
      go_wp2_with fail
      go_ret2
      exact ⟨rfl, rfl⟩
    have n2 : ((x : Int) == 2590) = false := beq_eq_false_iff_ne.2 (by omega)
    by_cases g3 : x = 2591
    · subst g3
      go_wp2_with fail
      go_ret2
      exact ⟨rfl, rfl⟩
    have n3 : ((x : Int) == 2591) = false := beq_eq_false_iff_ne.2 (by omega)
    by_cases g4 : x = 2600
    · subst g4
      go_wp2_with fail
      go_ret2
      exact ⟨rfl, rfl⟩
    have n4 : ((x : Int) == 2600) = false := beq_eq_false_iff_ne.2 (by omega)
    by_cases g5 : x = 2601
    · subst g5
      go_wp2_with fail
      go_ret2
      exact ⟨rfl, rfl⟩
    have n5 : ((x : Int) == 2601) = false := beq_eq_false_iff_ne.2 (by omega)
    by_cases g6 : x = 15381
    · subst g6
      go_wp2_with fail
      go_ret2
      exact ⟨rfl, rfl⟩
    have n6 : ((x : Int) == 15381) = false := beq_eq_false_iff_ne.2 (by omega)
    by_cases g7 : x = 15432
    · subst g7
      go_wp2_with fail
      go_ret2
      exact ⟨rfl, rfl⟩
    have n7 : ((x : Int) == 15432) = false := beq_eq_false_iff_ne.2 (by omega)
    by_cases g8 : x = 2610
    · subst g8
      go_wp2_with fail
      go_ret2
      exact ⟨rfl, rfl⟩
    have n8 : ((x : Int) == 2610) = false := beq_eq_false_iff_ne.2 (by omega)
    by_cases g9 : x = 5160
    · subst g9
      go_wp2_with fail
      go_ret2
      exact ⟨rfl, rfl⟩
    have n9 : ((x : Int) == 5160) = false := beq_eq_false_iff_ne.2 (by omega)
    by_cases g10 : x = 2611
    · subst g10
      go_wp2_with fail
      go_ret2
      exact ⟨rfl, rfl⟩
    have n10 : ((x : Int) == 2611) = false := beq_eq_false_iff_ne.2 (by omega)
    by_cases g11 : x = 5161
    · subst g11
      go_wp2_with fail
      go_ret2
      exact ⟨rfl, rfl⟩
    have n11 : ((x : Int) == 5161) = false := beq_eq_false_iff_ne.2 (by omega)
    by_cases g12 : x = 12821
    · subst g12
      go_wp2_with fail
      go_ret2
      exact ⟨rfl, rfl⟩
    have n12 : ((x : Int) == 12821) = false := beq_eq_false_iff_ne.2 (by omega)
    by_cases g13 : x = 15371
    · subst g13
      go_wp2_with fail
      go_ret2
      exact ⟨rfl, rfl⟩
    have n13 : ((x : Int) == 15371) = false := beq_eq_false_iff_ne.2 (by omega)
    by_cases g14 : x = 21771
    · subst g14
      go_wp2_with fail
      go_ret2
      exact ⟨rfl, rfl⟩
    have n14 : ((x : Int) == 21771) = false := beq_eq_false_iff_ne.2 (by omega)
    by_cases g15 : x = 23050
    · subst g15
      go_wp2_with fail
      go_ret2
      exact ⟨rfl, rfl⟩
    have n15 : ((x : Int) == 23050) = false := beq_eq_false_iff_ne.2 (by omega)
    by_cases g16 : x = 23051
    · subst g16
      go_wp2_with fail
      go_ret2
      exact ⟨rfl, rfl⟩
    have n16 : ((x : Int) == 23051) = false := beq_eq_false_iff_ne.2 (by omega)
    by_cases g17 : x = 23060
    · subst g17
      go_wp2_with fail
      go_ret2
      exact ⟨rfl, rfl⟩
    have n17 : ((x : Int) == 23060) = false := beq_eq_false_iff_ne.2 (by omega)
    by_cases g18 : x = 23061
    · subst g18
      go_wp2_with fail
      go_ret2
      exact ⟨rfl, rfl⟩
    have n18 : ((x : Int) == 23061) = false := beq_eq_false_iff_ne.2 (by omega)
    by_cases g19 : x = 23070
    · subst g19
      go_wp2_with fail
      go_ret2
      exact ⟨rfl, rfl⟩
    have n19 : ((x : Int) == 23070) = false := beq_eq_false_iff_ne.2 (by omega)
    by_cases g20 : x = 23071
    · subst g20
      go_wp2_with fail
      go_ret2
      exact ⟨rfl, rfl⟩
    have n20 : ((x : Int) == 23071) = false := beq_eq_false_iff_ne.2 (by omega)
    by_cases g21 : x = 5130
    · subst g21
      go_wp2_with fail
      go_ret2
      exact ⟨rfl, rfl⟩
    have n21 : ((x : Int) == 5130) = false := beq_eq_false_iff_ne.2 (by omega)
    by_cases g22 : x = 5131
    · subst g22
      go_wp2_with fail
      go_ret2
      exact ⟨rfl, rfl⟩
    have n22 : ((x : Int) == 5131) = false := beq_eq_false_iff_ne.2 (by omega)
    by_cases g23 : x = 12810
    · subst g23
      go_wp2_with fail
      go_ret2
      exact ⟨rfl, rfl⟩
    have n23 : ((x : Int) == 12810) = false := beq_eq_false_iff_ne.2 (by omega)
    by_cases g24 : x = 12811
    · subst g24
      go_wp2_with fail
      go_ret2
      exact ⟨rfl, rfl⟩
    have n24 : ((x : Int) == 12811) = false := beq_eq_false_iff_ne.2 (by omega)
    by_cases g25 : x = 12820
    · subst g25
      go_wp2_with fail
      go_ret2
      exact ⟨rfl, rfl⟩
    have n25 : ((x : Int) == 12820) = false := beq_eq_false_iff_ne.2 (by omega)
    by_cases g26 : x = 15370
    · subst g26
      go_wp2_with fail
      go_ret2
      exact ⟨rfl, rfl⟩
    have n26 : ((x : Int) == 15370) = false := beq_eq_false_iff_ne.2 (by omega)
    by_cases g27 : x = 15380
    · subst g27
      go_wp2_with fail
      go_ret2
      exact ⟨rfl, rfl⟩
    have n27 : ((x : Int) == 15380) = false := beq_eq_false_iff_ne.2 (by omega)
    by_cases g28 : x = 15400
    · subst g28
      go_wp2_with fail
      go_ret2
      exact ⟨rfl, rfl⟩
    have n28 : ((x : Int) == 15400) = false := beq_eq_false_iff_ne.2 (by omega)
    by_cases g29 : x = 15420
    · subst g29
      go_wp2_with fail
      go_ret2
      exact ⟨rfl, rfl⟩
    have n29 : ((x : Int) == 15420) = false := beq_eq_false_iff_ne.2 (by omega)
    by_cases g30 : x = 15430
    · subst g30
      go_wp2_with fail
      go_ret2
      exact ⟨rfl, rfl⟩
    have n30 : ((x : Int) == 15430) = false := beq_eq_false_iff_ne.2 (by omega)
    by_cases g31 : x = 15431
    · subst g31
      go_wp2_with fail
      go_ret2
      exact ⟨rfl, rfl⟩
    have n31 : ((x : Int) == 15431) = false := beq_eq_false_iff_ne.2 (by omega)
    by_cases g32 : x = 15440
    · subst g32
      go_wp2_with fail
      go_ret2
      exact ⟨rfl, rfl⟩
    have n32 : ((x : Int) == 15440) = false := beq_eq_false_iff_ne.2 (by omega)
    by_cases g33 : x = 15450
    · subst g33
      go_wp2_with fail
      go_ret2
      exact ⟨rfl, rfl⟩
    have n33 : ((x : Int) == 15450) = false := beq_eq_false_iff_ne.2 (by omega)
    by_cases g34 : x = 15480
    · subst g34
      go_wp2_with fail
      go_ret2
      exact ⟨rfl, rfl⟩
    have n34 : ((x : Int) == 15480) = false := beq_eq_false_iff_ne.2 (by omega)
    by_cases g35 : x = 21770
    · subst g35
      go_wp2_with fail
      go_ret2
      exact ⟨rfl, rfl⟩
    have n35 : ((x : Int) == 21770) = false := beq_eq_false_iff_ne.2 (by omega)
    have hnone : formOf x = none := by unfold formOf; rw [if_neg g0, if_neg g1, if_neg g2, if_neg g3, if_neg g4, if_neg g5, if_neg g6, if_neg g7, if_neg g8, if_neg g9, if_neg g10, if_neg g11, if_neg g12, if_neg g13, if_neg g14, if_neg g15, if_neg g16, if_neg g17, if_neg g18, if_neg g19, if_neg g20, if_neg g21, if_neg g22, if_neg g23, if_neg g24, if_neg g25, if_neg g26, if_neg g27, if_neg g28, if_neg g29, if_neg g30, if_neg g31, if_neg g32, if_neg g33, if_neg g34, if_neg g35]
    have HN := Lib.hid hnone
    clear hnone g0 g1 g2 g3 g4 g5 g6 g7 g8 g9 g10 g11 g12 g13 g14 g15 g16 g17 g18 g19 g20 g21 g22 g23 g24 g25 g26 g27 g28 g29 g30 g31 g32 g33 g34 g35
    go_wp2_with fail
    go_ret2
    exact ⟨by rw [HN.out]; rfl, rfl⟩
  · have hf : formCI c i = none := by unfold formCI; rw [if_neg hr]
    rw [hf]
    clear hf
    by_cases h0 : c < 0
    · clear hr
      go_enter Tryd.func23, Tryd.ntmps23
      go_wp2_with fail
      go_ret2
      exact ⟨rfl, rfl⟩
    · have h0' : 0 ≤ c := by omega
      by_cases h1 : 255 < c
      · clear hr h0
        go_enter Tryd.func23, Tryd.ntmps23
        go_wp2_with fail
        go_ret2
        exact ⟨rfl, rfl⟩
      · have h1' : c ≤ 255 := by omega
        by_cases h2 : i < 0
        · clear hr h0 h1
          go_enter Tryd.func23, Tryd.ntmps23
          go_wp2_with fail
          go_ret2
          exact ⟨rfl, rfl⟩
        · have h2' : 0 ≤ i := by omega
          have h3 : 255 < i := by omega
          clear hr h0 h1 h2
          go_enter Tryd.func23, Tryd.ntmps23
          go_wp2_with fail
          go_ret2
          exact ⟨rfl, rfl⟩

/-- The bytes of a number's letter. -/
def sizeOf' (c : Int) : Nat := if c = 111 then 1 else if c = 98 then 1 else if c = 104 then 2 else if c = 108 then 4 else if c = 76 then 8 else 0
set_option maxRecDepth 100000 in
set_option maxHeartbeats 1000000 in
theorem sizes_c {w : World} (c : Int) : Calls Tryd.prog 29 #[.int .i32 c] w fun e w' => e = .returned (.int .i64 (sizeOf' c : Nat)) ∧ w = w' := by

  by_cases g0 : c = 111
  · subst g0
    go_enter Tryd.func29, Tryd.ntmps29
    go_wp2_with fail
    go_ret
    exact ⟨rfl, rfl⟩
  have n0 : (c == 111) = false := beq_eq_false_iff_ne.2 g0
  by_cases g1 : c = 98
  · subst g1
    go_enter Tryd.func29, Tryd.ntmps29
    go_wp2_with fail
    go_ret
    exact ⟨rfl, rfl⟩
  have n1 : (c == 98) = false := beq_eq_false_iff_ne.2 g1
  by_cases g2 : c = 104
  · subst g2
    go_enter Tryd.func29, Tryd.ntmps29
    go_wp2_with fail
    go_ret
    exact ⟨rfl, rfl⟩
  have n2 : (c == 104) = false := beq_eq_false_iff_ne.2 g2
  by_cases g3 : c = 108
  · subst g3
    go_enter Tryd.func29, Tryd.ntmps29
    go_wp2_with fail
    go_ret
    exact ⟨rfl, rfl⟩
  have n3 : (c == 108) = false := beq_eq_false_iff_ne.2 g3
  by_cases g4 : c = 76
  · subst g4
    go_enter Tryd.func29, Tryd.ntmps29
    go_wp2_with fail
    go_ret
    exact ⟨rfl, rfl⟩
  have n4 : (c == 76) = false := beq_eq_false_iff_ne.2 g4
  have h : sizeOf' c = 0 := by unfold sizeOf'; rw [if_neg g0, if_neg g1, if_neg g2, if_neg g3, if_neg g4]
  rw [h]
  clear h g0 g1 g2 g3 g4
  go_enter Tryd.func29, Tryd.ntmps29
  go_wp2_with fail
  go_ret
  exact ⟨rfl, rfl⟩
end Go.Proofs.YteigbejidfkhpaaDoor

/- Contracts of the library at this dump: laid by the shelf, plain, what is wanted of it. -/
namespace Go.Proofs
open Go.Shelf
def Tryd.lays160_ren : Go.Shelf.Ren := ⟨fun | 160 => 65 | 232 => 77 | 231 => 76 | 227 => 78 | 234 => 80 | 233 => 79 | 236 => 82 | 235 => 81 | 228 => 88 | 271 => 91 | 151 => 90 | 197 => 89 | 120 => 95 | 152 => 94 | 260 => 93 | 137 => 97 | 119 => 98 | 224 => 99 | 225 => 100 | 217 => 101 | 266 => 102 | n => n, fun | 9 => 9 | 4 => 4 | 3 => 3 | 5 => 5 | 117 => 105 | 116 => 104 | 0 => 0 | 124 => 108 | 21 => 21 | 105 => 113 | 46 => 43 | 119 => 117 | 139 => 120 | 138 => 119 | n => n, fun | 3 => 2 | 4 => 3 | n => n⟩
theorem Tryd.lays160 : Go.Proofs.Lays.n160 Tryd.prog Tryd.lays160_ren := {
  mixed := by kernel_rfl
  f119 := Tryd.func98.trans (congrArg some (by kernel_rfl))
  f120 := Tryd.func95.trans (congrArg some (by kernel_rfl))
  f137 := Tryd.func97.trans (congrArg some (by kernel_rfl))
  f151 := Tryd.func90.trans (congrArg some (by kernel_rfl))
  f152 := Tryd.func94.trans (congrArg some (by kernel_rfl))
  f160 := Tryd.func65.trans (congrArg some (by kernel_rfl))
  f197 := Tryd.func89.trans (congrArg some (by kernel_rfl))
  f217 := Tryd.func101.trans (congrArg some (by kernel_rfl))
  f224 := Tryd.func99.trans (congrArg some (by kernel_rfl))
  f225 := Tryd.func100.trans (congrArg some (by kernel_rfl))
  f227 := Tryd.func78.trans (congrArg some (by kernel_rfl))
  f228 := Tryd.func88.trans (congrArg some (by kernel_rfl))
  f231 := Tryd.func76.trans (congrArg some (by kernel_rfl))
  f232 := Tryd.func77.trans (congrArg some (by kernel_rfl))
  f233 := Tryd.func79.trans (congrArg some (by kernel_rfl))
  f234 := Tryd.func80.trans (congrArg some (by kernel_rfl))
  f235 := Tryd.func81.trans (congrArg some (by kernel_rfl))
  f236 := Tryd.func82.trans (congrArg some (by kernel_rfl))
  f260 := Tryd.func93.trans (congrArg some (by kernel_rfl))
  f266 := Tryd.func102.trans (congrArg some (by kernel_rfl))
  f271 := Tryd.func91.trans (congrArg some (by kernel_rfl))
  t0 := Tryd.underlying0
  a0 := Tryd.isAgg0
  z0 := Tryd.sizeOf0
  v0 := Tryd.zeroValue0
  t3 := Tryd.underlying3
  a3 := Tryd.isAgg3
  z3 := Tryd.sizeOf3
  v3 := Tryd.zeroValue3
  t4 := Tryd.underlying4
  a4 := Tryd.isAgg4
  z4 := Tryd.sizeOf4
  v4 := Tryd.zeroValue4
  t5 := Tryd.underlying5
  a5 := Tryd.isAgg5
  z5 := Tryd.sizeOf5
  v5 := Tryd.zeroValue5
  t9 := Tryd.underlying9
  a9 := Tryd.isAgg9
  z9 := Tryd.sizeOf9
  v9 := Tryd.zeroValue9
  t21 := Tryd.underlying21
  a21 := Tryd.isAgg21
  z21 := Tryd.sizeOf21
  v21 := Tryd.zeroValue21
  t46 := Tryd.underlying43
  a46 := Tryd.isAgg43
  z46 := Tryd.sizeOf43
  v46 := Tryd.zeroValue43
  t105 := Tryd.underlying113
  a105 := Tryd.isAgg113
  z105 := Tryd.sizeOf113
  v105 := Tryd.zeroValue113
  t116 := Tryd.underlying104
  a116 := Tryd.isAgg104
  z116 := Tryd.sizeOf104
  t117 := Tryd.underlying105
  a117 := Tryd.isAgg105
  z117 := Tryd.sizeOf105
  v117 := Tryd.zeroValue105
  t119 := Tryd.underlying117
  a119 := Tryd.isAgg117
  z119 := Tryd.sizeOf117
  t124 := Tryd.underlying108
  a124 := Tryd.isAgg108
  z124 := Tryd.sizeOf108
  v124 := Tryd.zeroValue108
  t138 := Tryd.underlying119
  a138 := Tryd.isAgg119
  z138 := Tryd.sizeOf119
  v138 := Tryd.zeroValue119
  t139 := Tryd.underlying120
  a139 := Tryd.isAgg120
  z139 := Tryd.sizeOf120
  v139 := Tryd.zeroValue120
  g3 := by kernel_rfl
  g4 := by kernel_rfl }
open Go.RowKit in
theorem Tryd.strings_Trim_one (s : ByteArray) (c : UInt8) (hc : c.toNat < 128) (w : World) (hs : s.size ≤ 9223372036854775807) :
    Calls Tryd.prog 65 #[.string s, .string ⟨#[c]⟩] w fun e w' => e = .returned (.string ⟨(Lib.trimB s.data.toList c).toArray⟩) ∧ (w' = w ∨ w' = w.drew) := Any.strings_Trim_one Tryd.lays160 s c hc w hs
def Tryd.lays106_ren : Go.Shelf.Ren := ⟨fun | 106 => 63 | 213 => 73 | 265 => 86 | n => n, fun | 9 => 9 | 3 => 3 | n => n, fun | n => n⟩
theorem Tryd.lays106 : Go.Proofs.Lays.n106 Tryd.prog Tryd.lays106_ren := {
  mixed := by kernel_rfl
  f106 := Tryd.func63.trans (congrArg some (by kernel_rfl))
  f213 := Tryd.func73.trans (congrArg some (by kernel_rfl))
  f265 := Tryd.func86.trans (congrArg some (by kernel_rfl))
  t3 := Tryd.underlying3
  a3 := Tryd.isAgg3
  z3 := Tryd.sizeOf3
  v3 := Tryd.zeroValue3
  t9 := Tryd.underlying9
  a9 := Tryd.isAgg9
  z9 := Tryd.sizeOf9
  v9 := Tryd.zeroValue9 }
open Go.RowKit in
theorem Tryd.strings_Compare (a b : ByteArray) (w : World) :
    Calls Tryd.prog 63 #[.string a, .string b] w fun e w' => e = .returned (.int .i64 (Lib.compareBytes a.data.toList b.data.toList)) ∧ w' = w := Any.strings_Compare Tryd.lays106 a b w
end Go.Proofs

/- Layer 7: names, values. -/
namespace Go.Proofs.YteigbejidfkhpaaDoor
open Go Go.RowKit
set_option linter.unusedSimpArgs false
set_option linter.unusedVariables false

def letters : ByteArray := ⟨#[97, 98, 99, 100, 101, 102, 103, 104, 105, 106, 107, 108, 109, 110, 111, 112, 113, 114, 115, 116, 117, 118, 119, 120, 121, 122, 48, 49, 50, 51, 52, 53, 54, 55, 56, 57, 45, 95]⟩
def nameB (s : ByteArray) : Bool := decide (0 < s.size) && decide (s.size ≤ 16) && (Lib.trimS s.data.toList letters.data.toList).isEmpty

theorem trim_c {w : World} (s : ByteArray) (hs : s.size ≤ 140737488351232) :
    Calls Tryd.prog 65 #[.string s, .string letters] w fun e w' => e = .returned (.string ⟨(Lib.trimS s.data.toList letters.data.toList).toArray⟩) ∧ Below w.heap.size w w' :=
  Any.strings_Trim_laid Tryd.lays160 (by kernel_rfl) s letters w (by omega) (by decide) (ascii_of_all (by decide))

set_option maxRecDepth 100000 in
theorem name_c {w : World} (s : ByteArray) (hs : s.size ≤ 140737488351232) :
    Calls Tryd.prog 42 #[.string s] w fun e w' => e = .returned (.bool (nameB s)) ∧ Below w.heap.size w w' := by
  by_cases h0 : 0 < s.size
  · have hE := ne_nil s h0
    by_cases h1 : (16 : Int) < s.size
    · have hn : nameB s = false := by unfold nameB; rw [decide_eq_false (show ¬ s.size ≤ 16 by omega)]; simp
      rw [hn]
      clear hn h0
      go_enter Tryd.func42, Tryd.ntmps42
      go_wp2_with fail
      go_ret
      exact ⟨rfl, Below.refl _ _⟩
    · have h1' : (s.size : Int) ≤ 16 := by omega
      have hn : nameB s = (Lib.trimS s.data.toList letters.data.toList).isEmpty := by unfold nameB; rw [decide_eq_true h0, decide_eq_true (show s.size ≤ 16 by omega)]; rfl
      have HT := Lib.hid (trim_c (w := w) s hs)
      obtain ⟨y, hy⟩ : ∃ y, y = Lib.trimS s.data.toList letters.data.toList := ⟨_, rfl⟩
      rw [← hy] at hn HT
      rw [hn]
      clear hn h0 h1 hy
      cases y with
      | nil =>
        go_enter Tryd.func42, Tryd.ntmps42
        go_wp2_with fail
        refine (HT.out).mono ?_
        rintro e w1 ⟨rfl, b1⟩
        go_wp2_with fail
        go_ret
        exact ⟨rfl, b1⟩
      | cons a r =>
        obtain ⟨z, hz⟩ : ∃ z : ByteArray, z = ⟨(a :: r).toArray⟩ := ⟨_, rfl⟩
        have hzE : z.toList.isEmpty = false := by rw [ByteArray.toList_eq, hz]; rfl
        rw [← hz] at HT
        clear hz
        go_enter Tryd.func42, Tryd.ntmps42
        go_wp2_with fail
        refine (HT.out).mono ?_
        rintro e w1 ⟨rfl, b1⟩
        go_wp2_with fail
        go_ret
        exact ⟨rfl, b1⟩
  · obtain rfl := ba_nil (s := s) (by omega)
    go_enter Tryd.func42, Tryd.ntmps42
    go_wp2_with fail
    go_ret
    exact ⟨rfl, Below.refl _ _⟩

/-- Is it a NaN? Its bits as it is held. -/
def nanB (r : Nat) : Bool := FloatKind.f64.format.order r r != some .eq
def canonR (r : Nat) : Nat := if nanB r = true then 9221120237041090561 else r
theorem bits64_run (w : World) (r : Nat) : (callFunc 44 #[.float .f64 r]).run Tryd.prog w = .ok (.value (.int .u64 r)) w := by
  rw [run_callFunc_extern (e := Extern.MathFloatBits.float64bits) Tryd.func44 (by kernel_rfl) (by kernel_rfl) (by kernel_rfl) (by kernel_rfl)]
  rfl
theorem from64_run (w : World) (n : Int) : (callFunc 41 #[.int .u64 n]).run Tryd.prog w = .ok (.value (.float .f64 n.toNat)) w := by
  rw [run_callFunc_extern (e := Extern.MathFloatBits.float64frombits) Tryd.func41 (by kernel_rfl) (by kernel_rfl) (by kernel_rfl) (by kernel_rfl)]
  rfl

set_option maxRecDepth 100000 in
theorem canon_c {w : World} (r : Nat) :
    Calls Tryd.prog 66 #[.float .f64 r] w fun e w' => e = .returned (.float .f64 (canonR r)) ∧ w = w' := by
  cases hn : nanB r with
  | true =>
    have e : canonR r = 9221120237041090561 := by unfold canonR; rw [hn]; rfl
    rw [e]
    clear e
    unfold nanB at hn
    have q := from64_run
    go_enter Tryd.func66, Tryd.ntmps66
    go_wp2_with fail
    go_ret
    exact ⟨rfl, rfl⟩
  | false =>
    have e : canonR r = r := by unfold canonR; rw [hn]; rfl
    rw [e]
    clear e
    unfold nanB at hn
    go_enter Tryd.func66, Tryd.ntmps66
    go_wp2_with fail
    go_ret
    exact ⟨rfl, rfl⟩

/-- Can a value be? -/
def goodB (k n : Int) (t : ByteArray) (r : Nat) : Bool :=
  if k = 1 then decide (t.size = 0) && decide (r = 0)
  else if k = 2 then decide (t.size = 0) && decide (r = 0) && (decide (n = 0) || decide (n = 1))
  else if k = 3 then decide (n = 0) && decide (r = 0) && decide (t.size ≤ 256)
  else if k = 4 then decide (n = 0) && decide (t.size = 0) && decide (r = canonR r)
  else false

theorem good_of {k n : Int} {t : ByteArray} {r : Nat} (h : goodB k n t r = true) :
    (k = 1 ∧ t.size = 0 ∧ r = 0) ∨ (k = 2 ∧ t.size = 0 ∧ r = 0 ∧ (n = 0 ∨ n = 1)) ∨ (k = 3 ∧ n = 0 ∧ r = 0 ∧ t.size ≤ 256) ∨ (k = 4 ∧ n = 0 ∧ t.size = 0 ∧ r = canonR r) := by
  unfold goodB at h
  split at h
  · simp only [Bool.and_eq_true, Bool.or_eq_true, decide_eq_true_eq] at h; exact .inl ⟨by assumption, h.1, h.2⟩
  · split at h
    · simp only [Bool.and_eq_true, Bool.or_eq_true, decide_eq_true_eq] at h; exact .inr (.inl ⟨by assumption, h.1.1, h.1.2, h.2⟩)
    · split at h
      · simp only [Bool.and_eq_true, Bool.or_eq_true, decide_eq_true_eq] at h; exact .inr (.inr (.inl ⟨by assumption, h.1.1, h.1.2, h.2⟩))
      · split at h
        · simp only [Bool.and_eq_true, Bool.or_eq_true, decide_eq_true_eq] at h; exact .inr (.inr (.inr ⟨by assumption, h.1.1, h.1.2, h.2⟩))
        · cases h

set_option maxRecDepth 100000 in
set_option maxHeartbeats 2000000 in
theorem good_c {w : World} (k n : Int) (t : ByteArray) (r : Nat) :
    Calls Tryd.prog 43 #[.agg #[.int .i64 k, .int .i64 n, .string t, .float .f64 r]] w fun e w' => e = .returned (.bool (goodB k n t r)) ∧ Below w.heap.size w w' := by
  have bW := (Below.refl w.heap.size w).alloc (Nat.le_refl _) (.cells #[.int .i64 k, .int .i64 n, .string t, .float .f64 r] 46)
  have q64 := bits64_run
  have ht : (t = ByteArray.empty ∧ t.size = 0) ∨ (t.toList.isEmpty = false ∧ t.size ≠ 0) := by
    by_cases h : t.size = 0
    · exact .inl ⟨ba_nil h, h⟩
    · exact .inr ⟨ne_nil t (by omega), h⟩
  have hr : (r = 0) ∨ (r ≠ 0 ∧ ((r : Int) == 0) = false) := by by_cases h : r = 0; exact .inl h; exact .inr ⟨h, beq_eq_false_iff_ne.2 (by omega)⟩
  by_cases h1 : k = 1
  · subst h1
    rcases ht with ⟨rfl, hz⟩ | ⟨hE, hz⟩
    · rcases hr with rfl | ⟨hr, hrb⟩
      · have e : goodB 1 n ByteArray.empty 0 = true := by unfold goodB; simp []
        rw [e]
        clear e
        go_enter Tryd.func43, Tryd.ntmps43
        go_wp2_with fail
        go_ret
        exact ⟨rfl, bW⟩
      · have e : goodB 1 n ByteArray.empty r = false := by unfold goodB; simp [hr]
        rw [e]
        clear e
        go_enter Tryd.func43, Tryd.ntmps43
        go_wp2_with fail
        go_ret
        exact ⟨rfl, bW⟩
    · have e : goodB 1 n t r = false := by unfold goodB; simp [hz]
      rw [e]
      clear e
      go_enter Tryd.func43, Tryd.ntmps43
      go_wp2_with fail
      go_ret
      exact ⟨rfl, bW⟩
  · have k1 : (k == 1) = false := beq_eq_false_iff_ne.2 h1
    by_cases h2 : k = 2
    · subst h2
      rcases ht with ⟨rfl, hz⟩ | ⟨hE, hz⟩
      · rcases hr with rfl | ⟨hr, hrb⟩
        · by_cases n0 : n = 0
          · subst n0
            have e : goodB 2 0 ByteArray.empty 0 = true := by unfold goodB; simp []
            rw [e]
            clear e
            go_enter Tryd.func43, Tryd.ntmps43
            go_wp2_with fail
            go_ret
            exact ⟨rfl, bW⟩
          · have nb0 : (n == 0) = false := beq_eq_false_iff_ne.2 n0
            by_cases n1 : n = 1
            · subst n1
              have e : goodB 2 1 ByteArray.empty 0 = true := by unfold goodB; simp []
              rw [e]
              clear e
              go_enter Tryd.func43, Tryd.ntmps43
              go_wp2_with fail
              go_ret
              exact ⟨rfl, bW⟩
            · have nb1 : (n == 1) = false := beq_eq_false_iff_ne.2 n1
              have e : goodB 2 n ByteArray.empty 0 = false := by unfold goodB; simp [n0, n1]
              rw [e]
              clear e
              go_enter Tryd.func43, Tryd.ntmps43
              go_wp2_with fail
              go_ret
              exact ⟨rfl, bW⟩
        · have e : goodB 2 n ByteArray.empty r = false := by unfold goodB; simp [hr]
          rw [e]
          clear e
          go_enter Tryd.func43, Tryd.ntmps43
          go_wp2_with fail
          go_ret
          exact ⟨rfl, bW⟩
      · have e : goodB 2 n t r = false := by unfold goodB; simp [hz]
        rw [e]
        clear e
        go_enter Tryd.func43, Tryd.ntmps43
        go_wp2_with fail
        go_ret
        exact ⟨rfl, bW⟩
    · have k2 : (k == 2) = false := beq_eq_false_iff_ne.2 h2
      by_cases h3 : k = 3
      · subst h3
        by_cases n0 : n = 0
        · subst n0
          rcases hr with rfl | ⟨hr, hrb⟩
          · by_cases hl : t.size ≤ 256
            · have hl' : (t.size : Int) ≤ 256 := by omega
              have e : goodB 3 0 t 0 = true := by unfold goodB; simp [hl]
              rw [e]
              clear e
              go_enter Tryd.func43, Tryd.ntmps43
              go_wp2_with fail
              go_ret
              exact ⟨by first | rfl | (show Ending.returned (Value.bool (decide ((t.size : Int) ≤ 256))) = _; first | (rw [decide_eq_true (by omega)]; done) | (rw [decide_eq_false (by omega)]; done)), bW⟩
            · have hl' : (256 : Int) < t.size := by omega
              have e : goodB 3 0 t 0 = false := by unfold goodB; simp [hl]
              rw [e]
              clear e hl
              go_enter Tryd.func43, Tryd.ntmps43
              go_wp2_with fail
              go_ret
              exact ⟨by first | rfl | (show Ending.returned (Value.bool (decide ((t.size : Int) ≤ 256))) = _; first | (rw [decide_eq_true (by omega)]; done) | (rw [decide_eq_false (by omega)]; done)), bW⟩
          · have e : goodB 3 0 t r = false := by unfold goodB; simp [hr]
            rw [e]
            clear e
            go_enter Tryd.func43, Tryd.ntmps43
            go_wp2_with fail
            go_ret
            exact ⟨rfl, bW⟩
        · have nb0 : (n == 0) = false := beq_eq_false_iff_ne.2 n0
          have e : goodB 3 n t r = false := by unfold goodB; simp [n0]
          rw [e]
          clear e
          go_enter Tryd.func43, Tryd.ntmps43
          go_wp2_with fail
          go_ret
          exact ⟨rfl, bW⟩
      · have k3 : (k == 3) = false := beq_eq_false_iff_ne.2 h3
        by_cases h4 : k = 4
        · subst h4
          by_cases n0 : n = 0
          · subst n0
            rcases ht with ⟨rfl, hz⟩ | ⟨hE, hz⟩
            · by_cases hc : r = canonR r
              · have hcb : ((r : Int) == (canonR r : Int)) = true := by rw [← hc]; exact beq_self_eq_true _
                have e : goodB 4 0 ByteArray.empty r = true := by unfold goodB; simp [← hc]
                rw [e]
                clear e hc hr
                go_enter Tryd.func43, Tryd.ntmps43
                go_wp2_with fail
                refine (canon_c r).mono ?_
                rintro e w1 ⟨rfl, rfl⟩
                go_wp2_with fail
                go_ret
                exact ⟨rfl, bW⟩
              · have hcb : ((r : Int) == (canonR r : Int)) = false := beq_eq_false_iff_ne.2 (by omega)
                have e : goodB 4 0 ByteArray.empty r = false := by unfold goodB; simp [hc]
                rw [e]
                clear e hc hr
                go_enter Tryd.func43, Tryd.ntmps43
                go_wp2_with fail
                refine (canon_c r).mono ?_
                rintro e w1 ⟨rfl, rfl⟩
                go_wp2_with fail
                go_ret
                exact ⟨rfl, bW⟩
            · have e : goodB 4 0 t r = false := by unfold goodB; simp [hz]
              rw [e]
              clear e
              go_enter Tryd.func43, Tryd.ntmps43
              go_wp2_with fail
              go_ret
              exact ⟨rfl, bW⟩
          · have nb0 : (n == 0) = false := beq_eq_false_iff_ne.2 n0
            have e : goodB 4 n t r = false := by unfold goodB; simp [n0]
            rw [e]
            clear e
            go_enter Tryd.func43, Tryd.ntmps43
            go_wp2_with fail
            go_ret
            exact ⟨rfl, bW⟩
        · have k4 : (k == 4) = false := beq_eq_false_iff_ne.2 h4
          have e : goodB k n t r = false := by unfold goodB; rw [if_neg h1, if_neg h2, if_neg h3, if_neg h4]
          rw [e]
          clear e
          go_enter Tryd.func43, Tryd.ntmps43
          go_wp2_with fail
          go_ret
          exact ⟨rfl, bW⟩
end Go.Proofs.YteigbejidfkhpaaDoor

/- Layer 7: lists of properties: prop.Valid. -/
namespace Go.Proofs.YteigbejidfkhpaaDoor
open Go Go.RowKit
open Go.ChangeShapes Go.WideShapes Go.Deep Go.Sort
set_option linter.unusedSimpArgs false
set_option linter.unusedVariables false

structure Prp where
  nm : ByteArray
  k : Int
  n : Int
  t : ByteArray
  r : Nat
def Prp.cells (p : Prp) : List Value := [.string p.nm, .int .i64 p.k, .int .i64 p.n, .string p.t, .float .f64 p.r]
def RPr (w : World) (v : Value) (ps : List Prp) : Prop := RC w v ps.length 5 (ps.flatMap Prp.cells)
theorem add_one_of (a : Addr) (i j : Nat) : a.add (i + (j + 1)) = ⟨(a.add i).block, (a.add i).off + (j + 1), none⟩ := by
  rw [← add_add]
  generalize a.add i = b
  unfold Addr.add
  simp
theorem props_at {w : World} {v : Value} {ps : List Prp} (h : RPr w v ps) : ∃ A c, v = .slice A ps.length c ∧ ps.length ≤ c ∧ ∀ k p, ps[k]? = some p → ∃ a, A = some a ∧ w.cell? (a.add (k * 5)) = some (.string p.nm) ∧ w.cell? ⟨(a.add (k * 5)).block, (a.add (k * 5)).off + 1, none⟩ = some (.int .i64 p.k) ∧ w.cell? ⟨(a.add (k * 5)).block, (a.add (k * 5)).off + 2, none⟩ = some (.int .i64 p.n) ∧ w.cell? ⟨(a.add (k * 5)).block, (a.add (k * 5)).off + 3, none⟩ = some (.string p.t) ∧ w.cell? ⟨(a.add (k * 5)).block, (a.add (k * 5)).off + 4, none⟩ = some (.float .f64 p.r) := by
  obtain ⟨A, c, h1, h2, h3⟩ := row_at (f := Prp.cells) (by omega) (fun _ => rfl) h
  exact ⟨A, c, h1, h2, fun k x hx => by
    obtain ⟨a, ha, hc⟩ := h3 k x hx
    exact ⟨a, ha, hc 0 _ rfl, by rw [← add_one_of]; exact hc 1 _ rfl, by rw [← add_one_of]; exact hc 2 _ rfl, by rw [← add_one_of]; exact hc 3 _ rfl, by rw [← add_one_of]; exact hc 4 _ rfl⟩⟩

def Prp.good (p : Prp) : Bool := goodB p.k p.n p.t p.r
theorem new_cell {w : World} {cs : Array Value} {t : TypeId} (j : Nat) (u : Value) (hj : cs[j]? = some u) : (w.alloc (.cells cs t)).drew.cell? ⟨w.heap.size, j, none⟩ = some u := by
  have hb : (w.alloc (.cells cs t)).drew.heap[w.heap.size]? = some (.cells cs t) := heap_alloc_new w _
  simp only [World.cell?, hb]
  simpa using hj

theorem round_less {n j : Nat} (h : j + 1 < n) : n - (intOf (.int .i64 ((j : Int) + 1 + 1))).toNat < n - (intOf (.int .i64 ((j + 1 : Nat) : Int))).toNat := by
  show n - ((j : Int) + 1 + 1).toNat < n - (((j + 1 : Nat) : Int)).toNat
  rw [show ((j : Int) + 1 + 1).toNat = j + 2 by omega, Int.toNat_natCast]
  omega
theorem store_float {P : Program} (w : World) (a : Addr) (b : Nat) : (store a (.float .f64 b)).run P w = stored P w a (.float .f64 b) .plain := run_store P w a _ _ rfl

/-- Can a list of properties be? (the name ahead) -/
def validL : Option ByteArray → List Prp → Bool
  | _, [] => true
  | none, p :: r => nameB p.nm && p.good && validL (some p.nm) r
  | some q, p :: r => nameB p.nm && p.good && Go.Op.bytesLess q.toList p.nm.toList && validL (some p.nm) r
def validB (ps : List Prp) : Bool := validL none ps && decide (ps.length ≤ 16)
def pvN (ps : List Prp) : Nat → Option ByteArray
  | 0 => none
  | j + 1 => (ps[j]?).map Prp.nm
theorem pvN_succ {ps : List Prp} {k : Nat} {p : Prp} (h : ps[k]? = some p) : pvN ps (k + 1) = some p.nm := by show (ps[k]?).map Prp.nm = _; rw [h]; rfl

set_option maxRecDepth 100000 in
set_option maxHeartbeats 4000000 in
theorem valid_c {w : World} {v : Value} {ps : List Prp} (hp : RPr w v ps) (hsz : ∀ p ∈ ps, p.nm.size ≤ 140737488351232) :
    Calls Tryd.prog 21 #[v] w fun e w' => e = .returned (.bool (validB ps)) ∧ Below w.heap.size w w' := by
  have h63 : ps.length ≤ 9223372036854775807 := by obtain ⟨_, _, _, h1, h2, _⟩ := id hp; omega
  obtain ⟨A, c, rfl, hnc, hcell⟩ := props_at hp
  have HC := Lib.hid hcell
  have HS := Lib.hid hsz
  have H63 := Lib.hid h63
  clear h63
  have qs := store_float (P := Tryd.prog)
  obtain ⟨vb, hvb⟩ : ∃ vb, vb = validB ps := ⟨_, rfl⟩
  have HV := Lib.hid hvb
  rw [← hvb]
  clear hp hcell hsz hvb
  go_enter Tryd.func21, Tryd.ntmps21
  go_wp2_with fail
  go_loopw [7] (fun i wr => ∃ k : Nat, k ≤ ps.length ∧ i = .int .i64 k ∧ Hid (validL none ps = validL (pvN ps k) (ps.drop k)) ∧ Below w.heap.size w wr) (fun i _ => ps.length - (intOf i).toNat)
  case atStart => exact ⟨0, Nat.zero_le _, rfl, Lib.hid rfl, Below.refl _ _⟩
  case round =>
    obtain ⟨k, hk, rfl, HI, b2⟩ := hrel
    by_cases hlt : k < ps.length
    · obtain ⟨p, hp⟩ : ∃ p, ps[k]? = some p := ⟨_, List.getElem?_eq_getElem hlt⟩
      obtain ⟨a, rfl, q0, q1, q2, q3, q4⟩ := HC.out k p hp
      have hns := HS.out p (List.mem_of_getElem? hp)
      have hdk : ps.drop k = p :: ps.drop (k + 1) := by rw [List.drop_eq_getElem_cons hlt]; congr 1; rw [List.getElem?_eq_getElem hlt] at hp; injection hp
      have p0 := cell_below b2 (World.block_lt_of_cell? w _ q0) q0
      have p1 := cell_below b2 (World.block_lt_of_cell? w _ q1) q1
      have p2 := cell_below b2 (World.block_lt_of_cell? w _ q2) q2
      have p3 := cell_below b2 (World.block_lt_of_cell? w _ q3) q3
      have p4 := cell_below b2 (World.block_lt_of_cell? w _ q4) q4
      have HDK := Lib.hid hdk
      have HP := Lib.hid hp
      have b3 := b2.alloc b2.size (.cells #[.string p.nm, .int .i64 p.k, .int .i64 p.n, .string p.t, .float .f64 p.r] 48)
      obtain ⟨W, hW⟩ : ∃ W, W = wr.alloc (.cells #[.string p.nm, .int .i64 p.k, .int .i64 p.n, .string p.t, .float .f64 p.r] 48) := ⟨_, rfl⟩
      have z0 : ∀ d os, (grow (redrawn W d) os).cell? ⟨wr.heap.size, 0, none⟩ = some (.string p.nm) := fun d os => cell_regrown (by rw [hW]; exact new_cell 0 _ rfl) d os
      have z1 : ∀ d os, (grow (redrawn W d) os).cell? ⟨wr.heap.size, 1, none⟩ = some (.int .i64 p.k) := fun d os => cell_regrown (by rw [hW]; exact new_cell 1 _ rfl) d os
      have z2 : ∀ d os, (grow (redrawn W d) os).cell? ⟨wr.heap.size, 2, none⟩ = some (.int .i64 p.n) := fun d os => cell_regrown (by rw [hW]; exact new_cell 2 _ rfl) d os
      have z3 : ∀ d os, (grow (redrawn W d) os).cell? ⟨wr.heap.size, 3, none⟩ = some (.string p.t) := fun d os => cell_regrown (by rw [hW]; exact new_cell 3 _ rfl) d os
      have z4 : ∀ d os, (grow (redrawn W d) os).cell? ⟨wr.heap.size, 4, none⟩ = some (.float .f64 p.r) := fun d os => cell_regrown (by rw [hW]; exact new_cell 4 _ rfl) d os
      have HWW := Lib.hid hW
      clear hp hdk q0 q1 q2 q3 q4 hW
      cases hnm : nameB p.nm with
      | false =>
        have hvf : vb = false := by rw [HV.out]; unfold validB; rw [HI.out, HDK.out]; cases pvN ps k <;> (simp [validL, hnm])
        subst hvf
        have cN : ∀ d os, Calls Tryd.prog 42 #[.string p.nm] (grow (redrawn W d) os) fun e w'' => e = .returned (.bool false) ∧ ∃ p : Regrown, w'' = grow (redrawn W p.d) p.os := fun d os => Calls.regrown_of (by have := name_c (w := grow (redrawn W d) os) p.nm hns; rw [hnm] at this; exact this)
        go_wp2_with fail
        rw [← HWW.out]
        refine wp_region_quiet_below (by kernel_rfl) (by kernel_rfl) ?_
        repeat (go_big_quiet_step (first | exact cN _ _))
        refine wpQuiet_nil ?_
        intro _ hw'
        obtain ⟨⟨dq, osq⟩, hw''⟩ := hw'
        subst hw''
        go_wp2
        go_ret
        exact ⟨rfl, by have h := below_regrown W dq osq; rw [HWW.out] at h; rw [HWW.out]; exact b3.trans (h.mono b3.size)⟩
      | true =>
        have cN : ∀ d os, Calls Tryd.prog 42 #[.string p.nm] (grow (redrawn W d) os) fun e w'' => e = .returned (.bool true) ∧ ∃ p : Regrown, w'' = grow (redrawn W p.d) p.os := fun d os => Calls.regrown_of (by have := name_c (w := grow (redrawn W d) os) p.nm hns; rw [hnm] at this; exact this)
        cases hgd : p.good with
        | false =>
          have hvf : vb = false := by rw [HV.out]; unfold validB; rw [HI.out, HDK.out]; cases pvN ps k <;> (simp [validL, hnm, hgd])
          subst hvf
          have cG : ∀ d os, Calls Tryd.prog 43 #[.agg #[.int .i64 p.k, .int .i64 p.n, .string p.t, .float .f64 p.r]] (grow (redrawn W d) os) fun e w'' => e = .returned (.bool false) ∧ ∃ p : Regrown, w'' = grow (redrawn W p.d) p.os := fun d os => Calls.regrown_of (by have := good_c (w := grow (redrawn W d) os) p.k p.n p.t p.r; rw [show goodB p.k p.n p.t p.r = false from hgd] at this; exact this)
          go_wp2_with fail
          rw [← HWW.out]
          refine wp_region_quiet_below (by kernel_rfl) (by kernel_rfl) ?_
          repeat (go_big_quiet_step (first | exact cN _ _ | exact cG _ _))
          refine wpQuiet_nil ?_
          intro _ hw'
          obtain ⟨⟨dq, osq⟩, hw''⟩ := hw'
          subst hw''
          have bE : Below w.heap.size w (grow (redrawn W dq) osq) := by have h := below_regrown W dq osq; rw [HWW.out] at h; rw [HWW.out]; exact b3.trans (h.mono b3.size)
          go_wp2
          go_ret
          exact ⟨rfl, bE⟩
        | true =>
          have cG : ∀ d os, Calls Tryd.prog 43 #[.agg #[.int .i64 p.k, .int .i64 p.n, .string p.t, .float .f64 p.r]] (grow (redrawn W d) os) fun e w'' => e = .returned (.bool true) ∧ ∃ p : Regrown, w'' = grow (redrawn W p.d) p.os := fun d os => Calls.regrown_of (by have := good_c (w := grow (redrawn W d) os) p.k p.n p.t p.r; rw [show goodB p.k p.n p.t p.r = true from hgd] at this; exact this)
          cases k with
          | zero =>
            have h00 : a.add (0 * 5) = a := by unfold Addr.add; simp
            rw [h00] at p0 p1 p2 p3 p4
            have hnx : validL none ps = validL (pvN ps (0 + 1)) (ps.drop (0 + 1)) := by
              rw [HI.out, HDK.out, pvN_succ HP.out]
              show validL none (p :: _) = _
              simp [validL, hnm, hgd]
            go_wp2_with fail
            rw [← HWW.out]
            refine wp_region_quiet_below (by kernel_rfl) (by kernel_rfl) ?_
            repeat (go_big_quiet_step (first | exact cN _ _ | exact cG _ _))
            refine wpQuiet_nil ?_
            intro _ hw'
            obtain ⟨⟨dq, osq⟩, hw''⟩ := hw'
            subst hw''
            have bE : Below w.heap.size w (grow (redrawn W dq) osq) := by have h := below_regrown W dq osq; rw [HWW.out] at h; rw [HWW.out]; exact b3.trans (h.mono b3.size)
            go_wp2
            go_roundw
            case rel => exact ⟨0 + 1, by omega, by go_num, Lib.hid hnx, bE⟩
            case measure => simp [intOf]; omega
          | succ j =>
            obtain ⟨q, hq⟩ : ∃ q, ps[j]? = some q := ⟨_, List.getElem?_eq_getElem (by omega)⟩
            obtain ⟨a', ha', g0, _, _, _, _⟩ := HC.out j q hq
            injection ha' with ha'
            subst ha'
            have z5 : ∀ d os, (grow (redrawn W d) os).cell? (a.add (j * 5)) = some (.string q.nm) := fun d os => cell_regrown (by have h := cell_below b3 (World.block_lt_of_cell? w _ g0) g0; rw [HWW.out]; exact h) d os
            have hpv : pvN ps (j + 1) = some q.nm := pvN_succ hq
            have hjn : (j : Int) < ps.length := by omega
            have hwk : wrap64 ((j : Int) + 1 + 1) = (j : Int) + 1 + 1 := by have := H63.out; unfold wrap64; omega
            have hwj : wrap64 (j : Int) = j := by have := H63.out; unfold wrap64; omega
            have HQ := Lib.hid hpv
            clear hq hpv g0
            cases hls : Go.Op.bytesLess q.nm.toList p.nm.toList with
            | false =>
              have hvf : vb = false := by rw [HV.out]; unfold validB; rw [HI.out, HDK.out, HQ.out]; simp [validL, hls]
              subst hvf
              go_wp2_with fail
              rw [← HWW.out]
              refine wp_region_quiet_below (by kernel_rfl) (by kernel_rfl) ?_
              repeat (go_big_quiet_step (first | exact cN _ _ | exact cG _ _))
              refine wpQuiet_nil ?_
              intro _ hw'
              obtain ⟨⟨dq, osq⟩, hw''⟩ := hw'
              subst hw''
              have bE : Below w.heap.size w (grow (redrawn W dq) osq) := by have h := below_regrown W dq osq; rw [HWW.out] at h; rw [HWW.out]; exact b3.trans (h.mono b3.size)
              go_wp2
              go_ret
              exact ⟨rfl, bE⟩
            | true =>
              have hnx : validL none ps = validL (pvN ps (j + 1 + 1)) (ps.drop (j + 1 + 1)) := by
                rw [HI.out, HDK.out, HQ.out, pvN_succ HP.out]
                simp [validL, hnm, hgd, hls]
              go_wp2_with fail
              rw [← HWW.out]
              refine wp_region_quiet_below (by kernel_rfl) (by kernel_rfl) ?_
              repeat (go_big_quiet_step (first | exact cN _ _ | exact cG _ _))
              refine wpQuiet_nil ?_
              intro _ hw'
              obtain ⟨⟨dq, osq⟩, hw''⟩ := hw'
              subst hw''
              have bE : Below w.heap.size w (grow (redrawn W dq) osq) := by have h := below_regrown W dq osq; rw [HWW.out] at h; rw [HWW.out]; exact b3.trans (h.mono b3.size)
              go_wp2
              go_roundw
              case rel => exact ⟨(j + 1) + 1, by omega, by go_num, Lib.hid hnx, bE⟩
              case measure => rw [hwk]; exact round_less hlt
    · have hk2 : k = ps.length := by omega
      subst hk2
      have hvt : vb = decide (ps.length ≤ 16) := by rw [HV.out]; unfold validB; rw [HI.out, List.drop_length]; cases pvN ps ps.length <;> rfl
      subst hvt
      clear hlt
      go_wp2_with fail
      go_ret
      exact ⟨by first | rfl | (simp; omega), b2⟩
end Go.Proofs.YteigbejidfkhpaaDoor

/- Floats, plain laws: when two words are equal; a number that a float32 holds is not rounded away. -/
namespace Go.Proofs.YteigbejidfkhpaaDoor.FloatL
open Ieee
set_option linter.unusedSimpArgs false
set_option linter.unusedVariables false

theorem S_least : single.leastPlace = -149 := by decide
theorem D_least : double.leastPlace = -1074 := by decide
theorem S_bin : single.binade = 2 ^ 23 := rfl
theorem D_bin : double.binade = 2 ^ 52 := rfl
theorem S_inf : single.infRung = 255 * 2 ^ 23 := by decide
theorem D_inf : double.infRung = 2047 * 2 ^ 52 := by decide
theorem S_sgn : single.signWeight = 2 ^ 31 := by decide
theorem D_sgn : double.signWeight = 2 ^ 63 := by decide

/-- A finite word: sign, magnitude, place. -/
structure Fin (f : Format) (x : Nat) (s : Bool) (m : Nat) (e : Int) : Prop where
  read : f.read x = .number s m e
  sign : s = (x / f.signWeight % 2 == 1)
  rung : x % f.signWeight = (e - f.leastPlace).toNat * f.binade + m
  low : f.leastPlace ≤ e
  mag : m < 2 * f.binade
  norm : f.binade ≤ m ∨ e = f.leastPlace
  top : x % f.signWeight < f.infRung

theorem fin_of {f : Format} {x : Nat} {s : Bool} {m : Nat} {e : Int} (hb : 0 < f.binade) (hi : f.binade ≤ f.infRung) (h : f.read x = .number s m e) : Fin f x s m e := by
  have h0 := h
  unfold Format.read at h
  dsimp only at h
  split at h
  · rename_i h1
    injection h with a b c
    subst a b c
    exact ⟨h0, rfl, by simp, by omega, by omega, .inr rfl, by omega⟩
  · rename_i h1
    split at h
    · rename_i h2
      injection h with a b c
      subst a b c
      generalize hr : x % f.signWeight = r at *
      have hq : 1 ≤ r / f.binade := (Nat.le_div_iff_mul_le hb).2 (by omega)
      have hm : r % f.binade < f.binade := Nat.mod_lt _ hb
      have hd := Nat.div_add_mod r f.binade
      refine ⟨h0, by rw [hr] at *, ?_, by omega, by omega, .inl (by omega), by rw [hr]; exact h2⟩
      rw [hr, show (f.leastPlace + ((r / f.binade - 1 : Nat) : Int) - f.leastPlace).toNat = r / f.binade - 1 by omega]
      have : (r / f.binade - 1) * f.binade + f.binade = r / f.binade * f.binade := by
        rw [← Nat.succ_mul]; congr 1; omega
      rw [Nat.mul_comm] at hd
      omega
    · split at h <;> cases h
theorem S_fin {x : Nat} {s : Bool} {m : Nat} {e : Int} (h : single.read x = .number s m e) : Fin single x s m e := fin_of (by decide) (by decide) h
theorem D_fin {x : Nat} {s : Bool} {m : Nat} {e : Int} (h : double.read x = .number s m e) : Fin double x s m e := fin_of (by decide) (by decide) h

theorem shl (m k : Nat) : m <<< k = m * 2 ^ k := Nat.shiftLeft_eq m k
/-- Two numbers that are alike are zeros, or the same. -/
theorem signed_eq {s t : Bool} {m n a : Nat} (h : signed s m 0 = signed t n a) : (m = 0 ∧ n = 0) ∨ (s = t ∧ m = n * 2 ^ a) := by
  unfold signed at h
  rw [shl, shl, Nat.pow_zero, Nat.mul_one] at h
  have hp : 0 < 2 ^ a := Nat.pow_pos (by decide)
  by_cases hm : m = 0
  · left
    refine ⟨hm, ?_⟩
    subst hm
    have : n * 2 ^ a = 0 := by
      generalize n * 2 ^ a = q at h ⊢
      cases s <;> cases t <;> simp at h <;> omega
    rcases Nat.mul_eq_zero.1 this with h | h
    · exact h
    · omega
  · right
    generalize n * 2 ^ a = q at *
    cases s <;> cases t <;> simp at h <;> first | exact ⟨rfl, by omega⟩ | (exfalso; omega)

theorem num_eq {f : Format} {s t : Bool} {m n : Nat} {i j : Int} (hm : m < 2 * f.binade) (hn : n < 2 * f.binade) (hi : f.leastPlace ≤ i) (hj : f.leastPlace ≤ j) (ni : f.binade ≤ m ∨ i = f.leastPlace) (nj : f.binade ≤ n ∨ j = f.leastPlace)
    (h : Datum.order (.number s m i) (.number t n j) = some .eq) : (m = 0 ∧ n = 0) ∨ (s = t ∧ m = n ∧ i = j) := by
  unfold Datum.order at h
  dsimp only at h
  have he : signed s m (i - min i j).toNat = signed t n (j - min i j).toNat := by
    injection h with h
    exact Int.compare_eq_eq.1 h
  by_cases hij : i ≤ j
  · rw [Int.min_eq_left hij, show (i - i).toNat = 0 by omega] at he
    rcases signed_eq he with h0 | ⟨hs, hmn⟩
    · exact .inl h0
    · by_cases hd : j = i
      · subst hd
        rw [show (j - j).toNat = 0 by omega, Nat.pow_zero, Nat.mul_one] at hmn
        exact .inr ⟨hs, hmn, rfl⟩
      · exfalso
        have hb : f.binade ≤ n := nj.resolve_right (by omega)
        obtain ⟨k, hk⟩ : ∃ k, (j - i).toNat = k + 1 := ⟨(j - i).toNat - 1, by omega⟩
        rw [hk, Nat.pow_succ, ← Nat.mul_assoc] at hmn
        have hp : 1 ≤ 2 ^ k := Nat.one_le_two_pow
        have := Nat.mul_le_mul hb hp
        omega
  · rw [Int.min_eq_right (by omega), show (j - j).toNat = 0 by omega] at he
    rcases signed_eq he.symm with h0 | ⟨hs, hmn⟩
    · exact .inl ⟨h0.2, h0.1⟩
    · exfalso
      have hb : f.binade ≤ m := ni.resolve_right (by omega)
      obtain ⟨k, hk⟩ : ∃ k, (i - j).toNat = k + 1 := ⟨(i - j).toNat - 1, by omega⟩
      rw [hk, Nat.pow_succ, ← Nat.mul_assoc] at hmn
      have hp : 1 ≤ 2 ^ k := Nat.one_le_two_pow
      have := Nat.mul_le_mul hb hp
      omega
/-- Two float64 that are equal: both zeros, or the same word. -/
theorem order_eq {x y : Nat} (hx : x < 2 ^ 64) (hy : y < 2 ^ 64) (h : double.order x y = some .eq) : (x % 2 ^ 63 = 0 ∧ y % 2 ^ 63 = 0) ∨ x = y := by
  unfold Format.order at h
  have hinf : ∀ (z : Nat) (s : Bool), double.read z = .infinity s → s = (z / 2 ^ 63 % 2 == 1) ∧ z % 2 ^ 63 = 2047 * 2 ^ 52 := by
    intro z s hz
    unfold Format.read at hz
    dsimp only at hz
    rw [D_sgn, D_inf] at hz
    split at hz
    · cases hz
    · split at hz
      · cases hz
      · split at hz
        · rename_i h3; injection hz with hz; exact ⟨hz.symm, h3⟩
        · cases hz
  have hsb : ∀ z : Nat, z < 2 ^ 64 → (z / 2 ^ 63 % 2 = 0 ∧ z = z % 2 ^ 63) ∨ (z / 2 ^ 63 % 2 = 1 ∧ z = 2 ^ 63 + z % 2 ^ 63) := by intro z hz; omega
  cases hrx : double.read x with
  | nan s t => rw [hrx] at h; cases h
  | infinity s =>
    rw [hrx] at h
    cases hry : double.read y with
    | nan s t => rw [hry] at h; cases h
    | number t n j => rw [hry] at h; cases s <;> cases h
    | infinity t =>
      rw [hry] at h
      obtain ⟨h1, h2⟩ := hinf x s hrx
      obtain ⟨h3, h4⟩ := hinf y t hry
      right
      have hst : s = t := by cases s <;> cases t <;> first | rfl | (exact absurd h (by decide))
      rw [hst, h3] at h1
      rcases hsb x hx with ⟨a, b⟩ | ⟨a, b⟩ <;> rcases hsb y hy with ⟨c, d⟩ | ⟨c, d⟩ <;> rw [a, c] at h1 <;> first | omega | (exact absurd h1 (by decide))
  | number s m i =>
    rw [hrx] at h
    cases hry : double.read y with
    | nan s t => rw [hry] at h; cases h
    | infinity t => rw [hry] at h; cases t <;> cases h
    | number t n j =>
      rw [hry] at h
      have fx := D_fin hrx
      have fy := D_fin hry
      have r1 := fx.rung
      have r2 := fy.rung
      have s1 := fx.sign
      have s2 := fy.sign
      have l1 := fx.low
      have l2 := fy.low
      have n1 := fx.norm
      have n2 := fy.norm
      have hmm := num_eq fx.mag fy.mag l1 l2 n1 n2 h
      rw [D_sgn] at r1 r2 s1 s2
      rcases hmm with ⟨h0, h1⟩ | ⟨hs, hm, hi⟩
      · left
        subst h0 h1
        have e1 : i = double.leastPlace := n1.resolve_left (by decide)
        have e2 : j = double.leastPlace := n2.resolve_left (by decide)
        subst e1 e2
        rw [r1, r2, D_least]
        exact ⟨by simp, by simp⟩
      · right
        subst hs hm hi
        rw [s1] at s2
        rcases hsb x hx with ⟨a, b⟩ | ⟨a, b⟩ <;> rcases hsb y hy with ⟨c, d⟩ | ⟨c, d⟩ <;> rw [a, c] at s2 <;> first | (rw [b, d, r1, r2]; done) | (exact absurd s2 (by decide))

theorem log2_eq {m k : Nat} (h0 : 2 ^ k ≤ m) (h1 : m < 2 ^ (k + 1)) : m.log2 = k := by
  have hm : m ≠ 0 := by have := Nat.one_le_two_pow (n := k); omega
  have a := (Nat.le_log2 hm).2 h0
  have b := (Nat.log2_lt hm).2 h1
  omega
theorem read_word {f : Format} (hs : 0 < f.signWeight) (s : Bool) (r : Nat) (hr : r < f.signWeight) : (f.word s r) / f.signWeight % 2 = s.toNat ∧ (f.word s r) % f.signWeight = r := by
  unfold Format.word
  cases s with
  | false =>
    simp only [Bool.false_eq_true, if_false]
    rw [Nat.div_eq_of_lt hr, Nat.mod_eq_of_lt hr]
    exact ⟨rfl, rfl⟩
  | true =>
    simp only [if_true]
    rw [Nat.add_div_left _ hs, Nat.div_eq_of_lt hr, Nat.add_mod_left, Nat.mod_eq_of_lt hr]
    exact ⟨rfl, rfl⟩

/-- A float32's number, written as a float64 and read again: the same number, its magnitude brought to 53 digits. -/
theorem widen_read {s : Bool} {m : Nat} {e : Int} (hm0 : m ≠ 0) (hm : m < 2 ^ 24) (he0 : -149 ≤ e) (he1 : e ≤ 104) :
    double.read (double.write (.number s m e)) = .number s (m * 2 ^ (52 - m.log2)) (e + m.log2 - 52) := by
  obtain ⟨l, hl⟩ : ∃ l, l = m.log2 := ⟨_, rfl⟩
  have h1 : 2 ^ l ≤ m := by rw [hl]; exact Nat.log2_self_le hm0
  have h2 : m < 2 ^ (l + 1) := by rw [hl]; exact Nat.lt_log2_self
  have hl23 : l ≤ 23 := by
    have := (Nat.log2_lt hm0).2 hm
    omega
  rw [← hl]
  have hM0 : 2 ^ 52 ≤ m * 2 ^ (52 - l) := by
    have : 2 ^ l * 2 ^ (52 - l) = 2 ^ 52 := by rw [← Nat.pow_add]; congr 1; omega
    rw [← this]
    exact Nat.mul_le_mul_right _ h1
  have hM1 : m * 2 ^ (52 - l) < 2 ^ 53 := by
    have : 2 ^ (l + 1) * 2 ^ (52 - l) = 2 ^ 53 := by rw [← Nat.pow_add]; congr 1; omega
    rw [← this]
    exact Nat.mul_lt_mul_of_pos_right h2 (Nat.pow_pos (by decide))
  show double.read (double.nearest s m e) = _
  unfold Format.nearest
  rw [if_neg hm0, ← hl, D_least]
  dsimp only
  rw [show (double.fractionBits : Int) = 52 from rfl, show max (e + (l : Int) - 52) (-1074) = e + l - 52 by omega, show (e - (e + (l : Int) - 52)).toNat = 52 - l by omega, show (e + (l : Int) - 52 - e).toNat = 0 by omega, shl]
  have hcut : Toward.even.cut s (m * 2 ^ (52 - l)) 0 = m * 2 ^ (52 - l) := by
    unfold Toward.cut
    simp [Nat.mod_one]
  rw [hcut, D_bin, D_inf]
  obtain ⟨K, hK⟩ : ∃ K : Nat, (e + (l : Int) - 52 - -1074).toNat = K := ⟨_, rfl⟩
  rw [hK]
  have hK1 : 873 ≤ K := by omega
  have hK2 : K ≤ 1149 := by omega
  have hKe : e + (l : Int) - 52 = (K : Int) - 1074 := by omega
  generalize m * 2 ^ (52 - l) = M at *
  rw [Nat.min_eq_left (by omega)]
  obtain ⟨r1, r2⟩ := read_word (f := double) (by decide) s (K * 2 ^ 52 + M) (by rw [D_sgn]; omega)
  unfold Format.read
  dsimp only
  rw [r1, r2, D_bin, D_inf, if_neg (by omega), if_pos (by omega), D_least]
  rw [show (K * 2 ^ 52 + M) / 2 ^ 52 - 1 = K by omega, show (K * 2 ^ 52 + M) % 2 ^ 52 = M - 2 ^ 52 by omega, show 2 ^ 52 + (M - 2 ^ 52) = M by omega, hKe]
  congr 1
  cases s <;> rfl

/-- .. and written as a float32: no infinity. -/
theorem narrow_fin {s : Bool} {m : Nat} {e : Int} (hm0 : m ≠ 0) (hm : m < 2 ^ 24) (he0 : -149 ≤ e) (he1 : e ≤ 104) (hn : 2 ^ 23 ≤ m ∨ e = -149) :
    (single.read (single.write (.number s (m * 2 ^ (52 - m.log2)) (e + m.log2 - 52)))).isInfinity = false := by
  obtain ⟨l, hl⟩ : ∃ l, l = m.log2 := ⟨_, rfl⟩
  have h1 : 2 ^ l ≤ m := by rw [hl]; exact Nat.log2_self_le hm0
  have h2 : m < 2 ^ (l + 1) := by rw [hl]; exact Nat.lt_log2_self
  have hl23 : l ≤ 23 := by
    have := (Nat.log2_lt hm0).2 hm
    omega
  have hl23' : 2 ^ 23 ≤ m → l = 23 := fun h => by rw [hl]; exact log2_eq h hm
  rw [← hl]
  have hM0 : 2 ^ 52 ≤ m * 2 ^ (52 - l) := by
    have : 2 ^ l * 2 ^ (52 - l) = 2 ^ 52 := by rw [← Nat.pow_add]; congr 1; omega
    rw [← this]
    exact Nat.mul_le_mul_right _ h1
  have hM1 : m * 2 ^ (52 - l) < 2 ^ 53 := by
    have : 2 ^ (l + 1) * 2 ^ (52 - l) = 2 ^ 53 := by rw [← Nat.pow_add]; congr 1; omega
    rw [← this]
    exact Nat.mul_lt_mul_of_pos_right h2 (Nat.pow_pos (by decide))
  have hlog : (m * 2 ^ (52 - l)).log2 = 52 := log2_eq hM0 hM1
  have hMne : m * 2 ^ (52 - l) ≠ 0 := by omega
  show (single.read (single.nearest s (m * 2 ^ (52 - l)) (e + l - 52))).isInfinity = false
  unfold Format.nearest
  rw [if_neg hMne, hlog, S_least]
  dsimp only
  have hmax : max (e + (l : Int) - 52 + ((52 : Nat) : Int) - ((single.fractionBits : Nat) : Int)) (-149) = e := by
    rw [show ((single.fractionBits : Nat) : Int) = 23 from rfl]
    rcases hn with h | h
    · rw [hl23' h]; omega
    · omega
  rw [hmax, show (e + (l : Int) - 52 - e).toNat = 0 by omega, shl, Nat.pow_zero, Nat.mul_one, show (e - (e + (l : Int) - 52)).toNat = 52 - l by omega]
  have hcut : Toward.even.cut s (m * 2 ^ (52 - l)) (52 - l) = m := by
    unfold Toward.cut
    dsimp only
    rw [hlog, Nat.min_eq_left (by omega), shl, Nat.one_mul]
    have hp : 0 < 2 ^ (52 - l) := Nat.pow_pos (by decide)
    rw [Nat.mul_div_cancel _ hp, Nat.mul_mod_left]
    simp
  rw [hcut, S_bin, S_inf]
  obtain ⟨K, hK⟩ : ∃ K : Nat, (e - -149).toNat = K := ⟨_, rfl⟩
  rw [hK]
  have hK2 : K ≤ 253 := by omega
  rw [Nat.min_eq_left (by omega)]
  obtain ⟨r1, r2⟩ := read_word (f := single) (by decide) s (K * 2 ^ 23 + m) (by rw [S_sgn]; omega)
  unfold Format.read
  dsimp only
  rw [r2, S_bin, S_inf]
  split
  · rfl
  · rw [if_pos (by omega)]
    rfl

/-- A float32 f that is a number, as a float64, equals x: then x, brought to a float32, is no infinity. -/
theorem fit_fin {x f : Nat} (hx : x < 2 ^ 64) {s0 : Bool} {m0 : Nat} {e0 : Int} (hrx : double.read x = .number s0 m0 e0) {s : Bool} {m : Nat} {e : Int} (hrf : single.read f = .number s m e)
    (h : double.order (double.write (.number s m e)) x = some .eq) : (single.read (single.write (.number s0 m0 e0))).isInfinity = false := by
  have ff := S_fin hrf
  have fx := D_fin hrx
  have hm : m < 2 ^ 24 := ff.mag
  have he0 : -149 ≤ e := by have := ff.low; rwa [S_least] at this
  have hn : 2 ^ 23 ≤ m ∨ e = -149 := by have := ff.norm; rwa [S_least] at this
  have he1 : e ≤ 104 := by
    have h1 := ff.rung
    have h2 := ff.top
    rw [h1, S_inf, S_bin, S_least] at h2
    rcases hn with h | h
    · omega
    · omega
  have hz : ∀ (s : Bool) (e : Int), (single.read (single.write (.number s 0 e))).isInfinity = false := by
    intro s e
    have : single.write (.number s 0 e) = single.word s 0 := rfl
    rw [this]
    cases s <;> decide
  unfold Format.order at h
  rw [hrx] at h
  by_cases hm0 : m = 0
  · subst hm0
    have hw : double.write (.number s 0 e) = double.word s 0 := rfl
    have hr : double.read (double.word s 0) = .number s 0 (-1074) := by cases s <;> decide
    rw [hw, hr] at h
    rcases num_eq (f := double) (by decide) fx.mag (by rw [D_least]; omega) fx.low (.inr (by rw [D_least])) fx.norm h with ⟨_, h0⟩ | ⟨_, h0, _⟩
    · rw [h0]; exact hz _ _
    · rw [← h0]; exact hz _ _
  · rw [widen_read hm0 hm he0 he1] at h
    have h1 : 2 ^ m.log2 ≤ m := Nat.log2_self_le hm0
    have h2 : m < 2 ^ (m.log2 + 1) := Nat.lt_log2_self
    have hl23 : m.log2 ≤ 23 := by
      have := (Nat.log2_lt hm0).2 hm
      omega
    have hM0 : 2 ^ 52 ≤ m * 2 ^ (52 - m.log2) := by
      have : 2 ^ m.log2 * 2 ^ (52 - m.log2) = 2 ^ 52 := by rw [← Nat.pow_add]; congr 1; omega
      rw [← this]
      exact Nat.mul_le_mul_right _ h1
    have hM1 : m * 2 ^ (52 - m.log2) < 2 ^ 53 := by
      have : 2 ^ (m.log2 + 1) * 2 ^ (52 - m.log2) = 2 ^ 53 := by rw [← Nat.pow_add]; congr 1; omega
      rw [← this]
      exact Nat.mul_lt_mul_of_pos_right h2 (Nat.pow_pos (by decide))
    rcases num_eq (f := double) (by rw [D_bin]; omega) fx.mag (by rw [D_least]; omega) fx.low (.inl (by rw [D_bin]; exact hM0)) fx.norm h with ⟨h0, _⟩ | ⟨hs, hM, hE⟩
    · omega
    · rw [← hs, ← hM, ← hE]
      exact narrow_fin hm0 hm he0 he1 hn

/-- A float32 that is a number is no infinity as a float64. -/
theorem widen_fin {f : Nat} {s : Bool} {m : Nat} {e : Int} (hrf : single.read f = .number s m e) : (double.read (double.write (.number s m e))).isInfinity = false := by
  have ff := S_fin hrf
  have hm : m < 2 ^ 24 := ff.mag
  have he0 : -149 ≤ e := by have := ff.low; rwa [S_least] at this
  have hn : 2 ^ 23 ≤ m ∨ e = -149 := by have := ff.norm; rwa [S_least] at this
  have he1 : e ≤ 104 := by
    have h1 := ff.rung
    have h2 := ff.top
    rw [h1, S_inf, S_bin, S_least] at h2
    rcases hn with h | h
    · omega
    · omega
  by_cases hm0 : m = 0
  · subst hm0
    have hw : double.write (.number s 0 e) = double.word s 0 := rfl
    rw [hw]
    cases s <;> decide
  · rw [widen_read hm0 hm he0 he1]
    rfl
/-- The words that the tape may give for a NaN are NaNs. -/
theorem nan_read (t : Nat) : ∃ s n, double.read ((t % 2) * 2 ^ 63 + 0x7ff0000000000000 + 1 + (t / 2) % (2 ^ 52 - 1)) = .nan s n := by
  unfold Format.read
  dsimp only
  rw [D_sgn, D_bin, D_inf]
  have h1 : t % 2 < 2 := Nat.mod_lt _ (by decide)
  have h2 : (t / 2) % (2 ^ 52 - 1) < 2 ^ 52 - 1 := Nat.mod_lt _ (by decide)
  generalize t % 2 = a at *
  generalize (t / 2) % (2 ^ 52 - 1) = b at *
  have h3 : (a * 2 ^ 63 + 0x7ff0000000000000 + 1 + b) % 2 ^ 63 = 0x7ff0000000000000 + 1 + b := by omega
  rw [h3, if_neg (by omega), if_neg (by omega), if_neg (by omega)]
  exact ⟨_, _, rfl⟩
end Go.Proofs.YteigbejidfkhpaaDoor.FloatL

/- Layer 6: Narrow. -/
namespace Go.Proofs.YteigbejidfkhpaaDoor
open Go Go.RowKit
set_option linter.unusedSimpArgs false
set_option linter.unusedVariables false

/-- A float32 as a float64 (none: a NaN, of whatever bits). -/
def widenE (f : Nat) : Option Nat :=
  match Ieee.single.read f with
  | .number s m e => some (Ieee.double.write (.number s m e))
  | .infinity s => some (Ieee.double.write (.infinity s))
  | .nan _ _ => none
/-- The 32 bits that a float fits. -/
def narB (r : Nat) : Option Nat :=
  if nanB r = true then some 2143289344
  else match Ieee.double.read r with
  | .nan _ _ => none
  | .infinity s => some (Ieee.single.write (.infinity s))
  | .number s m e =>
    if (Ieee.single.read (Ieee.single.write (.number s m e))).isInfinity = true then none
    else match widenE (Ieee.single.write (.number s m e)) with
    | some v => if Ieee.double.order v r = some .eq then some (Ieee.single.write (.number s m e)) else none
    | none => none

theorem bits32_run (w : World) (r : Nat) : (callFunc 69 #[.float .f32 r]).run Tryd.prog w = .ok (.value (.int .u32 r)) w := by
  rw [run_callFunc_extern (e := Extern.MathFloatBits.float32bits) Tryd.func69 (by kernel_rfl) (by kernel_rfl) (by kernel_rfl) (by kernel_rfl)]
  rfl

theorem to32_num {r : Nat} {s : Bool} {m : Nat} {e : Int} (h : Ieee.double.read r = .number s m e) (hi : (Ieee.single.read (Ieee.single.write (.number s m e))).isInfinity = false) (w : World) :
    (convert 41 95 (.float .f64 r)).run Tryd.prog w = .ok (.float .f32 (Ieee.single.write (.number s m e))) w := by
  refine run_convert_float_float (w := w) _ _ .f64 .f32 r _ (by rw [Tryd.underlying41]; rfl) Tryd.underlying95 ?_
  have h' : FloatKind.f64.decode r = .number s m e := h
  have hi' : (FloatKind.f32.decode (FloatKind.f32.encode (.number s m e))).isInfinity = false := hi
  unfold floatToFloatBits
  rw [if_neg (by decide), h']
  simp only [hi', Bool.false_eq_true, if_false]
  rfl
theorem to32_inf {r : Nat} {s : Bool} (h : Ieee.double.read r = .infinity s) (w : World) :
    (convert 41 95 (.float .f64 r)).run Tryd.prog w = .ok (.float .f32 (Ieee.single.write (.infinity s))) w := by
  refine run_convert_float_float (w := w) _ _ .f64 .f32 r _ (by rw [Tryd.underlying41]; rfl) Tryd.underlying95 ?_
  have h' : FloatKind.f64.decode r = .infinity s := h
  unfold floatToFloatBits
  rw [if_neg (by decide), h']
  rfl
theorem to32_over {r : Nat} {s : Bool} {m : Nat} {e : Int} (h : Ieee.double.read r = .number s m e) (hi : (Ieee.single.read (Ieee.single.write (.number s m e))).isInfinity = true) (w : World) :
    ∃ f, (convert 41 95 (.float .f64 r)).run Tryd.prog w = .ok (.float .f32 f) w.drew := by
  have h' : FloatKind.f64.decode r = .number s m e := h
  have hi' : (FloatKind.f32.decode (FloatKind.f32.encode (.number s m e))).isInfinity = true := hi
  have u1 := Tryd.underlying41
  have u2 := Tryd.underlying95
  refine ⟨(Question.floatToFloat r).cut (w.tape w.drawn (.floatToFloat r)), ?_⟩
  simp [convert, run_underlying u1, run_underlying u2, Conv.floatToFloat, h', hi', Question.forced]
theorem to64_num {f : Nat} {s : Bool} {m : Nat} {e : Int} (h : Ieee.single.read f = .number s m e) (w : World) :
    (convert 95 41 (.float .f32 f)).run Tryd.prog w = .ok (.float .f64 (Ieee.double.write (.number s m e))) w := by
  refine run_convert_float_float (w := w) _ _ .f32 .f64 f _ (by rw [Tryd.underlying95]; rfl) Tryd.underlying41 ?_
  have h' : FloatKind.f32.decode f = .number s m e := h
  have hi' : (FloatKind.f64.decode (FloatKind.f64.encode (.number s m e))).isInfinity = false := FloatL.widen_fin h
  unfold floatToFloatBits
  rw [if_neg (by decide), h']
  simp only [hi', Bool.false_eq_true, if_false]
  rfl
theorem to64_inf {f : Nat} {s : Bool} (h : Ieee.single.read f = .infinity s) (w : World) :
    (convert 95 41 (.float .f32 f)).run Tryd.prog w = .ok (.float .f64 (Ieee.double.write (.infinity s))) w := by
  refine run_convert_float_float (w := w) _ _ .f32 .f64 f _ (by rw [Tryd.underlying95]; rfl) Tryd.underlying41 ?_
  have h' : FloatKind.f32.decode f = .infinity s := h
  unfold floatToFloatBits
  rw [if_neg (by decide), h']
  rfl
theorem to64_nan {f : Nat} {s : Bool} {t : Nat} (h : Ieee.single.read f = .nan s t) (w : World) :
    ∃ b, (convert 95 41 (.float .f32 f)).run Tryd.prog w = .ok (.float .f64 b) w.drew ∧ ∀ r, Ieee.double.order b r = none := by
  have h' : FloatKind.f32.decode f = .nan s t := h
  have u1 := Tryd.underlying41
  have u2 := Tryd.underlying95
  refine ⟨(Question.nanConv .f64 f).cut (w.tape w.drawn (.nanConv .f64 f)), ?_, fun r => ?_⟩
  · simp [convert, run_underlying u1, run_underlying u2, Conv.floatToFloat, h', Question.forced]
  · obtain ⟨a, b, hab⟩ := FloatL.nan_read (w.tape w.drawn (.nanConv .f64 f))
    have e : Ieee.double.read ((Question.nanConv .f64 f).cut (w.tape w.drawn (.nanConv .f64 f))) = .nan a b := hab
    unfold Ieee.Format.order
    rw [e]
    rfl

/-- The one way: what is f, what is it as a float64, does it fit. -/
theorem nar_nan {r : Nat} (h : nanB r = false) : ∀ s t, Ieee.double.read r ≠ .nan s t := by
  intro s t e
  unfold nanB at h
  have : Ieee.double.order r r = none := by unfold Ieee.Format.order; rw [e]; rfl
  rw [show FloatKind.f64.format.order r r = none from this] at h
  exact absurd h (by decide)

set_option maxRecDepth 100000 in
set_option maxHeartbeats 1000000 in
theorem narrow_yes {w w1 w2 : World} {r f b : Nat} (hn : (FloatKind.f64.format.order r r != some .eq) = false) (c1 : (convert 41 95 (.float .f64 r)).run Tryd.prog w = .ok (.float .f32 f) w1) (c2 : (convert 95 41 (.float .f32 f)).run Tryd.prog w1 = .ok (.float .f64 b) w2)
    (ho : (FloatKind.f64.format.order b r != some .eq) = false) (hb : Below w.heap.size w w2) :
    Calls Tryd.prog 55 #[.float .f64 r] w fun e w' => e = .returned (.tuple #[.int .u32 f, .bool true]) ∧ Below w.heap.size w w' := by
  have q32 := bits32_run
  have HB := Lib.hid hb
  clear hb
  go_enter Tryd.func55, Tryd.ntmps55
  go_wp2_with fail
  go_ret2
  exact ⟨rfl, HB.out⟩
set_option maxRecDepth 100000 in
set_option maxHeartbeats 1000000 in
theorem narrow_no {w w1 w2 : World} {r f b : Nat} (hn : (FloatKind.f64.format.order r r != some .eq) = false) (c1 : (convert 41 95 (.float .f64 r)).run Tryd.prog w = .ok (.float .f32 f) w1) (c2 : (convert 95 41 (.float .f32 f)).run Tryd.prog w1 = .ok (.float .f64 b) w2)
    (ho : (FloatKind.f64.format.order b r != some .eq) = true) (hb : Below w.heap.size w w2) :
    Calls Tryd.prog 55 #[.float .f64 r] w fun e w' => e = .returned (.tuple #[.int .u32 0, .bool false]) ∧ Below w.heap.size w w' := by
  have HB := Lib.hid hb
  clear hb
  go_enter Tryd.func55, Tryd.ntmps55
  go_wp2_with fail
  go_ret2
  exact ⟨rfl, HB.out⟩
theorem narB_num {r : Nat} {s : Bool} {m : Nat} {e : Int} (hn : nanB r = false) (hrd : Ieee.double.read r = .number s m e) (hi : (Ieee.single.read (Ieee.single.write (.number s m e))).isInfinity = false) :
    narB r = (match widenE (Ieee.single.write (.number s m e)) with | some v => if Ieee.double.order v r = some .eq then some (Ieee.single.write (.number s m e)) else none | none => none) := by
  unfold narB
  rw [if_neg (by rw [hn]; decide), hrd]
  show (if _ then _ else _) = _
  rw [if_neg (by rw [hi]; decide)]
theorem narB_some {r v : Nat} {s : Bool} {m : Nat} {e : Int} (hn : nanB r = false) (hrd : Ieee.double.read r = .number s m e) (hi : (Ieee.single.read (Ieee.single.write (.number s m e))).isInfinity = false) (hw : widenE (Ieee.single.write (.number s m e)) = some v) :
    narB r = if Ieee.double.order v r = some .eq then some (Ieee.single.write (.number s m e)) else none := by
  rw [narB_num hn hrd hi, hw]
theorem narB_none {r : Nat} {s : Bool} {m : Nat} {e : Int} (hn : nanB r = false) (hrd : Ieee.double.read r = .number s m e) (hi : (Ieee.single.read (Ieee.single.write (.number s m e))).isInfinity = false) (hw : widenE (Ieee.single.write (.number s m e)) = none) :
    narB r = none := by
  rw [narB_num hn hrd hi, hw]
theorem neq_none {o : Option Ordering} (h : o = none) : (o != some .eq) = true := by rw [h]; rfl
theorem neq_not {o : Option Ordering} (h : ¬ o = some .eq) : (o != some .eq) = true := by
  cases o with
  | none => rfl
  | some x => cases x <;> first | rfl | (exact absurd rfl h)
theorem neq_eq {o : Option Ordering} (h : o = some .eq) : (o != some .eq) = false := by rw [h]; rfl

set_option maxRecDepth 100000 in
set_option maxHeartbeats 2000000 in
theorem narrow_c {w : World} (r : Nat) (hr : r < 18446744073709551616) :
    Calls Tryd.prog 55 #[.float .f64 r] w fun e w' => e = .returned (.tuple #[.int .u32 ((narB r).getD 0 : Nat), .bool (narB r).isSome]) ∧ Below w.heap.size w w' := by
  have q32 := bits32_run
  cases hn : nanB r with
  | true =>
    have e : narB r = some 2143289344 := by unfold narB; rw [if_pos hn]
    rw [e]
    clear e
    unfold nanB at hn
    go_enter Tryd.func55, Tryd.ntmps55
    go_wp2_with fail
    go_ret2
    exact ⟨rfl, Below.refl _ _⟩
  | false =>
    have hn' : (FloatKind.f64.format.order r r != some .eq) = false := hn
    have b0 := Below.refl w.heap.size w
    cases hrd : Ieee.double.read r with
    | nan s t => exact absurd hrd (nar_nan hn s t)
    | infinity s =>
      have hrf : Ieee.single.read (Ieee.single.write (.infinity s)) = .infinity s := by cases s <;> decide
      have e : narB r = some (Ieee.single.write (.infinity s)) := by unfold narB; rw [if_neg (by rw [hn]; decide), hrd]
      rw [e]
      refine narrow_yes hn' (to32_inf hrd w) (to64_inf hrf w) (neq_eq ?_) b0
      show Ieee.double.order (Ieee.double.write (.infinity s)) r = _
      unfold Ieee.Format.order
      rw [hrd, show Ieee.double.read (Ieee.double.write (.infinity s)) = .infinity s by cases s <;> decide]
      cases s <;> rfl
    | number s m e =>
      cases hi : (Ieee.single.read (Ieee.single.write (.number s m e))).isInfinity with
      | false =>
        cases hf : Ieee.single.read (Ieee.single.write (.number s m e)) with
        | infinity s' => rw [hf] at hi; exact absurd hi (by show ¬ (true = false); decide)
        | nan s' t' =>
          obtain ⟨b, c2, hb⟩ := to64_nan hf w
          have en : narB r = none := narB_none hn hrd hi (by unfold widenE; rw [hf])
          rw [en]
          exact narrow_no hn' (to32_num hrd hi w) c2 (neq_none (hb r)) b0.drew
        | number s' m' e' =>
          by_cases ho : Ieee.double.order (Ieee.double.write (.number s' m' e')) r = some .eq
          · have en : narB r = some (Ieee.single.write (.number s m e)) := by rw [narB_some hn hrd hi (v := Ieee.double.write (.number s' m' e')) (by unfold widenE; rw [hf]), if_pos ho]
            rw [en]
            exact narrow_yes hn' (to32_num hrd hi w) (to64_num hf w) (neq_eq ho) b0
          · have en : narB r = none := by rw [narB_some hn hrd hi (v := Ieee.double.write (.number s' m' e')) (by unfold widenE; rw [hf]), if_neg ho]
            rw [en]
            exact narrow_no hn' (to32_num hrd hi w) (to64_num hf w) (neq_not ho) b0
      | true =>
        have en : narB r = none := by unfold narB; rw [if_neg (by rw [hn]; decide), hrd]; show (if _ then _ else _) = _; rw [if_pos hi]
        rw [en]
        obtain ⟨f, c1⟩ := to32_over hrd hi w
        cases hf : Ieee.single.read f with
        | nan s' t' =>
          obtain ⟨b, c2, hb⟩ := to64_nan hf w.drew
          exact narrow_no hn' c1 c2 (neq_none (hb r)) b0.drew.drew
        | infinity s' =>
          refine narrow_no hn' c1 (to64_inf hf w.drew) (neq_not ?_) b0.drew
          show ¬ Ieee.double.order (Ieee.double.write (.infinity s')) r = _
          unfold Ieee.Format.order
          rw [hrd, show Ieee.double.read (Ieee.double.write (.infinity s')) = .infinity s' by cases s' <;> decide]
          cases s' <;> exact fun h => by cases h
        | number s' m' e' =>
          refine narrow_no hn' c1 (to64_num hf w.drew) (neq_not fun ho => ?_) b0.drew
          have := FloatL.fit_fin (x := r) hr hrd hf ho
          rw [hi] at this
          exact absurd this (by decide)
end Go.Proofs.YteigbejidfkhpaaDoor

/- Layer 15: a float's bytes. -/
namespace Go.Proofs.YteigbejidfkhpaaDoor
open Go Go.RowKit
set_option linter.unusedSimpArgs false
set_option linter.unusedVariables false

def realB (r : Nat) : List UInt8 :=
  match narB r with
  | some n => 102 :: beB n 4
  | none => 100 :: beB r 8
theorem realB_len (r : Nat) : (realB r).length ≤ 9 := by
  unfold realB
  split <;> simp [beB_len]
theorem narB_lt {r n : Nat} (h : narB r = some n) : n < 4294967296 := by
  have hw : ∀ d, Ieee.single.write d < 4294967296 := fun d => Ieee.Format.write_lt Ieee.single d
  unfold narB at h
  split at h
  · injection h with h; omega
  · split at h
    · cases h
    · injection h with h; rw [← h]; exact hw _
    · split at h
      · cases h
      · split at h
        · split at h
          · injection h with h; rw [← h]; exact hw _
          · cases h
        · cases h

theorem tableBig_c2 {w : World} {base : Nat} {v : Value} {l : List UInt8} (h : OB w base v l) (hB : base ≤ w.heap.size) (hl : l.length ≤ 70368744177664) (n k : Nat) (hn : n < 18446744073709551616) (hk : k ≤ 8) (ni ki : Int) (hni : ni = (n : Int)) (hki : ki = (k : Int)) :
    Calls Tryd.prog 28 #[v, .int .u64 ni, .int .i64 ki] w fun e w' => ∃ v', e = .returned v' ∧ OB w' base v' (l ++ beB n k) ∧ Below base w w' := by
  subst hni hki
  exact tableBig_c h hB hl n hn k hk

set_option maxRecDepth 100000 in
set_option maxHeartbeats 2000000 in
theorem real_c {w : World} {base : Nat} {v : Value} {l : List UInt8} (h : OB w base v l) (hB : base ≤ w.heap.size) (hl : l.length ≤ 35184372088832) (r : Nat) (hr : r < 18446744073709551616) :
    Calls Tryd.prog 31 #[v, .float .f64 r] w fun e w' => ∃ v', e = .returned v' ∧ OB w' base v' (l ++ realB r) ∧ Below base w w' := by
  have H := Lib.hid h
  clear h
  have HN := Lib.hid (narrow_c (w := w) r hr)
  cases hn : narB r with
  | some n =>
    rw [hn] at HN
    have hrb : realB r = 102 :: beB n 4 := by unfold realB; rw [hn]
    have hn32 := narB_lt hn
    rw [hrb]
    have HNB := Lib.hid hn32
    clear hrb hn hn32
    go_enter Tryd.func31, Tryd.ntmps31
    go_wp2_with fail
    refine (HN.out).mono ?_
    rintro e w1 ⟨rfl, b1⟩
    have o1 := own_below H.out b1
    have B1 : Below base w w1 := b1.mono hB
    have hs1 : base ≤ w1.heap.size := Nat.le_trans hB b1.size
    have O1 := Lib.hid (show OB w1 base v l from o1)
    have hnI : (n : Int) < 4294967296 := by have := HNB.out; omega
    clear o1 b1
    go_wp2_with (at_builtin; refine app_b (w0 := w) (base := base) (l := l) (m := [102]) rfl (.tmp 13) (.tmp 14) rfl rfl rfl (O1.out.alloc _) (rb_one w1 102) (B1.alloc hs1 _) (by simp; omega) (by simp; omega) ?_; intro v2 w2 o2 b2 _ _; have O2 := Lib.hid o2; clear o2)
    refine (tableBig_c2 O2.out (Nat.le_trans hB b2.size) (by simp; omega) n 4 (by have := HNB.out; omega) (by omega) _ 4 rfl rfl).mono ?_
    rintro e w3 ⟨v3, rfl, o3, b3⟩
    go_wp2_with fail
    go_ret
    exact ⟨v3, rfl, by have := o3; simpa using this, b2.trans b3⟩
  | none =>
    rw [hn] at HN
    have hrb : realB r = 100 :: beB r 8 := by unfold realB; rw [hn]
    have q64 := bits64_run
    rw [hrb]
    clear hrb hn
    go_enter Tryd.func31, Tryd.ntmps31
    go_wp2_with fail
    refine (HN.out).mono ?_
    rintro e w1 ⟨rfl, b1⟩
    have o1 := own_below H.out b1
    have B1 : Below base w w1 := b1.mono hB
    have hs1 : base ≤ w1.heap.size := Nat.le_trans hB b1.size
    have O1 := Lib.hid (show OB w1 base v l from o1)
    clear o1 b1
    go_wp2_with (at_builtin; refine app_b (w0 := w) (base := base) (l := l) (m := [100]) rfl (.tmp 19) (.tmp 20) rfl rfl rfl (O1.out.alloc _) (rb_one w1 100) (B1.alloc hs1 _) (by simp; omega) (by simp; omega) ?_; intro v2 w2 o2 b2 _ _; have O2 := Lib.hid o2; clear o2)
    refine (tableBig_c2 O2.out (Nat.le_trans hB b2.size) (by simp; omega) r 8 hr (by omega) _ 8 rfl rfl).mono ?_
    rintro e w3 ⟨v3, rfl, o3, b3⟩
    go_wp2_with fail
    go_ret
    exact ⟨v3, rfl, by have := o3; simpa using this, b2.trans b3⟩
end Go.Proofs.YteigbejidfkhpaaDoor

/- Layer 15: table.Put, first part: appends inside regions that draw. -/
namespace Go.Proofs.YteigbejidfkhpaaDoor
open Go Go.RowKit Go.Sort
set_option linter.unusedSimpArgs false
set_option linter.unusedVariables false

theorem step_app_b {ops : Array Oper} {o : Oper} {a : Act} {K : Act → World → Prop} {Q : Exit → Act → World → Prop} {E : Prop} {w0 W : World} {base : Nat} {l m : List UInt8} {v u : Value}
    (hgd : o.guard = none) (s x : Operand) (ho : o.op = .call { callee := .builtin .append, args := #[s, x], argTypes := #[29, 29] })
    (hs : a.eval s = v) (hx : a.eval x = u) (hown : OB W base v l) (hr : RB W u m) (hB : Below base w0 W) (hbase : base ≤ W.heap.size) (hb : l.length + m.length ≤ 140737488355328)
    (h : ∀ v1 w1, OB w1 base v1 (l ++ m) → Below base w0 w1 → W.grownBy w1 v.ownBlock → (v1.ownBlock = v.ownBlock ∨ v1.ownBlock = some W.heap.size) → K (a.put o.dst v1) w1) :
    if Region.wanted o (yielded ops a.tmps) = true then Oper.wp Tryd.prog o a W K Q else E := by
  have hw : Region.wanted o (yielded ops a.tmps) = true := by simp [Region.wanted, hgd]
  rw [if_pos hw]
  obtain ⟨v1, w1, hrun, h2, h3, h5⟩ := run_app (P := Tryd.prog) base 29 o.type 5 1 1 (.int .u8 0) Tryd.underlying29 info_u8 rfl (by decide) v u _ _ _ _ hown hr (Lib.byteCells_one _) (by omega) (by omega) hbase
  unfold Oper.wp execOp
  simp only [ho, resolve, invoke, builtin, Sem.run_bind, Sem.run_pure, Result.andThen_ok, List.map_toArray, List.map_cons, List.map_nil, hs, hx, hrun]
  exact h _ _ (by unfold OB; rw [List.length_append, Lib.byteCells_append]; exact h2) (hB.grown h3 hbase (own_base hown)) h3 h5
theorem step_app_s {ops : Array Oper} {o : Oper} {a : Act} {K : Act → World → Prop} {Q : Exit → Act → World → Prop} {E : Prop} {w0 W : World} {base : Nat} {l : List UInt8} {v : Value}
    (hgd : o.guard = none) (s x : Operand) (ho : o.op = .call { callee := .builtin .append, args := #[s, x], argTypes := #[29, 9] })
    (y : ByteArray) (hs : a.eval s = v) (hx : a.eval x = .string y) (hown : OB W base v l) (hB : Below base w0 W) (hbase : base ≤ W.heap.size) (hb : l.length + y.size ≤ 140737488355328)
    (h : ∀ v1 w1, OB w1 base v1 (l ++ y.data.toList) → Below base w0 w1 → W.grownBy w1 v.ownBlock → K (a.put o.dst v1) w1) :
    if Region.wanted o (yielded ops a.tmps) = true then Oper.wp Tryd.prog o a W K Q else E := by
  have hw : Region.wanted o (yielded ops a.tmps) = true := by simp [Region.wanted, hgd]
  rw [if_pos hw]
  obtain ⟨i0, hi, hzz⟩ := Option.map_eq_some_iff.1 info_u8
  simp only [Prod.mk.injEq] at hzz
  obtain ⟨hz0, hz1, hz2⟩ := hzz
  obtain ⟨v1, w1, hrun, h2, h3, _⟩ := Lib.run_append_own_string (P := Tryd.prog) W base 29 9 o.type 5 i0 Tryd.underlying29 Tryd.underlying9 hi hz0 hz1 hz2 v l.length (Lib.byteCells l) hown y (by simp only [maxLen]; omega) hb hbase
  unfold Oper.wp execOp
  simp only [ho, resolve, invoke, builtin, Sem.run_bind, Sem.run_pure, Result.andThen_ok, List.map_toArray, List.map_cons, List.map_nil, hs, hx, hrun]
  refine h _ _ ?_ (hB.grown h3 hbase (own_base hown)) h3
  unfold OB
  rw [List.length_append, Lib.byteCells_append, Array.length_toList]
  exact h2

theorem rb_at1 {w : World} (a : Obj) (x : UInt8) (z : Int) (hz : z = (x.toNat : Int)) : RB ((w.alloc a).drew.alloc (.cells #[.int .u8 z] 5)) (.slice (some ⟨w.heap.size + 1, 0, none⟩) 1 1) [x] := by
  subst hz
  have h : (w.alloc a).drew.heap.size = w.heap.size + 1 := Array.size_push _
  have := rb_one (w.alloc a).drew x
  rw [h] at this
  exact this
theorem cell_far {w w1 : World} {v : Value} {b j : Nat} {c : Value} (hg : w.grownBy w1 v.ownBlock) (hlt : b < w.heap.size) (hne : v.ownBlock ≠ some b) (h : w.cell? ⟨b, j, none⟩ = some c) : w1.cell? ⟨b, j, none⟩ = some c := by
  rw [World.grownBy.cell_far hg ⟨b, j, none⟩ hlt (fun e => hne e.symm)]
  exact h

/-- Block b is the property p. -/
def PB (w : World) (b : Nat) (p : Prp) : Prop := w.heap[b]? = some (.cells #[.string p.nm, .int .i64 p.k, .int .i64 p.n, .string p.t, .float .f64 p.r] 48 (0, 0))
theorem pb_new (w : World) (p : Prp) : PB (w.alloc (.cells #[.string p.nm, .int .i64 p.k, .int .i64 p.n, .string p.t, .float .f64 p.r] 48)) w.heap.size p := heap_alloc_new w _
theorem pb_lt {w : World} {b : Nat} {p : Prp} (h : PB w b p) : b < w.heap.size := (Array.getElem?_eq_some_iff.1 h).1
theorem pb_alloc {w : World} {b : Nat} {p : Prp} (h : PB w b p) (o : Obj) : PB (w.alloc o) b p := by
  unfold PB at h ⊢
  rw [heap_alloc_old _ _ (Array.getElem?_eq_some_iff.1 h).1]
  exact h
theorem pb_drew {w : World} {b : Nat} {p : Prp} (h : PB w b p) : PB w.drew b p := h
theorem pb_ne {w : World} {base b : Nat} {v : Value} {l : List UInt8} {p : Prp} (h : OB w base v l) (hb : PB w b p) : v.ownBlock ≠ some b := by
  intro e
  rcases h.2 with ⟨rfl, _⟩ | ⟨g, cap, cur, rfl, _, hg, _⟩
  · cases e
  · injection e with e
    have e' : g = b := e
    subst e'
    unfold PB at hb
    rw [hb] at hg
    injection hg with hg
    injection hg with _ h2 _
    exact absurd h2 (by decide)
theorem pb_grown {w w1 : World} {base b : Nat} {v : Value} {l : List UInt8} {p : Prp} (hb : PB w b p) (h : OB w base v l) (hg : w.grownBy w1 v.ownBlock) : PB w1 b p := by
  unfold PB at hb ⊢
  rw [hg.block b (pb_lt hb) (fun e => pb_ne h hb e.symm)]
  exact hb
theorem pb_below {w w1 : World} {b B : Nat} {p : Prp} (hb : PB w b p) (h : Below B w w1) (hB : b < B) : PB w1 b p := by
  unfold PB at hb ⊢
  rw [h.block b hB]
  exact hb
theorem pb_facts {w : World} {b : Nat} {p : Prp} (h : PB w b p) : w.cell? ⟨b, 0, none⟩ = some (.string p.nm) ∧ w.cell? ⟨b, 1, none⟩ = some (.int .i64 p.k) ∧ w.cell? ⟨b, 2, none⟩ = some (.int .i64 p.n) ∧ w.cell? ⟨b, 3, none⟩ = some (.string p.t) ∧ w.cell? ⟨b, 4, none⟩ = some (.float .f64 p.r) := by
  refine ⟨?_, ?_, ?_, ?_, ?_⟩ <;> simp [World.cell?, show w.heap[b]? = _ from h]
theorem own_drew {w : World} {base e s n : Nat} {v : Value} {xs : List Value} (h : w.ownsRow base e s v n xs) : w.drew.ownsRow base e s v n xs := h

/-- Blocks of another type than bytes stay. -/
def KeepsT (w w' : World) : Prop := ∀ (b : Nat) (cs : Array Value) (t : TypeId) (fr : Nat × Nat), t ≠ 5 → w.heap[b]? = some (Obj.cells cs t fr) → w'.heap[b]? = some (Obj.cells cs t fr)
theorem KeepsT.refl (w : World) : KeepsT w w := fun _ _ _ _ _ h => h
theorem KeepsT.trans {a b c : World} (h : KeepsT a b) (k : KeepsT b c) : KeepsT a c := fun x cs t fr ht hx => k x cs t fr ht (h x cs t fr ht hx)
theorem keeps_alloc (w : World) (o : Obj) : KeepsT w (w.alloc o) := fun b cs t fr _ h => by
  rw [heap_alloc_old _ _ (Array.getElem?_eq_some_iff.1 h).1]
  exact h
theorem keeps_grown {w w1 : World} {base : Nat} {v : Value} {l : List UInt8} (h : OB w base v l) (hg : w.grownBy w1 v.ownBlock) : KeepsT w w1 := fun b cs t fr ht hb => by
  rw [hg.block b (Array.getElem?_eq_some_iff.1 hb).1 (fun e => ?_)]
  · exact hb
  · rcases h.2 with ⟨rfl, _⟩ | ⟨g, cap, cur, rfl, _, hgc, _⟩
    · cases e
    · injection e with e
      have e' : b = g := e
      subst e'
      rw [hb] at hgc
      injection hgc with hgc
      injection hgc with _ h2 _
      exact ht h2
theorem pb_keeps {w w1 : World} {b : Nat} {p : Prp} (hb : PB w b p) (h : KeepsT w w1) : PB w1 b p := h b _ _ _ (by decide) hb

set_option maxRecDepth 100000 in
set_option maxHeartbeats 1000000 in
theorem bigK_c {w : World} {base : Nat} {v : Value} {l : List UInt8} (h : OB w base v l) (hB : base ≤ w.heap.size) (hl : l.length ≤ 70368744177664) (n : Nat) (hn : n < 18446744073709551616) (k : Nat) (hk : k ≤ 8) :
    Calls Tryd.prog 28 #[v, .int .u64 n, .int .i64 k] w fun e w' => ∃ v', e = .returned v' ∧ OB w' base v' (l ++ beB n k) ∧ Below base w w' ∧ KeepsT w w' := by
  have H := Lib.hid h
  clear h
  go_enter Tryd.func28, Tryd.ntmps28
  go_wp2
  go_loopw [0, 7] (fun x i wr => ∃ (r : Nat) (pre : List UInt8), r ≤ k ∧ i = .int .i64 ((r : Int) - 1) ∧ Hid (pre ++ beB n r = beB n k) ∧ Hid (OB wr base x (l ++ pre)) ∧ Hid (KeepsT w wr) ∧ Below base w wr) (fun _ i _ => (intOf i + 1).toNat)
  case atStart => exact ⟨k, [], Nat.le_refl _, rfl, Lib.hid rfl, by simpa [Lib.hid] using H, Lib.hid (KeepsT.refl _), Below.refl _ _⟩
  case round =>
    obtain ⟨r, pre, hr, rfl, HP, O2, HK, b2⟩ := hrel
    cases r with
    | zero =>
      go_wp2
      go_ret
      have := HP.out
      simp only [beB, List.append_nil] at this
      exact ⟨_, rfl, by rw [← this]; exact O2.out, b2, HK.out⟩
    | succ r =>
      have hpl : pre.length ≤ 8 := by
        have := congrArg List.length HP.out
        rw [List.length_append, beB_len, beB_len] at this
        omega
      go_wp2_with (at_builtin; refine app_b (w0 := w) (base := base) (l := l ++ pre) (m := [dig n r]) rfl (.tmp 14) (.tmp 20) rfl rfl rfl (O2.out.alloc _) (rb_dig wr _ _ (dig_val n r)) (b2.alloc (by have := b2.size; omega) _) (by have := b2.size; simp; omega) (by simp; omega) ?_; intro v4 w4 o4 b4 g4 _; have HK4 := Lib.hid ((HK.out.trans (keeps_alloc _ _)).trans (keeps_grown (O2.out.alloc _) g4)); have O4 := Lib.hid o4; clear o4 g4)
      go_roundw
      case rel => exact ⟨r, pre ++ [dig n r], by omega, by go_num, Lib.hid (by have := HP.out; simpa [beB] using this), Lib.hid (by have := O4.out; rwa [List.append_assoc] at this), HK4, b4⟩
      case measure => simp [intOf]


theorem bigK_c2 {w : World} {base : Nat} {v : Value} {l : List UInt8} (h : OB w base v l) (hB : base ≤ w.heap.size) (hl : l.length ≤ 70368744177664) (n k : Nat) (hn : n < 18446744073709551616) (hk : k ≤ 8) (ni ki : Int) (hni : ni = (n : Int)) (hki : ki = (k : Int)) :
    Calls Tryd.prog 28 #[v, .int .u64 ni, .int .i64 ki] w fun e w' => ∃ v', e = .returned v' ∧ OB w' base v' (l ++ beB n k) ∧ Below base w w' ∧ KeepsT w w' := by
  subst hni hki
  exact bigK_c h hB hl n hn k hk

/-- A property's bytes. -/
def valB (p : Prp) : List UInt8 :=
  if p.k = 1 then 108 :: beB (p.n % 18446744073709551616).toNat 8
  else if p.k = 2 then [116, UInt8.ofNat p.n.toNat]
  else if p.k = 3 then 83 :: (beB p.t.size 4 ++ p.t.data.toList)
  else realB p.r
def propB (p : Prp) : List UInt8 := UInt8.ofNat p.nm.size :: (p.nm.data.toList ++ valB p)
def propsB (ps : List Prp) : List UInt8 := ps.flatMap propB
theorem propsB_snoc (l : List Prp) (p : Prp) : propsB (l ++ [p]) = propsB l ++ propB p := by simp [propsB]

theorem wrap_byte (n : Nat) (h : n < 256) : IntKind.u8.wrap (n : Int) = ((UInt8.ofNat n).toNat : Int) := by
  rw [UInt8.toNat_ofNat', Nat.mod_eq_of_lt h]
  show (n : Int) % 256 = n
  omega
theorem wrap_u64 (n : Int) : IntKind.u64.wrap n = ((n % 18446744073709551616).toNat : Int) := by
  rw [show IntKind.u64.wrap n = n % 18446744073709551616 from rfl]
  omega
theorem rb_at0 {w : World} (x : UInt8) (z : Int) (hz : z = (x.toNat : Int)) : RB (w.drew.alloc (.cells #[.int .u8 z] 5)) (.slice (some ⟨w.heap.size, 0, none⟩) 1 1) [x] := by
  subst hz
  exact rb_one w.drew x
theorem rb_two (w : World) (x y : UInt8) : RB (w.alloc (.cells #[.int .u8 x.toNat, .int .u8 y.toNat] 5)) (.slice (some ⟨w.heap.size, 0, none⟩) 2 2) [x, y] :=
  rc_new w 5 2 1 (Lib.byteCells [x, y]) rfl (by omega)
theorem validL_all : ∀ (ps : List Prp) (o : Option ByteArray), validL o ps = true → ∀ p ∈ ps, nameB p.nm = true ∧ p.good = true
  | [], _, _, p, hp => by cases hp
  | q :: r, o, h, p, hp => by
    have hq : nameB q.nm = true ∧ q.good = true ∧ validL (some q.nm) r = true := by
      cases o <;> (unfold validL at h; simp only [Bool.and_eq_true] at h)
      · exact ⟨h.1.1, h.1.2, h.2⟩
      · exact ⟨h.1.1.1, h.1.1.2, h.2⟩
    rcases List.mem_cons.1 hp with rfl | hp
    · exact ⟨hq.1, hq.2.1⟩
    · exact validL_all r _ hq.2.2 p hp
theorem valid_all {ps : List Prp} (h : validB ps = true) : ∀ p ∈ ps, nameB p.nm = true ∧ p.good = true := by
  unfold validB at h
  simp only [Bool.and_eq_true] at h
  exact validL_all ps none h.1

theorem valid_len {ps : List Prp} (h : validB ps = true) : ps.length ≤ 16 := by
  unfold validB at h
  simp only [Bool.and_eq_true, decide_eq_true_eq] at h
  exact h.2
theorem propB_len {p : Prp} (h : nameB p.nm = true ∧ p.good = true) : (propB p).length ≤ 278 := by
  obtain ⟨h1, h2⟩ := h
  unfold nameB at h1
  simp only [Bool.and_eq_true, decide_eq_true_eq] at h1
  have hn := h1.1.2
  have hv : (valB p).length ≤ 261 := by
    unfold valB
    split
    · simp [beB_len]
    · split
      · simp
      · split
        · rename_i h3
          rcases good_of h2 with ⟨a, _⟩ | ⟨a, _⟩ | ⟨_, _, _, hs⟩ | ⟨a, _⟩
          · omega
          · omega
          · simp [beB_len, ba_size]; omega
          · omega
        · have := realB_len p.r; omega
  unfold propB
  simp only [List.length_cons, List.length_append, ba_size]
  omega
theorem propsB_len : ∀ (ps : List Prp), (∀ p ∈ ps, nameB p.nm = true ∧ p.good = true) → (propsB ps).length ≤ ps.length * 278
  | [], _ => by simp [propsB]
  | p :: r, h => by
    have h1 := propB_len (h p (List.mem_cons_self ..))
    have h2 := propsB_len r (fun q hq => h q (List.mem_cons_of_mem _ hq))
    have e : propsB (p :: r) = propB p ++ propsB r := by simp [propsB]
    rw [e, List.length_append, List.length_cons, Nat.succ_mul]
    omega

set_option maxRecDepth 100000 in
set_option maxHeartbeats 4000000 in
theorem put_c {w : World} {base : Nat} {v vl : Value} {l : List UInt8} {ps : List Prp} (h : RB w v l) (hl : l.length ≤ 17592186044416) (hp : RPr w vl ps) (hsz : ∀ p ∈ ps, p.nm.size ≤ 140737488351232) (hr : ∀ p ∈ ps, p.r < 18446744073709551616) (hv : validB ps = true) :
    Calls Tryd.prog 14 #[v, vl] w fun e w' => ∃ v', e = .returned (.tuple #[v', .int .i64 0]) ∧ OB w' w.heap.size v' (l ++ beB (propsB ps).length 4 ++ propsB ps) ∧ Below w.heap.size w w' := by
  have HV := Lib.hid (valid_c hp hsz)
  rw [hv] at HV
  obtain ⟨A, c, rfl, hnc, hcell⟩ := props_at hp
  have HC := Lib.hid hcell
  have HS := Lib.hid hsz
  have HR := Lib.hid hr
  have HVP := Lib.hid (valid_all hv)
  have H16 := Lib.hid (valid_len hv)
  have H := Lib.hid h
  have qs := store_float (P := Tryd.prog)
  clear h hp hcell hsz hr hv
  go_enter Tryd.func14, Tryd.ntmps14
  go_wp2_with fail
  refine (HV.out).mono ?_
  rintro e w1 ⟨rfl, b1⟩
  go_wp2_with fail
  go_loopw [6, 14] (fun x i wr => ∃ k : Nat, k ≤ ps.length ∧ i = .int .i64 k ∧ Hid (OB wr w.heap.size x (propsB (ps.take k))) ∧ Below w.heap.size w wr) (fun _ i _ => ps.length - (intOf i).toNat)
  case atStart => exact ⟨0, Nat.zero_le _, rfl, Lib.hid (ob_nil _ _), b1⟩
  case round =>
    obtain ⟨k, hk, rfl, O1, b2⟩ := hrel
    clear b1
    by_cases hlt : k < ps.length
    · obtain ⟨p, hp⟩ : ∃ p, ps[k]? = some p := ⟨_, List.getElem?_eq_getElem hlt⟩
      obtain ⟨a, rfl, q0, q1, q2, q3, q4⟩ := HC.out k p hp
      have p0 := cell_below b2 (World.block_lt_of_cell? w _ q0) q0
      have p1 := cell_below b2 (World.block_lt_of_cell? w _ q1) q1
      have p2 := cell_below b2 (World.block_lt_of_cell? w _ q2) q2
      have p3 := cell_below b2 (World.block_lt_of_cell? w _ q3) q3
      have p4 := cell_below b2 (World.block_lt_of_cell? w _ q4) q4
      have hk16 : (k : Int) < 16 := by have := H16.out; omega
      have HP := Lib.hid hp
      clear hp q0 q1 q2 q3 q4
      have hns : p.nm.size ≤ 16 := by
        have hvp := (HVP.out p (List.mem_of_getElem? HP.out)).1
        unfold nameB at hvp
        simp only [Bool.and_eq_true, decide_eq_true_eq] at hvp
        exact hvp.1.2
      have hz : IntKind.u8.wrap ((p.nm.size : Nat) : Int) = ((UInt8.ofNat p.nm.size).toNat : Int) := wrap_byte _ (by omega)
      have HZ := Lib.hid hz
      clear hz
      have hzI : ((p.nm.size : Nat) : Int) ≤ 16 := by omega
      have hz0 : (0 : Int) ≤ ((p.nm.size : Nat) : Int) := by omega
      have HPB0 := Lib.hid (pb_drew (pb_new wr p))
      have HO1 := Lib.hid (fun o : Obj => (own_drew (O1.out.alloc (.cells #[.string p.nm, .int .i64 p.k, .int .i64 p.n, .string p.t, .float .f64 p.r] 48))).alloc o)
      have hW0 : w.heap.size ≤ (wr.alloc (.cells #[.string p.nm, .int .i64 p.k, .int .i64 p.n, .string p.t, .float .f64 p.r] 48)).drew.heap.size := Nat.le_trans b2.size (by show _ ≤ (wr.heap.push _).size; simp)
      have B0 := Lib.hid ((b2.alloc b2.size (.cells #[.string p.nm, .int .i64 p.k, .int .i64 p.n, .string p.t, .float .f64 p.r] 48)).drew)
      have HLK := Lib.hid (propsB_len (ps.take k) (fun q hq => HVP.out q (List.mem_of_mem_take hq)))
      have HTK := Lib.hid (show (ps.take k).length ≤ 16 by have := H16.out; rw [List.length_take]; omega)
      obtain ⟨s0, _, _, _, _⟩ := pb_facts HPB0.out
      go_upto_region 7 with fail
      go_region_held3 (fun w' => w'.cell? ⟨wr.heap.size, 0, none⟩ = some (.string p.nm))
        (first | exact s0 | go_keep)
        (first
          | (refine step_app_s (w0 := w) (base := w.heap.size) (l := propsB (ps.take k) ++ [UInt8.ofNat p.nm.size]) rfl (.tmp 24) (.tmp 26) rfl p.nm rfl rfl O2.out B2 B2.size (by have := HLK.out; have := HTK.out; simp; omega) ?_; intro v3 w3 o3 B3 g3; have HPB3 := Lib.hid (pb_grown HPB2.out O2.out g3); have s0 := (pb_facts HPB3.out).1; have O3 := Lib.hid o3; clear o3)
          | (refine step_app_b (w0 := w) (base := w.heap.size) (l := propsB (ps.take k)) (m := [UInt8.ofNat p.nm.size]) rfl (.tmp 18) (.tmp 23) rfl rfl rfl (HO1.out _) (rb_at1 _ _ _ HZ.out) (B0.out.alloc hW0 _) (Nat.le_trans hW0 (by show _ ≤ (Array.push _ _).size; simp)) (by have := HLK.out; have := HTK.out; simp; omega) ?_; intro v2 w2 o2 B2 g2 _; have HPB2 := Lib.hid (pb_grown (pb_alloc HPB0.out _) (HO1.out _) g2); have s0 := (pb_facts HPB2.out).1; have O2 := Lib.hid o2; clear o2 g2))
      have hgd := (HVP.out p (List.mem_of_getElem? HP.out)).2
      have hrl := HR.out p (List.mem_of_getElem? HP.out)
      have HRL := Lib.hid hrl
      have hts : ps.take (k + 1) = ps.take k ++ [p] := by rw [List.take_add_one, HP.out]; rfl
      have HTS := Lib.hid hts
      have HLK3 : Hid ((propsB (ps.take k) ++ [UInt8.ofNat p.nm.size] ++ p.nm.data.toList).length ≤ 20000) := Lib.hid (by have := HLK.out; have := HTK.out; simp only [List.length_append, List.length_cons, List.length_nil, ba_size]; omega)
      obtain ⟨L, hL⟩ : ∃ L, L = propsB (ps.take k) ++ [UInt8.ofNat p.nm.size] ++ p.nm.data.toList := ⟨_, rfl⟩
      have hfin : ∀ (wf : World) (vf : Value), OB wf w.heap.size vf (L ++ valB p) → OB wf w.heap.size vf (propsB (ps.take (k + 1))) := by
        intro wf vf h
        rw [hL] at h
        rw [HTS.out, propsB_snoc]
        unfold propB
        simpa using h
      rw [← hL] at O3 HLK3
      have HFIN := Lib.hid hfin
      clear hL hts hrl hfin O1 HO1 HLK HTK B0 HPB0 HPB2 O2 B2 g3 HZ hzI hz0 s0 p0 p1 p2 p3 p4 hns
      obtain ⟨_, s1, s2, s3, s4⟩ := pb_facts HPB3.out
      have hs3 : w.heap.size ≤ w3.heap.size := B3.size
      rcases good_of hgd with ⟨hk1, _, _⟩ | ⟨hk1, _, _, hn01⟩ | ⟨hk1, _, _, ht⟩ | ⟨hk1, hx1, hx2, hx3⟩
      · rw [hk1] at s1
        have hvb : valB p = 108 :: beB (p.n % 18446744073709551616).toNat 8 := by unfold valB; rw [if_pos hk1]
        have HVB := Lib.hid hvb
        clear hk1 hgd s3 s4 hvb
        go_upto_region 11 with fail
        have s2 := (pb_facts (pb_drew HPB3.out)).2.2.1
        go_region_held3 (fun w' => w'.cell? ⟨wr.heap.size, 2, none⟩ = some (.int .i64 p.n))
          (first | exact s2 | go_keep)
          (first
            | (go_at_call 28; refine (bigK_c2 (base := w.heap.size) O4.out B4.size (by have := HLK3.out; simp; omega) (p.n % 18446744073709551616).toNat 8 (by omega) (by omega) _ 8 (wrap_u64 _) rfl).mono ?_; rintro e w5 ⟨v5, rfl, o5, b5, k5⟩; have B5 := B4.trans b5; have HPB5 := Lib.hid (pb_keeps HPB4.out k5); have s2 := (pb_facts HPB5.out).2.2.1; have O5 := Lib.hid o5; clear o5)
            | (refine step_app_b (w0 := w) (base := w.heap.size) (l := L) (m := [108]) rfl (.tmp 38) (.tmp 39) rfl rfl rfl ((own_drew O3.out).alloc _) (rb_at0 108 _ rfl) (B3.drew.alloc B3.size _) (Nat.le_trans B3.size (by show _ ≤ (Array.push _ _).size; simp)) (by have := HLK3.out; simp; omega) ?_; intro v4 w4 o4 B4 g4 _; have HPB4 := Lib.hid (pb_grown (pb_alloc (pb_drew HPB3.out) _) ((own_drew O3.out).alloc _) g4); have s2 := (pb_facts HPB4.out).2.2.1; have O4 := Lib.hid o4; clear o4 g4))
        go_wp2
        go_roundw
        case rel => exact ⟨k + 1, by omega, by go_num, Lib.hid (HFIN.out _ _ (by rw [HVB.out]; have := O5.out; simpa using this)), B5⟩
        case measure => simp [intOf]; omega
      · have h1 : ¬ p.k = 1 := by omega
        rw [hk1] at s1
        rcases hn01 with hn | hn
        · have hvb : valB p = [116, 0] := by unfold valB; rw [if_neg h1, if_pos hk1, hn]; rfl
          have HVB := Lib.hid hvb
          rw [hn] at s2
          clear hk1 h1 hgd hvb hn s3 s4
          go_wp2_with (at_builtin; refine app_b (w0 := w) (base := w.heap.size) (l := L) (m := [116, 0]) rfl (.tmp 48) (.tmp 53) rfl rfl rfl (O3.out.alloc _) (rb_two w3 116 0) (B3.alloc hs3 _) (by simp; omega) (by have := HLK3.out; simp; omega) ?_; intro v4 w4 o4 B4 _ _; have O4 := Lib.hid o4; clear o4)
          go_roundw
          case rel => exact ⟨k + 1, by omega, by go_num, Lib.hid (HFIN.out _ _ (by rw [HVB.out]; exact O4.out)), B4⟩
          case measure => simp [intOf]; omega
        · have hvb : valB p = [116, 1] := by unfold valB; rw [if_neg h1, if_pos hk1, hn]; rfl
          have HVB := Lib.hid hvb
          rw [hn] at s2
          clear hk1 h1 hgd hvb hn s3 s4
          go_wp2_with (at_builtin; refine app_b (w0 := w) (base := w.heap.size) (l := L) (m := [116, 1]) rfl (.tmp 48) (.tmp 53) rfl rfl rfl (O3.out.alloc _) (rb_two w3 116 1) (B3.alloc hs3 _) (by simp; omega) (by have := HLK3.out; simp; omega) ?_; intro v4 w4 o4 B4 _ _; have O4 := Lib.hid o4; clear o4)
          go_roundw
          case rel => exact ⟨k + 1, by omega, by go_num, Lib.hid (HFIN.out _ _ (by rw [HVB.out]; exact O4.out)), B4⟩
          case measure => simp [intOf]; omega
      · have h1 : ¬ p.k = 1 := by omega
        have h2 : ¬ p.k = 2 := by omega
        have hvb : valB p = 83 :: (beB p.t.size 4 ++ p.t.data.toList) := by unfold valB; rw [if_neg h1, if_neg h2, if_pos hk1]
        have HVB := Lib.hid hvb
        have htI : (p.t.size : Int) ≤ 256 := by omega
        rw [hk1] at s1
        clear hk1 h1 h2 hgd hvb s4 s2 ht
        go_upto_region 15 with fail
        have s3 := (pb_facts (pb_drew HPB3.out)).2.2.2.1
        go_region_held3 (fun w' => w'.cell? ⟨wr.heap.size, 3, none⟩ = some (.string p.t))
          (first | exact s3 | go_keep)
          (first
            | (refine step_app_s (w0 := w) (base := w.heap.size) (l := L ++ [83] ++ beB p.t.size 4) rfl (.tmp 65) (.tmp 68) rfl p.t rfl rfl O5.out B5 B5.size (by have := HLK3.out; simp [beB_len]; omega) ?_; intro v6 w6 o6 B6 g6; have HPB6 := Lib.hid (pb_grown HPB5.out O5.out g6); have s3 := (pb_facts HPB6.out).2.2.2.1; have O6 := Lib.hid o6; clear o6)
            | (go_at_call 28; refine (bigK_c2 (base := w.heap.size) O4.out B4.size (by have := HLK3.out; simp; omega) p.t.size 4 (by omega) (by omega) _ 4 (by first | rfl | exact IntWalk.u64_in _ (by omega)) rfl).mono ?_; rintro e w5 ⟨v5, rfl, o5, b5, k5⟩; have B5 := B4.trans b5; have HPB5 := Lib.hid (pb_keeps HPB4.out k5); have s3 := (pb_facts HPB5.out).2.2.2.1; have O5 := Lib.hid o5; clear o5)
            | (refine step_app_b (w0 := w) (base := w.heap.size) (l := L) (m := [83]) rfl (.tmp 57) (.tmp 58) rfl rfl rfl ((own_drew O3.out).alloc _) (rb_at0 83 _ rfl) (B3.drew.alloc B3.size _) (Nat.le_trans B3.size (by show _ ≤ (Array.push _ _).size; simp)) (by have := HLK3.out; simp; omega) ?_; intro v4 w4 o4 B4 g4 _; have HPB4 := Lib.hid (pb_grown (pb_alloc (pb_drew HPB3.out) _) ((own_drew O3.out).alloc _) g4); have s3 := (pb_facts HPB4.out).2.2.2.1; have O4 := Lib.hid o4; clear o4 g4))
        go_wp2
        go_roundw
        case rel => exact ⟨k + 1, by omega, by go_num, Lib.hid (HFIN.out _ _ (by rw [HVB.out]; have := O6.out; simpa using this)), B6⟩
        case measure => simp [intOf]; omega
      · have h1 : ¬ p.k = 1 := by omega
        have h2 : ¬ p.k = 2 := by omega
        have h3 : ¬ p.k = 3 := by omega
        have hvb : valB p = realB p.r := by unfold valB; rw [if_neg h1, if_neg h2, if_neg h3]
        have HVB := Lib.hid hvb
        rw [hk1] at s1
        clear hk1 h1 h2 h3 hgd hvb s2 s3 hx1 hx2 hx3
        go_wp2_with fail
        refine (real_c O3.out hs3 (by have := HLK3.out; omega) p.r HRL.out).mono ?_
        rintro e w5 ⟨v5, rfl, o5, b5⟩
        have O5 := Lib.hid o5
        have B5 := B3.trans b5
        clear o5
        go_wp2
        go_roundw
        case rel => exact ⟨k + 1, by omega, by go_num, Lib.hid (HFIN.out _ _ (by rw [HVB.out]; exact O5.out)), B5⟩
        case measure => simp [intOf]; omega
    · have hk2 : k = ps.length := by omega
      subst hk2
      have hta : ps.take ps.length = ps := List.take_of_length_le (Nat.le_refl _)
      rw [hta] at O1
      have hpl := propsB_len ps HVP.out
      have h16 := H16.out
      have HPL := Lib.hid (show (propsB ps).length ≤ 4448 by omega)
      obtain ⟨A1, c1, rfl, hc1, _⟩ := id (ob_rb O1.out)
      have hwr : w.heap.size ≤ wr.heap.size := b2.size
      clear hta hlt hk hpl h16
      go_wp2_with fail
      refine (clone_b (rb_below H.out b2) (by omega)).mono ?_
      rintro e w4 ⟨v4, rfl, o4, b4⟩
      go_wp2_with fail
      refine (tableBig_c2 (base := wr.heap.size) o4 b4.size (by omega) (propsB ps).length 4 (by have := HPL.out; omega) (by omega) _ 4 (by first | rfl | exact IntWalk.u64_in _ (by have := HPL.out; omega)) rfl).mono ?_
      rintro e w5 ⟨v5, rfl, o5, b5⟩
      have O5 := Lib.hid o5
      have B5 := b4.trans b5
      have R5 := Lib.hid (rb_below (ob_rb O1.out) B5)
      clear o4 b4 o5 b5
      go_wp2_with (at_builtin; refine app_b (w0 := wr) (base := wr.heap.size) (l := l ++ beB (propsB ps).length 4) (m := propsB ps) rfl (.tmp 76) (.tmp 77) rfl rfl rfl O5.out R5.out B5 B5.size (by have := HPL.out; simp [beB_len]; omega) ?_; intro v6 w6 o6 b6 _ _; have O6 := Lib.hid o6; clear o6)
      go_ret2
      exact ⟨v6, rfl, own_lower O6.out hwr, b2.trans (b6.mono hwr)⟩
end Go.Proofs.YteigbejidfkhpaaDoor

/- Layer 15: the reader: it gives up where bytes are missing. -/
namespace Go.Proofs.YteigbejidfkhpaaDoor
open Go Go.RowKit
set_option linter.unusedSimpArgs false
set_option linter.unusedVariables false

theorem below_al1 (w : World) (o : Obj) : Below w.heap.size w (w.alloc o) := (Below.refl _ _).alloc (Nat.le_refl _) o
abbrev StopE : Ending := .panicked [{ v := .iface 87 (.agg #[]), recovered := false }]
/-- Block g is a reader of s. -/
def RD (w : World) (g : Nat) (s : ByteArray) : Prop := w.heap[g]? = some (.cells #[.string s] 68 (0, 0))
theorem rd_facts {w : World} {g : Nat} {s : ByteArray} (h : RD w g s) : w.cell? ⟨g, 0, none⟩ = some (.string s) ∧ w.frozen? ⟨g, 0, none⟩ = false := by
  refine ⟨?_, ?_⟩ <;> simp [World.cell?, World.frozen?, show w.heap[g]? = _ from h]
theorem rd_lt {w : World} {g : Nat} {s : ByteArray} (h : RD w g s) : g < w.heap.size := (Array.getElem?_eq_some_iff.1 h).1
theorem rd_set {w : World} {g : Nat} {s : ByteArray} (h : RD w g s) (s' : ByteArray) : RD (w.setCell ⟨g, 0, none⟩ (.string s')) g s' := by
  unfold RD at h ⊢
  simp [World.setCell, Array.getElem?_modify, h]
/-- The next n bytes, and what is left. -/
def takeP (n : Nat) (s : ByteArray) : Option (ByteArray × ByteArray) := if n ≤ s.size then some (s.extract 0 n, s.extract n s.size) else none
def numP (k : Nat) (s : ByteArray) : Option (Nat × ByteArray) := (takeP k s).map fun p => (natB p.1.data.toList, p.2)
def shortP (s : ByteArray) : Option (ByteArray × ByteArray) := (numP 1 s).bind fun p => takeP p.1 p.2
def longP (s : ByteArray) : Option (ByteArray × ByteArray) := (numP 4 s).bind fun p => takeP p.1 p.2
/-- What a reading leaves: an answer and a reader of what is left, or it has given up. -/
def PR {X : Type} (w : World) (g : Nat) (f : X → Value) (o : Option (X × ByteArray)) (e : Ending) (w' : World) : Prop :=
  w.grownBy w' (some g) ∧ match o with
    | some (x, r) => e = .returned (f x) ∧ RD w' g r
    | none => e = StopE
theorem pr_some {X : Type} {w w' : World} {g : Nat} {f : X → Value} {o : Option (X × ByteArray)} {e : Ending} {x : X} {r : ByteArray} (ho : o = some (x, r)) (hg : w.grownBy w' (some g)) (he : e = .returned (f x)) (hr : RD w' g r) : PR w g f o e w' := by
  subst ho
  exact ⟨hg, he, hr⟩
theorem pr_none {X : Type} {w w' : World} {g : Nat} {f : X → Value} {o : Option (X × ByteArray)} {e : Ending} (ho : o = none) (hg : w.grownBy w' (some g)) (he : e = StopE) : PR w g f o e w' := by
  subst ho
  exact ⟨hg, he⟩

set_option maxRecDepth 1000000 in
set_option maxHeartbeats 2000000 in
theorem rdTake_c {w : World} {g : Nat} {s : ByteArray} (h : RD w g s) (n : Nat) (ni : Int) (hni : ni = n) :
    Calls Tryd.prog 67 #[.pointer (some ⟨g, 0, none⟩), .int .i64 ni] w (PR w g Value.string (takeP n s)) := by
  subst hni
  obtain ⟨c0, f0⟩ := rd_facts h
  have H := Lib.hid h
  clear h
  by_cases h1 : n ≤ s.size
  · have h1' : (n : Int) ≤ s.size := by omega
    have hp := Lib.hid (show takeP n s = some (s.extract 0 n, s.extract n s.size) by unfold takeP; rw [if_pos h1])
    clear h1
    go_enter Tryd.func67, Tryd.ntmps67
    go_wp2
    go_ret
    exact pr_some hp.out (grownBy_set _ g 0 _) rfl (rd_set H.out _)
  · have h1' : (s.size : Int) < n := by omega
    have hp := Lib.hid (show takeP n s = none by unfold takeP; rw [if_neg h1])
    clear h1
    go_enter Tryd.func67, Tryd.ntmps67
    go_wp2
    exact ⟨rfl, pr_none hp.out (World.grownBy.refl w _) rfl⟩
/-- The two ways of a reading, apart. -/
theorem pr_yes {X : Type} {P : Program} {f : FuncId} {args : Array Value} {w : World} {g : Nat} {v : X → Value} {o : Option (X × ByteArray)} {x : X} {r : ByteArray} (h : Calls P f args w (PR w g v o)) (ho : o = some (x, r)) : Calls P f args w fun e w' => e = .returned (v x) ∧ RD w' g r ∧ w.grownBy w' (some g) := by
  subst ho
  exact h.mono fun e w' ⟨a, b, c⟩ => ⟨b, c, a⟩
theorem pr_no {X : Type} {P : Program} {f : FuncId} {args : Array Value} {w : World} {g : Nat} {v : X → Value} {o : Option (X × ByteArray)} (h : Calls P f args w (PR w g v o)) (ho : o = none) : Calls P f args w fun e w' => e = StopE ∧ w.grownBy w' (some g) := by
  subst ho
  exact h.mono fun e w' ⟨a, b⟩ => ⟨b, a⟩

theorem takeP_size {n : Nat} {s x r : ByteArray} (h : takeP n s = some (x, r)) : x.size = n ∧ r.size + n = s.size := by
  unfold takeP at h
  split at h
  · injection h with h
    injection h with h1 h2
    subst h1 h2
    rw [ByteArray.size_extract, ByteArray.size_extract]
    omega
  · cases h

theorem or64 (z b : Nat) (hz : z < 2 ^ 56) (hb : b < 256) : bits BinOp.or IntKind.u64 ((z : Int) * 256) (b : Int) = ((z * 256 + b : Nat) : Int) := by
  have h3 : (z * 256) ||| b = z * 256 + b := by
    have := Nat.shiftLeft_add_eq_or_of_lt (i := 8) (b := b) (by omega) z
    rw [Nat.shiftLeft_eq] at this
    exact this.symm
  rw [show ((z : Int) * 256) = ((z * 256 : Nat) : Int) by omega]
  have e64 : IntKind.u64.bits = 64 := rfl
  have hm : (BitVec.ofInt IntKind.u64.bits ((z * 256 : Nat) : Int) ||| BitVec.ofInt IntKind.u64.bits ((b : Nat) : Int)).toNat = z * 256 + b := by
    rw [BitVec.toNat_or, BitVec.ofInt_natCast, BitVec.ofInt_natCast, BitVec.toNat_ofNat, BitVec.toNat_ofNat, e64, Nat.mod_eq_of_lt (by omega), Nat.mod_eq_of_lt (by omega), h3]
  show IntKind.u64.wrap (((BitVec.ofInt IntKind.u64.bits ((z * 256 : Nat) : Int) ||| BitVec.ofInt IntKind.u64.bits ((b : Nat) : Int)).toNat : Nat) : Int) = _
  rw [hm]
  exact IntWalk.u64_in _ (by omega)
theorem conv_b (w : World) (s : ByteArray) : ∃ (c : Nat) (W : World), (convert 9 29 (.string s)).run Tryd.prog w = .ok (.slice (some ⟨w.heap.size, 0, none⟩) s.size c) W ∧ Below w.heap.size w W ∧ ∀ (j : Nat) (h : j < s.size), W.cell? ⟨w.heap.size, j, none⟩ = some (.int .u8 s[j].toNat) := by
  refine ⟨_, _, Lib.run_convert_string_bytes w 9 29 5 s Tryd.underlying9 Tryd.underlying29 Tryd.underlying5, ?_, fun j h => ?_⟩
  · exact ⟨rfl, rfl, rfl, by rw [Lib.bytesWorld_size]; omega, fun i hi => Lib.bytesWorld_at_old w _ s i hi⟩
  · rw [Lib.bytesWorld_cell w _ s j h, List.getD_eq_getElem?_getD, ba_at s j h]
    rfl
theorem rd_below {w w1 : World} {g : Nat} {s : ByteArray} (h : RD w g s) (b : Below w.heap.size w w1) : RD w1 g s := by
  unfold RD at h ⊢
  rw [b.block g (Array.getElem?_eq_some_iff.1 h).1]
  exact h
set_option maxRecDepth 1000000 in
set_option maxHeartbeats 2000000 in
theorem rdNumber_c {w : World} {g : Nat} {s : ByteArray} (h : RD w g s) (k : Nat) (hk : k ≤ 8) (ki : Int) (hki : ki = k) :
    Calls Tryd.prog 48 #[.pointer (some ⟨g, 0, none⟩), .int .i64 ki] w (PR w g (fun n : Nat => .int .u64 n) (numP k s)) := by
  have hT := rdTake_c h k ki hki
  clear h
  cases ho : takeP k s with
  | none =>
    have HT := Lib.hid (pr_no hT ho)
    have HN := Lib.hid (show numP k s = none by unfold numP; rw [ho]; rfl)
    clear ho hT hki
    go_enter Tryd.func48, Tryd.ntmps48
    go_wp2_with fail
    refine (HT.out).mono ?_
    rintro e w1 ⟨rfl, g1⟩
    go_wp2_with fail
    exact ⟨rfl, pr_none HN.out g1 rfl⟩
  | some p =>
    obtain ⟨x, r⟩ := p
    have HT := Lib.hid (pr_yes hT ho)
    have hxs := (takeP_size ho).1
    have HN := Lib.hid (show numP k s = some (natB x.data.toList, r) by unfold numP; rw [ho]; rfl)
    have hx : x.size ≤ 8 := by omega
    have hsl := Lib.hid (ba_size x)
    have hxm : x.size ≤ 140737488355328 := by omega
    clear ho hT hki hxs
    go_enter Tryd.func48, Tryd.ntmps48
    go_wp2_with fail
    refine (HT.out).mono ?_
    rintro e w1 ⟨rfl, r1, g1⟩
    have R1 := Lib.hid r1
    have G1 := Lib.hid g1
    clear r1 g1
    obtain ⟨c, W, hcv, bW, hcell⟩ := conv_b w1 x
    have HC := Lib.hid hcell
    have R2 := Lib.hid (rd_below R1.out bW)
    have G2 := Lib.hid (G1.out.trans (grownBy_below bW _))
    clear hcell bW R1 G1
    go_wp2_with fail
    go_loop [5, 13, 7] (fun a i _y => ∃ j : Nat, j ≤ x.size ∧ i = .int .i64 j ∧ a = .int .u64 (natB (x.data.toList.take j))) (fun _ i _ => x.size - (intOf i).toNat)
    case atStart => exact ⟨0, Nat.zero_le _, rfl, rfl⟩
    case round =>
      obtain ⟨j, hj, rfl, rfl⟩ := hrel
      by_cases hlt : j < x.size
      · have hlt' : (j : Int) < x.size := by omega
        have q0 := HC.out j hlt
        have hz : natB (x.data.toList.take j) < 256 ^ 7 := by
          refine Nat.lt_of_lt_of_le (natB_lt _) (Nat.pow_le_pow_right (by omega) ?_)
          rw [List.length_take]; omega
        have hb := UInt8.toNat_lt x[j]
        obtain ⟨z, hze⟩ : ∃ z, z = natB (x.data.toList.take j) := ⟨_, rfl⟩
        have hnx : natB (x.data.toList.take (j + 1)) = z * 256 + x[j].toNat := by
          rw [List.take_add_one, ba_at x j hlt, hze]
          exact natB_snoc _ _
        have HNX := Lib.hid hnx
        rw [← hze] at hz ⊢
        clear hnx hze
        have h256 : (256 : Nat) ^ 7 = 72057594037927936 := by decide
        rw [h256] at hz
        clear h256
        obtain ⟨y, hy⟩ : ∃ y : Nat, y = x[j].toNat := ⟨_, rfl⟩
        rw [← hy] at q0 hb HNX
        have hor := or64 z y (by omega) hb
        have hz1 : (z : Int) * 256 ≤ 18446744073709551360 := by omega
        have hz3 : (z : Int) < 72057594037927936 := by omega
        have hb3 : (y : Int) < 256 := by omega
        clear hz hb hy
        go_wp2
        go_round
        case rel => exact ⟨j + 1, by omega, by go_num, by rw [HNX.out, Int.natCast_add, Int.natCast_mul]; rfl⟩
        case measure => simp [intOf]; omega
      · have hd : x.data.toList.take j = x.data.toList := List.take_of_length_le (by have := hsl.out; omega)
        rw [hd]
        go_wp2
        go_ret
        exact pr_some HN.out G2.out rfl R2.out
theorem numP_lt {k n : Nat} {s r : ByteArray} (h : numP k s = some (n, r)) : n < 256 ^ k := by
  unfold numP at h
  obtain ⟨p, h1, h2⟩ := Option.map_eq_some_iff.1 h
  obtain ⟨x, y⟩ := p
  injection h2 with h2 h3
  have := natB_lt x.data.toList
  rw [ba_size, (takeP_size h1).1] at this
  rw [← h2]
  exact this
theorem numP_size {k n : Nat} {s r : ByteArray} (h : numP k s = some (n, r)) : r.size + k = s.size := by
  unfold numP at h
  obtain ⟨p, h1, h2⟩ := Option.map_eq_some_iff.1 h
  obtain ⟨x, y⟩ := p
  injection h2 with h2 h3
  have := (takeP_size h1).2
  rw [← h3]
  exact this

set_option maxRecDepth 100000 in
theorem unless_yes {w : World} : Calls Tryd.prog 49 #[.bool true] w fun e w' => e = .returned (.tuple #[]) ∧ w = w' := by
  go_enter Tryd.func49, Tryd.ntmps49
  go_wp2
  go_end0
  exact ⟨rfl, rfl⟩
set_option maxRecDepth 100000 in
theorem unless_no {w : World} : Calls Tryd.prog 49 #[.bool false] w fun e w' => e = StopE ∧ w = w' := by
  go_enter Tryd.func49, Tryd.ntmps49
  go_wp2
  exact ⟨rfl, rfl, rfl⟩

set_option maxRecDepth 1000000 in
set_option maxHeartbeats 2000000 in
theorem rdShort_c {w : World} {g : Nat} {s : ByteArray} (h : RD w g s) :
    Calls Tryd.prog 50 #[.pointer (some ⟨g, 0, none⟩)] w (PR w g Value.string (shortP s)) := by
  have hN := rdNumber_c h 1 (by omega) 1 rfl
  clear h
  cases ho : numP 1 s with
  | none =>
    have HN := Lib.hid (pr_no hN ho)
    have HP := Lib.hid (show shortP s = none by unfold shortP; rw [ho]; rfl)
    clear ho hN
    go_enter Tryd.func50, Tryd.ntmps50
    go_wp2_with fail
    refine (HN.out).mono ?_
    rintro e w1 ⟨rfl, g1⟩
    go_wp2_with fail
    exact ⟨rfl, pr_none HP.out g1 rfl⟩
  | some p =>
    obtain ⟨n, r⟩ := p
    have HN := Lib.hid (pr_yes hN ho)
    have hn := numP_lt ho
    have hnI : (n : Int) < 256 := by omega
    have HP := Lib.hid (show shortP s = takeP n r by unfold shortP; rw [ho]; rfl)
    clear ho hN hn
    go_enter Tryd.func50, Tryd.ntmps50
    go_wp2_with fail
    refine (HN.out).mono ?_
    rintro e w1 ⟨rfl, r1, g1⟩
    have hT := rdTake_c r1 n n rfl
    have G1 := Lib.hid g1
    clear r1 g1
    cases ho2 : takeP n r with
    | none =>
      have HT := Lib.hid (pr_no hT ho2)
      have HO := Lib.hid ho2
      clear hT ho2
      go_wp2_with fail
      refine (HT.out).mono ?_
      rintro e w2 ⟨rfl, g2⟩
      go_wp2_with fail
      exact ⟨rfl, pr_none (HP.out.trans HO.out) (G1.out.trans g2) rfl⟩
    | some q =>
      obtain ⟨x, r'⟩ := q
      have HT := Lib.hid (pr_yes hT ho2)
      have HO := Lib.hid ho2
      clear hT ho2
      go_wp2_with fail
      refine (HT.out).mono ?_
      rintro e w2 ⟨rfl, r2, g2⟩
      go_wp2_with fail
      go_ret
      exact pr_some (HP.out.trans HO.out) (G1.out.trans g2) rfl r2

set_option maxRecDepth 1000000 in
set_option maxHeartbeats 2000000 in
theorem rdLong_c {w : World} {g : Nat} {s : ByteArray} (h : RD w g s) (hs : s.size ≤ 140737488355328) :
    Calls Tryd.prog 51 #[.pointer (some ⟨g, 0, none⟩)] w (PR w g Value.string (longP s)) := by
  have hN := rdNumber_c h 4 (by omega) 4 rfl
  clear h
  cases ho : numP 4 s with
  | none =>
    have HN := Lib.hid (pr_no hN ho)
    have HP := Lib.hid (show longP s = none by unfold longP; rw [ho]; rfl)
    clear ho hN
    go_enter Tryd.func51, Tryd.ntmps51
    go_wp2_with fail
    refine (HN.out).mono ?_
    rintro e w1 ⟨rfl, g1⟩
    go_wp2_with fail
    exact ⟨rfl, pr_none HP.out g1 rfl⟩
  | some p =>
    obtain ⟨n, r⟩ := p
    have HN := Lib.hid (pr_yes hN ho)
    have hn := numP_lt ho
    have hr := numP_size ho
    have hrI : (r.size : Int) ≤ 140737488355328 := by omega
    have hnI : (n : Int) < 4294967296 := by omega
    have HP := Lib.hid (show longP s = takeP n r by unfold longP; rw [ho]; rfl)
    clear ho hN hn hr hs
    go_enter Tryd.func51, Tryd.ntmps51
    go_wp2_with fail
    refine (HN.out).mono ?_
    rintro e w1 ⟨rfl, r1, g1⟩
    have hT := rdTake_c r1 n n rfl
    obtain ⟨c0, f0⟩ := rd_facts r1
    have G1 := Lib.hid g1
    clear r1 g1
    by_cases hle : n ≤ r.size
    · have hleI : (n : Int) ≤ r.size := by omega
      have ho2 : takeP n r = some (r.extract 0 n, r.extract n r.size) := by unfold takeP; rw [if_pos hle]
      have HT := Lib.hid (pr_yes hT ho2)
      have HO := Lib.hid ho2
      clear hT ho2 hle
      go_wp2_with (first
        | (go_at_call 49; refine unless_yes.mono ?_; rintro e w2 ⟨rfl, rfl⟩)
        | (go_at_call 67; refine (HT.out).mono ?_; rintro e w2 ⟨rfl, r2, g2⟩))
      go_ret
      exact pr_some (HP.out.trans HO.out) (G1.out.trans g2) rfl r2
    · have hleI : ¬ (n : Int) ≤ r.size := by omega
      have HO := Lib.hid (show takeP n r = none by unfold takeP; rw [if_neg hle])
      have hd : decide (n ≤ r.size) = false := decide_eq_false hle
      clear hT hle
      go_wp2_with (go_at_call 49; refine unless_no.mono ?_; rintro e w2 ⟨rfl, rfl⟩)
      exact ⟨rfl, pr_none (HP.out.trans HO.out) G1.out rfl⟩
end Go.Proofs.YteigbejidfkhpaaDoor

/- The reference's table of methods, and Form. -/
namespace Go.Proofs.YteigbejidfkhpaaDoor
open Go Go.RowKit
set_option linter.unusedSimpArgs false
set_option linter.unusedVariables false

def rowsL : List (Int × Int × ByteArray) := [(10, 10, ⟨#[111, 111, 84, 83, 83]⟩), (10, 11, ⟨#[84, 115, 83, 115]⟩), (10, 30, ⟨#[104, 108, 104]⟩), (10, 31, ⟨#[104, 108, 104]⟩), (10, 40, ⟨#[115, 115, 98]⟩), (10, 41, ⟨#[115]⟩), (10, 50, ⟨#[104, 115, 104, 104]⟩), (10, 51, ⟨#[]⟩), (20, 10, ⟨#[115]⟩), (20, 11, ⟨#[83]⟩), (20, 40, ⟨#[104, 115, 104, 104]⟩), (20, 41, ⟨#[]⟩), (50, 10, ⟨#[104, 115, 98, 84]⟩), (50, 11, ⟨#[115, 108, 108]⟩), (50, 20, ⟨#[104, 115, 115, 115, 98, 84]⟩), (50, 21, ⟨#[]⟩), (60, 10, ⟨#[108, 104, 98]⟩), (60, 11, ⟨#[]⟩), (60, 20, ⟨#[104, 115, 115, 98, 84]⟩), (60, 21, ⟨#[115]⟩), (60, 40, ⟨#[104, 115, 115, 98]⟩), (60, 60, ⟨#[115, 76, 98, 115, 115]⟩), (60, 70, ⟨#[104, 115, 98]⟩), (60, 71, ⟨#[76, 98, 115, 115, 108]⟩), (60, 72, ⟨#[115]⟩), (60, 80, ⟨#[76, 98]⟩), (60, 90, ⟨#[76, 98]⟩), (60, 120, ⟨#[76, 98]⟩), (85, 10, ⟨#[98]⟩), (85, 11, ⟨#[]⟩), (90, 10, ⟨#[]⟩), (90, 11, ⟨#[]⟩), (90, 20, ⟨#[]⟩), (90, 21, ⟨#[]⟩), (90, 30, ⟨#[]⟩), (90, 31, ⟨#[]⟩)]
def rowCells (r : Int × Int × ByteArray) : List Value := [.int .i64 r.1, .int .i64 r.2.1, .string r.2.2]
theorem rowsL_len : rowsL.length = 36 := by decide +kernel
def rowsC : Array Value := #[.int .i64 10, .int .i64 10, .string ⟨#[111, 111, 84, 83, 83]⟩, .int .i64 10, .int .i64 11, .string ⟨#[84, 115, 83, 115]⟩, .int .i64 10, .int .i64 30, .string ⟨#[104, 108, 104]⟩, .int .i64 10, .int .i64 31, .string ⟨#[104, 108, 104]⟩, .int .i64 10, .int .i64 40, .string ⟨#[115, 115, 98]⟩, .int .i64 10, .int .i64 41, .string ⟨#[115]⟩, .int .i64 10, .int .i64 50, .string ⟨#[104, 115, 104, 104]⟩, .int .i64 10, .int .i64 51, .string ⟨#[]⟩, .int .i64 20, .int .i64 10, .string ⟨#[115]⟩, .int .i64 20, .int .i64 11, .string ⟨#[83]⟩, .int .i64 20, .int .i64 40, .string ⟨#[104, 115, 104, 104]⟩, .int .i64 20, .int .i64 41, .string ⟨#[]⟩, .int .i64 50, .int .i64 10, .string ⟨#[104, 115, 98, 84]⟩, .int .i64 50, .int .i64 11, .string ⟨#[115, 108, 108]⟩, .int .i64 50, .int .i64 20, .string ⟨#[104, 115, 115, 115, 98, 84]⟩, .int .i64 50, .int .i64 21, .string ⟨#[]⟩, .int .i64 60, .int .i64 10, .string ⟨#[108, 104, 98]⟩, .int .i64 60, .int .i64 11, .string ⟨#[]⟩, .int .i64 60, .int .i64 20, .string ⟨#[104, 115, 115, 98, 84]⟩, .int .i64 60, .int .i64 21, .string ⟨#[115]⟩, .int .i64 60, .int .i64 40, .string ⟨#[104, 115, 115, 98]⟩, .int .i64 60, .int .i64 60, .string ⟨#[115, 76, 98, 115, 115]⟩, .int .i64 60, .int .i64 70, .string ⟨#[104, 115, 98]⟩, .int .i64 60, .int .i64 71, .string ⟨#[76, 98, 115, 115, 108]⟩, .int .i64 60, .int .i64 72, .string ⟨#[115]⟩, .int .i64 60, .int .i64 80, .string ⟨#[76, 98]⟩, .int .i64 60, .int .i64 90, .string ⟨#[76, 98]⟩, .int .i64 60, .int .i64 120, .string ⟨#[76, 98]⟩, .int .i64 85, .int .i64 10, .string ⟨#[98]⟩, .int .i64 85, .int .i64 11, .string ⟨#[]⟩, .int .i64 90, .int .i64 10, .string ⟨#[]⟩, .int .i64 90, .int .i64 11, .string ⟨#[]⟩, .int .i64 90, .int .i64 20, .string ⟨#[]⟩, .int .i64 90, .int .i64 21, .string ⟨#[]⟩, .int .i64 90, .int .i64 30, .string ⟨#[]⟩, .int .i64 90, .int .i64 31, .string ⟨#[]⟩]
theorem rowsC_eq : rowsL.flatMap rowCells = rowsC.toList := by rfl
set_option maxRecDepth 1000000 in
set_option maxHeartbeats 4000000 in
theorem rows_c {w : World} : Calls Tryd.prog 45 #[] w fun e w' => e = .returned (.slice (some ⟨w.heap.size, 0, none⟩) 36 36) ∧ w' = w.alloc (.cells rowsC 80) := by
  go_enter Tryd.func45, Tryd.ntmps45
  go_wp2
  go_ret
  exact ⟨rfl, rfl⟩
theorem form_row : ∀ r ∈ rowsL, formCI r.1 r.2.1 = some r.2.2 := by decide +kernel
theorem ite_some2 {p : Prop} [Decidable p] {X : Type} {x f : X} {t : Option X} {P : X → Prop} (h : (if p then some x else t) = some f) (hx : p → P x) (ht : t = some f → P f) : P f := by
  by_cases hp : p
  · rw [if_pos hp] at h
    injection h with h
    rw [← h]
    exact hx hp
  · rw [if_neg hp] at h
    exact ht h
def InRows (x : Nat) (f : ByteArray) : Prop := (rowsL.any fun r => decide (r.1 * 256 + r.2.1 = (x : Int)) && decide (0 ≤ r.1 ∧ r.1 ≤ 255 ∧ 0 ≤ r.2.1 ∧ r.2.1 ≤ 255)) = true
set_option maxRecDepth 1000000 in
set_option maxHeartbeats 4000000 in
theorem form_in {x : Nat} {f : ByteArray} (h : formOf x = some f) : InRows x f := by
  unfold formOf at h
  repeat (refine ite_some2 (P := InRows x) h (fun e => by subst e; unfold InRows; decide +kernel) ?_; clear h; intro h)
  cases h
theorem form_none {c i : Int} (h : ∀ r ∈ rowsL, ¬ (r.1 = c ∧ r.2.1 = i)) : formCI c i = none := by
  cases hf : formCI c i with
  | none => rfl
  | some f =>
    unfold formCI at hf
    split at hf
    · rename_i g
      have := form_in hf
      unfold InRows at this
      obtain ⟨r, hr, h2⟩ := List.any_eq_true.1 this
      simp only [Bool.and_eq_true, decide_eq_true_eq] at h2
      exact absurd (⟨by omega, by omega⟩ : r.1 = c ∧ r.2.1 = i) (h r hr)
    · cases hf
end Go.Proofs.YteigbejidfkhpaaDoor

/- The reference's Form and Size. -/
namespace Go.Proofs.YteigbejidfkhpaaDoor
open Go Go.RowKit
set_option linter.unusedSimpArgs false
set_option linter.unusedVariables false

set_option maxRecDepth 100000 in
set_option maxHeartbeats 1000000 in
theorem refSize_c {w : World} (x : UInt8) : Calls Tryd.prog 46 #[.int .u8 x.toNat] w fun e w' => e = .returned (.int .i64 (sizeOf' x.toNat : Nat)) ∧ w = w' := by
  obtain ⟨c, hc⟩ : ∃ c : Int, c = (x.toNat : Int) := ⟨_, rfl⟩
  rw [← hc]
  clear hc
  by_cases g0 : c = 111
  · subst g0
    go_enter Tryd.func46, Tryd.ntmps46
    go_wp2_with fail
    go_ret
    exact ⟨rfl, rfl⟩
  have n0 : (c == 111) = false := beq_eq_false_iff_ne.2 g0
  by_cases g1 : c = 98
  · subst g1
    go_enter Tryd.func46, Tryd.ntmps46
    go_wp2_with fail
    go_ret
    exact ⟨rfl, rfl⟩
  have n1 : (c == 98) = false := beq_eq_false_iff_ne.2 g1
  by_cases g2 : c = 104
  · subst g2
    go_enter Tryd.func46, Tryd.ntmps46
    go_wp2_with fail
    go_ret
    exact ⟨rfl, rfl⟩
  have n2 : (c == 104) = false := beq_eq_false_iff_ne.2 g2
  by_cases g3 : c = 108
  · subst g3
    go_enter Tryd.func46, Tryd.ntmps46
    go_wp2_with fail
    go_ret
    exact ⟨rfl, rfl⟩
  have n3 : (c == 108) = false := beq_eq_false_iff_ne.2 g3
  by_cases g4 : c = 76
  · subst g4
    go_enter Tryd.func46, Tryd.ntmps46
    go_wp2_with fail
    go_ret
    exact ⟨rfl, rfl⟩
  have n4 : (c == 76) = false := beq_eq_false_iff_ne.2 g4
  have h : sizeOf' c = 0 := by unfold sizeOf'; rw [if_neg g0, if_neg g1, if_neg g2, if_neg g3, if_neg g4]
  rw [h]
  clear h g0 g1 g2 g3 g4
  go_enter Tryd.func46, Tryd.ntmps46
  go_wp2_with fail
  go_ret
  exact ⟨rfl, rfl⟩

theorem rc_rows (w : World) : RC (w.alloc (.cells rowsC 80)) (.slice (some ⟨w.heap.size, 0, none⟩) 36 36) 36 3 (rowsL.flatMap rowCells) := by
  have h := rc_new (fr := (0, 0)) w 80 36 3 (rowsL.flatMap rowCells) (by rw [rowsC_eq]; rfl) (by omega)
  rw [rowsC_eq, Array.toArray_toList] at h
  exact h
theorem row_cells {w : World} {g : Nat} (h : RC w (.slice (some ⟨g, 0, none⟩) 36 36) 36 3 (rowsL.flatMap rowCells)) (k : Nat) (r : Int × Int × ByteArray) (hr : rowsL[k]? = some r) :
    w.cell? ⟨g, k * 3, none⟩ = some (.int .i64 r.1) ∧ w.cell? ⟨g, k * 3 + 1, none⟩ = some (.int .i64 r.2.1) ∧ w.cell? ⟨g, k * 3 + 2, none⟩ = some (.string r.2.2) := by
  obtain ⟨A, c, he, h1, h2, h3, h4, h5⟩ := h
  injection he with e1 e2 e3
  subst e1
  have hf : ∀ (l : List (Int × Int × ByteArray)) (k : Nat), l[k]? = some r → ∀ j u, (rowCells r)[j]? = some u → (l.flatMap rowCells)[k * 3 + j]? = some u := by
    intro l
    induction l with
    | nil => intro k hk; simp at hk
    | cons a l ih =>
      intro k hk j u hu
      rw [List.flatMap_cons]
      have hj : j < 3 := by have := (List.getElem?_eq_some_iff.1 hu).1; simpa [rowCells] using this
      cases k with
      | zero =>
        simp only [List.getElem?_cons_zero, Option.some.injEq] at hk
        subst hk
        rw [Nat.zero_mul, Nat.zero_add, List.getElem?_append_left (by simpa [rowCells] using hj)]
        exact hu
      | succ k =>
        rw [List.getElem?_append_right (by simp [rowCells]; omega)]
        have := ih k (by simpa using hk) j u hu
        rw [show (k + 1) * 3 + j - (rowCells a).length = k * 3 + j by simp [rowCells]; omega]
        exact this
  have hg : ∀ j u, (rowCells r)[j]? = some u → w.cell? ⟨g, k * 3 + j, none⟩ = some u := fun j u hu => by
    obtain ⟨a, ha, hc⟩ := h5 _ u (hf rowsL k hr j u hu)
    injection ha with ha
    rw [← ha, add_plain] at hc
    exact hc
  exact ⟨hg 0 _ rfl, hg 1 _ rfl, hg 2 _ rfl⟩
set_option maxRecDepth 1000000 in
set_option maxHeartbeats 4000000 in
theorem refForm_c {w : World} (c i : Int) :
    Calls Tryd.prog 24 #[.int .i64 c, .int .i64 i] w fun e w' => e = .returned (.tuple #[.string ((formCI c i).getD ByteArray.empty), .bool (formCI c i).isSome]) ∧ Below w.heap.size w w' := by
  have HR := Lib.hid (rc_rows w)
  have HB := Lib.hid (below_al1 w (.cells rowsC 80))
  obtain ⟨T, hT⟩ : ∃ T : Ending → Prop, T = fun e => e = .returned (.tuple #[.string ((formCI c i).getD ByteArray.empty), .bool (formCI c i).isSome]) := ⟨_, rfl⟩
  have HY := Lib.hid (show ∀ f, formCI c i = some f → T (.returned (.tuple #[.string f, .bool true])) from fun f h => by rw [hT, h]; rfl)
  have HN := Lib.hid (show formCI c i = none → T (.returned (.tuple #[.string ByteArray.empty, .bool false])) from fun h => by rw [hT, h]; rfl)
  suffices h : Calls Tryd.prog 24 #[.int .i64 c, .int .i64 i] w fun e w' => T e ∧ Below w.heap.size w w' by
    rw [hT] at h
    exact h
  clear hT
  go_enter Tryd.func24, Tryd.ntmps24
  go_wp2_with fail
  refine rows_c.mono ?_
  rintro e w1 ⟨rfl, hw1⟩
  rw [← hw1] at HR HB
  clear hw1
  go_wp2_with fail
  go_loopw [10] (fun s10 wr => ∃ k : Nat, k ≤ 36 ∧ s10 = .int .i64 k ∧ Hid (∀ j r, j < k → rowsL[j]? = some r → ¬ (r.1 = c ∧ r.2.1 = i)) ∧ Hid (Below w1.heap.size w1 wr)) (fun s10 _ => 36 - (intOf s10).toNat)
  case atStart => exact ⟨0, by omega, rfl, Lib.hid (fun j r h => by omega), Lib.hid (Below.refl _ _)⟩
  case round =>
    obtain ⟨k, hk, rfl, HJ, B2⟩ := hrel
    have BR := Lib.hid (HB.out.trans (B2.out.mono HB.out.size))
    by_cases hlt : k < 36
    · obtain ⟨r, hr⟩ : ∃ r, rowsL[k]? = some r := ⟨_, List.getElem?_eq_getElem (by rw [rowsL_len]; exact hlt)⟩
      obtain ⟨q0, q1, q2⟩ := row_cells (rc_below HR.out B2.out) k r hr
      have hf := Lib.hid (form_row r (List.mem_of_getElem? hr))
      obtain ⟨rc, ri, rf⟩ := r
      have HRR := Lib.hid hr
      have hltI : (k : Int) < 36 := by omega
      have hk0 : (0 : Int) ≤ k := by omega
      have HLT := Lib.hid hlt
      have BN := Lib.hid (BR.out.alloc BR.out.size (.cells #[.int .i64 rc, .int .i64 ri, .string rf] 80))
      have BM := Lib.hid (B2.out.alloc B2.out.size (.cells #[.int .i64 rc, .int .i64 ri, .string rf] 80))
      dsimp only at q0 q1 q2 hf
      clear hr hlt hk
      by_cases h1 : rc = c
      · by_cases h2 : ri = i
        · subst h1 h2
          go_wp2_with fail
          go_ret2
          exact ⟨HY.out _ hf.out, BN.out⟩
        · have h2b : (ri == i) = false := beq_eq_false_iff_ne.2 h2
          have H2 := Lib.hid h2
          subst h1
          clear h2
          go_wp2_with fail
          go_roundw
          case rel => exact ⟨k + 1, HLT.out, by go_num, Lib.hid (fun j r hj hjr => by
            by_cases e : j = k
            · subst e
              rw [HRR.out] at hjr
              injection hjr with hjr
              rw [← hjr]
              exact fun h => H2.out h.2
            · exact HJ.out j r (by omega) hjr), BM⟩
          case measure => have := HLT.out; simp [intOf]; omega
      · have h1b : (rc == c) = false := beq_eq_false_iff_ne.2 h1
        have H1 := Lib.hid h1
        clear h1
        go_wp2_with fail
        go_roundw
        case rel => exact ⟨k + 1, HLT.out, by go_num, Lib.hid (fun j r hj hjr => by
          by_cases e : j = k
          · subst e
            rw [HRR.out] at hjr
            injection hjr with hjr
            rw [← hjr]
            exact fun h => H1.out h.1
          · exact HJ.out j r (by omega) hjr), BM⟩
        case measure => have := HLT.out; simp [intOf]; omega
    · have hge : (36 : Int) ≤ k := by omega
      have hno := Lib.hid (form_none (c := c) (i := i) (fun r hr => by
        obtain ⟨j, hj, e⟩ := List.mem_iff_getElem.1 hr
        exact HJ.out j r (by rw [rowsL_len] at hj; omega) (by rw [List.getElem?_eq_getElem hj, e])))
      clear hlt hk
      go_wp2_with fail
      go_ret2
      exact ⟨HN.out hno.out, BR.out⟩
end Go.Proofs.YteigbejidfkhpaaDoor

/- Plain law: a float's bytes tell the float. -/
namespace Go.Proofs.YteigbejidfkhpaaDoor
open Go Go.RowKit
set_option linter.unusedSimpArgs false
set_option linter.unusedVariables false

theorem narB_spec {r n : Nat} (hn : nanB r = false) (h : narB r = some n) : ∃ v, widenE n = some v ∧ Ieee.double.order v r = some .eq ∧ v < 2 ^ 64 := by
  have hw : ∀ d, Ieee.double.write d < 2 ^ 64 := fun d => Ieee.Format.write_lt Ieee.double d
  cases hrd : Ieee.double.read r with
  | nan s t => exact absurd hrd (nar_nan hn s t)
  | infinity s =>
    have e : narB r = some (Ieee.single.write (.infinity s)) := by unfold narB; rw [if_neg (by rw [hn]; decide), hrd]
    rw [e] at h
    injection h with h
    subst h
    refine ⟨Ieee.double.write (.infinity s), by cases s <;> decide, ?_, hw _⟩
    unfold Ieee.Format.order
    rw [hrd, show Ieee.double.read (Ieee.double.write (.infinity s)) = .infinity s by cases s <;> decide]
    cases s <;> rfl
  | number s m e =>
    cases hi : (Ieee.single.read (Ieee.single.write (.number s m e))).isInfinity with
    | true =>
      have en : narB r = none := by unfold narB; rw [if_neg (by rw [hn]; decide), hrd]; show (if _ then _ else _) = _; rw [if_pos hi]
      rw [en] at h
      cases h
    | false =>
      cases hv : widenE (Ieee.single.write (.number s m e)) with
      | none => rw [narB_none hn hrd hi hv] at h; cases h
      | some v =>
        rw [narB_some hn hrd hi hv] at h
        split at h
        · rename_i ho
          injection h with h
          subst h
          refine ⟨v, hv, ho, ?_⟩
          unfold widenE at hv
          split at hv
          · injection hv with hv; rw [← hv]; exact hw _
          · injection hv with hv; rw [← hv]; exact hw _
          · cases hv
        · cases h

theorem narB_inj {r r' n : Nat} (hr : r < 2 ^ 64) (hr' : r' < 2 ^ 64) (hc : r = canonR r) (hc' : r' = canonR r') (h : narB r = some n) (h' : narB r' = some n) : r = r' := by
  have hnan : ∀ x, nanB x = true → narB x = some 2143289344 := fun x hx => by unfold narB; rw [if_pos hx]
  have hwn : widenE 2143289344 = none := by decide
  cases h1 : nanB r with
  | true =>
    cases h2 : nanB r' with
    | true => rw [hc, hc', canonR, canonR, h1, h2]; rfl
    | false =>
      rw [hnan r h1] at h
      injection h with h
      subst h
      obtain ⟨v, hv, _⟩ := narB_spec h2 h'
      rw [hwn] at hv
      cases hv
  | false =>
    cases h2 : nanB r' with
    | true =>
      rw [hnan r' h2] at h'
      injection h' with h'
      subst h'
      obtain ⟨v, hv, _⟩ := narB_spec h1 h
      rw [hwn] at hv
      cases hv
    | false =>
      obtain ⟨v, hv, ho, hl⟩ := narB_spec h1 h
      obtain ⟨v', hv', ho', _⟩ := narB_spec h2 h'
      rw [hv] at hv'
      injection hv' with hv'
      subst hv'
      have z0 : narB 0 = some 0 := by decide +kernel
      have z1 : narB (2 ^ 63) = some (2 ^ 31) := by decide +kernel
      rcases FloatL.order_eq hl hr ho with ⟨a, b⟩ | a
      · rcases FloatL.order_eq hl hr' ho' with ⟨c, d⟩ | c
        · have e1 : r = 0 ∨ r = 2 ^ 63 := by omega
          have e2 : r' = 0 ∨ r' = 2 ^ 63 := by omega
          rcases e1 with rfl | rfl <;> rcases e2 with rfl | rfl
          · rfl
          · rw [z0] at h; rw [z1] at h'; rw [← h] at h'; injection h' with h'; exact absurd h' (by decide)
          · rw [z1] at h; rw [z0] at h'; rw [← h] at h'; injection h' with h'; exact absurd h' (by decide)
          · rfl
        · subst c
          have e1 : r = 0 ∨ r = 2 ^ 63 := by omega
          have e2 : v = 0 ∨ v = 2 ^ 63 := by omega
          rcases e1 with rfl | rfl <;> rcases e2 with rfl | rfl
          · rfl
          · rw [z0] at h; rw [z1] at h'; rw [← h] at h'; injection h' with h'; exact absurd h' (by decide)
          · rw [z1] at h; rw [z0] at h'; rw [← h] at h'; injection h' with h'; exact absurd h' (by decide)
          · rfl
      · subst a
        rcases FloatL.order_eq hl hr' ho' with ⟨c, d⟩ | c
        · have e1 : v = 0 ∨ v = 2 ^ 63 := by omega
          have e2 : r' = 0 ∨ r' = 2 ^ 63 := by omega
          rcases e1 with rfl | rfl <;> rcases e2 with rfl | rfl
          · rfl
          · rw [z0] at h; rw [z1] at h'; rw [← h] at h'; injection h' with h'; exact absurd h' (by decide)
          · rw [z1] at h; rw [z0] at h'; rw [← h] at h'; injection h' with h'; exact absurd h' (by decide)
          · rfl
        · exact c
end Go.Proofs.YteigbejidfkhpaaDoor

/- Plain law: a property list's bytes tell the list. -/
namespace Go.Proofs.YteigbejidfkhpaaDoor
open Go Go.RowKit
set_option linter.unusedSimpArgs false
set_option linter.unusedVariables false

theorem beB_inj {n m k : Nat} (hn : n < 256 ^ k) (hm : m < 256 ^ k) (h : beB n k = beB m k) : n = m := by
  have := congrArg natB h
  rwa [natB_beB, natB_beB, Nat.mod_eq_of_lt hn, Nat.mod_eq_of_lt hm] at this
theorem realB_inj {r r' : Nat} {u u' : List UInt8} (hr : r < 2 ^ 64) (hr' : r' < 2 ^ 64) (hc : r = canonR r) (hc' : r' = canonR r') (h : realB r ++ u = realB r' ++ u') : r = r' ∧ u = u' := by
  unfold realB at h
  cases h1 : narB r with
  | none =>
    rw [h1] at h
    cases h2 : narB r' with
    | none =>
      rw [h2] at h
      simp only [List.cons_append, List.cons.injEq, true_and] at h
      obtain ⟨a, b⟩ := List.append_inj h (by rw [beB_len, beB_len])
      exact ⟨beB_inj (by simpa using hr) (by simpa using hr') a, b⟩
    | some n => rw [h2] at h; simp at h
  | some n =>
    rw [h1] at h
    cases h2 : narB r' with
    | none => rw [h2] at h; simp at h
    | some m =>
      rw [h2] at h
      simp only [List.cons_append, List.cons.injEq, true_and] at h
      obtain ⟨a, b⟩ := List.append_inj h (by rw [beB_len, beB_len])
      have hnm : n = m := beB_inj (by have := narB_lt h1; simpa using this) (by have := narB_lt h2; simpa using this) a
      subst hnm
      exact ⟨narB_inj hr hr' hc hc' h1 h2, b⟩
end Go.Proofs.YteigbejidfkhpaaDoor
