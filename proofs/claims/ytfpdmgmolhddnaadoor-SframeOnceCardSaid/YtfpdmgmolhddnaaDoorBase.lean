/- Words of this seat's proofs: bytes that are read, bytes that a call has made, appends; the listed variables. -/
import Derived.Handy
import Derived.Lib.Hide
import Derived.Lib.AppendStr
import Derived.Lib.BufferWrite
import Derived.WalkLawsBesides
import Derived.WalkSpells
import Derived.OwnWalk
import Derived.Maps.AppendAt
import Derived.Laws.BytesArg
import Derived.Deep.DeepFit
import Derived.Deep.DeepMust
import Derived.Deep.LoopGhost
import Derived.Outline
import Derived.Laws.Slices
import Derived.Laws.IdiomStrings
import Derived.RowKit3
import Derived.Test.YtfpdmgmolhddnaaDoorProg
namespace Go.Proofs.YtfpdmgmolhddnaaDoor
open Go Go.RowKit

/-! ### rows of cells -/
/-- The slice value v of n elements (size cells each) reads as the cells cs. -/
def RC (w : World) (v : Value) (n size : Nat) (cs : List Value) : Prop :=
  ∃ A c, v = .slice A n c ∧ n ≤ c ∧ c ≤ 9223372036854775807 ∧ cs.length = n * size ∧ (A = none → c = 0) ∧ ∀ j u, cs[j]? = some u → ∃ a, A = some a ∧ w.cell? (a.add j) = some u

theorem add_plain (g j : Nat) : (⟨g, 0, none⟩ : Addr).add j = ⟨g, j, none⟩ := by unfold Addr.add; split <;> simp_all

theorem own_rc {w : World} {base e size n : Nat} {v : Value} {xs : List Value} (h : w.ownsRow base e size v n xs) : RC w v n size xs := by
  obtain ⟨h1, h2⟩ := h
  rcases h2 with ⟨rfl, rfl⟩ | ⟨g, cap, cur, rfl, hb, hh, hn, hc, hs, ht⟩
  · refine ⟨none, 0, rfl, Nat.le_refl _, by omega, h1, fun _ => rfl, fun j u hu => ?_⟩
    have : xs = [] := List.eq_nil_of_length_eq_zero (by simpa using h1)
    subst this
    simp at hu
  · refine ⟨_, cap, rfl, hn, by simpa [maxLen] using hc, h1, (fun h => by cases h), fun j u hu => ⟨_, rfl, ?_⟩⟩
    have h' : w.ownsRow base e size (.slice (some ⟨g, 0, none⟩) n cap) n xs := ⟨h1, .inr ⟨g, cap, cur, rfl, hb, hh, hn, hc, hs, ht⟩⟩
    exact h'.cells (g := g) rfl j u hu

theorem cell_below {w w1 : World} {B : Nat} (h : Below B w w1) {a : Addr} {v : Value} (hB : a.block < B) (hc : w.cell? a = some v) : w1.cell? a = some v := (h.cell hB).trans hc

theorem add_block (a : Addr) (j : Nat) : (a.add j).block = a.block := by unfold Addr.add; split <;> rfl

theorem rc_below {w w1 : World} {v : Value} {n size : Nat} {cs : List Value} (h : RC w v n size cs) (hb : Below w.heap.size w w1) : RC w1 v n size cs := by
  obtain ⟨A, c, rfl, h1, h2, h3, h4, h5⟩ := h
  refine ⟨A, c, rfl, h1, h2, h3, h4, fun j u hu => ?_⟩
  obtain ⟨a, ha, hc⟩ := h5 j u hu
  exact ⟨a, ha, cell_below hb (World.block_lt_of_cell? w _ hc) hc⟩

theorem rc_alloc {w : World} {v : Value} {n size : Nat} {cs : List Value} (h : RC w v n size cs) (o : Obj) : RC (w.alloc o) v n size cs :=
  rc_below h ((Below.refl _ _).alloc (Nat.le_refl _) o)

theorem rc_drew {w : World} {v : Value} {n size : Nat} {cs : List Value} (h : RC w v n size cs) : RC w.drew v n size cs :=
  rc_below h ((Below.refl _ _).drew)

/-- A block that was just made. -/
theorem rc_new {fr : Nat × Nat} (w : World) (e n size : Nat) (cs : List Value) (hl : cs.length = n * size) (hn : n ≤ 9223372036854775807) : RC (w.alloc (.cells cs.toArray e fr)) (.slice (some ⟨w.heap.size, 0, none⟩) n n) n size cs := by
  refine ⟨_, n, rfl, Nat.le_refl _, hn, hl, (fun h => by cases h), fun j u hu => ⟨_, rfl, ?_⟩⟩
  rw [add_plain]
  have := heap_alloc_new w (.cells cs.toArray e fr)
  simp only [World.cell?, this]
  simpa using hu

theorem own_below {w w1 : World} {base e size n : Nat} {v : Value} {xs : List Value} (h : w.ownsRow base e size v n xs) (hb : Below w.heap.size w w1) : w1.ownsRow base e size v n xs := by
  obtain ⟨h1, h2⟩ := h
  refine ⟨h1, ?_⟩
  rcases h2 with h2 | ⟨g, cap, cur, rfl, hg, hh, r⟩
  · exact .inl h2
  · exact .inr ⟨g, cap, cur, rfl, hg, (hb.block g (Array.getElem?_eq_some_iff.1 hh).1).trans hh, r⟩

theorem own_base {w : World} {base e size n : Nat} {v : Value} {xs : List Value} (h : w.ownsRow base e size v n xs) (k : Nat) (hk : v.ownBlock = some k) : base ≤ k := by
  rcases h.2 with ⟨rfl, _⟩ | ⟨g, cap, cur, rfl, hb, _⟩
  · simp [Value.ownBlock] at hk
  · have : g = k := by simpa [Value.ownBlock] using hk
    omega

theorem own_nil (W : World) (base e size : Nat) : W.ownsRow base e size (.slice none 0 0) 0 [] := ⟨by simp, .inl ⟨rfl, rfl⟩⟩

theorem own_lower {w : World} {base base' e size n : Nat} {v : Value} {xs : List Value} (h : w.ownsRow base e size v n xs) (hb : base' ≤ base) : w.ownsRow base' e size v n xs := by
  obtain ⟨h1, h2⟩ := h
  refine ⟨h1, ?_⟩
  rcases h2 with h2 | ⟨g, cap, cur, rfl, hg, r⟩
  · exact .inl h2
  · exact .inr ⟨g, cap, cur, rfl, by omega, r⟩

/-- What is written is another row. -/
theorem own_other {w w1 : World} {base e size n : Nat} {v : Value} {xs : List Value} (h : w.ownsRow base e size v n xs) {row : Option Nat} (hg : w.grownBy w1 row) (hne : ∀ k, v.ownBlock = some k → row ≠ some k) : w1.ownsRow base e size v n xs := by
  obtain ⟨h1, h2⟩ := h
  refine ⟨h1, ?_⟩
  rcases h2 with h2 | ⟨g, cap, cur, rfl, hgb, hh, r⟩
  · exact .inl h2
  · exact .inr ⟨g, cap, cur, rfl, hgb, (hg.block g (Array.getElem?_eq_some_iff.1 hh).1 (fun e => hne g (by simp [Value.ownBlock]) e.symm)).trans hh, r⟩

section
variable {P : Program} {ops : Array Oper} {rest : List Oper} {o : Oper} {a : Act} {Q : Exit → Act → World → Prop}
/-- append(v, u...): v a row of the call's own, u a row that is read (nil too). -/
theorem run_app {W : World} (base t ty e : Nat) (size bytes : Nat) (z : Value) (ht : P.underlying t = some (.slice e))
    (hinfo : (P.info? e).map (fun i => (i.zero, i.size, i.bytes)) = some (some z, size, bytes)) (hz : z.cells.size = size) (hs0 : 0 < size)
    (v u : Value) (n m : Nat) (xs news : List Value) (hown : W.ownsRow base e size v n xs) (hr : RC W u m size news) (h1 : ∀ y ∈ news, y.oneCell' = true)
    (hb : (n + m) * bytes ≤ 140737488355328) (h63 : n + m ≤ 9223372036854775807) (hbase : base ≤ W.heap.size) :
    ∃ v1 w1, (Builtin.append_ #[t, t] ty #[v, u]).run P W = .ok v1 w1 ∧ w1.ownsRow base e size v1 (n + m) (xs ++ news) ∧ W.grownBy w1 v.ownBlock ∧ (v1.ownBlock = v.ownBlock ∨ v1.ownBlock = some W.heap.size) := by
  obtain ⟨i0, hi, hzz⟩ := Option.map_eq_some_iff.1 hinfo
  simp only [Prod.mk.injEq] at hzz
  obtain ⟨hz0, hz1, hz2⟩ := hzz
  obtain ⟨A, c, rfl, hmc, hc63, hl, hA, hcells⟩ := hr
  rcases A with _ | ad
  · have hc0 := hA rfl
    have h0 : m = 0 := by omega
    subst h0
    have hn : news = [] := List.eq_nil_of_length_eq_zero (by simpa using hl)
    subst hn
    refine ⟨v, W, ?_, by simpa using hown, World.grownBy.refl W _, .inl rfl⟩
    rcases hown.2 with ⟨rfl, hn⟩ | ⟨g, cap, cur, rfl, _, _, hnc, _⟩
    · simp [Builtin.append_, run_underlying ht, sizeOf, typeInfo, hi, Builtin.lenOf, Builtin.firstCells]
    · simp [Builtin.append_, run_underlying ht, sizeOf, typeInfo, hi, Builtin.lenOf, Builtin.firstCells, hnc, storeCells]
  · obtain ⟨v1, w1, hrun, h2, h3, _, h5⟩ := run_append_own_at (P := P) W base t ty e i0 z size bytes ht hi hz0 hz1 hz2 hz hs0 v n xs hown ad m c news hl
      (fun j u hu => by obtain ⟨a', ha, hc⟩ := hcells j u hu; injection ha with ha; subst ha; exact hc) h1 (by simp only [maxLen]; omega) hb hbase
    exact ⟨v1, w1, hrun, h2, h3, h5⟩

theorem app_own {w0 W : World} (base t e : Nat) (size bytes : Nat) (z : Value) (ht : P.underlying t = some (.slice e))
    (hinfo : (P.info? e).map (fun i => (i.zero, i.size, i.bytes)) = some (some z, size, bytes)) (hz : z.cells.size = size) (hs0 : 0 < size)
    (hgd : o.guard = none) (s x : Operand) (ho : o.op = .call { callee := .builtin .append, args := #[s, x], argTypes := #[t, t] })
    (v u : Value) (n m : Nat) (xs news : List Value) (hs : a.eval s = v) (hx : a.eval x = u) (hown : W.ownsRow base e size v n xs) (hr : RC W u m size news) (h1 : ∀ y ∈ news, y.oneCell' = true)
    (hB : Below base w0 W) (hb : (n + m) * bytes ≤ 140737488355328) (h63 : n + m ≤ 9223372036854775807) (hbase : base ≤ W.heap.size)
    (h : ∀ v1 w1, w1.ownsRow base e size v1 (n + m) (xs ++ news) → Below base w0 w1 → W.grownBy w1 v.ownBlock → (v1.ownBlock = v.ownBlock ∨ v1.ownBlock = some W.heap.size) → wpList P ops Q rest (a.put o.dst v1) w1) :
    wpList P ops Q (o :: rest) a W := by
  obtain ⟨v1, w1, hrun, h2, h3, h5⟩ := run_app (P := P) base t o.type e size bytes z ht hinfo hz hs0 v u n m xs news hown hr h1 hb h63 hbase
  refine wpList_plain hgd fun K hK => ?_
  unfold Oper.wp execOp
  simp only [ho, resolve, invoke, builtin, Sem.run_bind, Sem.run_pure, Result.andThen_ok, List.map_toArray, List.map_cons, List.map_nil, hs, hx, hrun]
  exact hK _ _ (h v1 w1 h2 (hB.grown h3 hbase (own_base hown)) h3 h5)
end

/-! ### bytes -/
/-- v reads as the bytes l. -/
def RB (w : World) (v : Value) (l : List UInt8) : Prop := RC w v l.length 1 (Lib.byteCells l)
/-- v is a row of the call's own, of the bytes l. -/
def OB (w : World) (base : Nat) (v : Value) (l : List UInt8) : Prop := w.ownsRow base 5 1 v l.length (Lib.byteCells l)
theorem ob_rb {w : World} {base : Nat} {v : Value} {l : List UInt8} (h : OB w base v l) : RB w v l := own_rc h
theorem ob_nil (w : World) (base : Nat) : OB w base (.slice none 0 0) [] := own_nil _ _ _ _
theorem rb_one (w : World) (x : UInt8) : RB (w.alloc (.cells #[.int .u8 x.toNat] 5)) (.slice (some ⟨w.heap.size, 0, none⟩) 1 1) [x] :=
  rc_new w 5 1 1 (Lib.byteCells [x]) rfl (by omega)

theorem info_u8 : (Tryd.prog.info? 5).map (fun i => (i.zero, i.size, i.bytes)) = some (some (.int .u8 0), 1, 1) := by kernel_rfl

theorem app_b {ops : Array Oper} {rest : List Oper} {o : Oper} {a : Act} {Q : Exit → Act → World → Prop} {w0 W : World} {base : Nat} {l m : List UInt8} {v u : Value}
    (hgd : o.guard = none) (s x : Operand) (ho : o.op = .call { callee := .builtin .append, args := #[s, x], argTypes := #[58, 58] })
    (hs : a.eval s = v) (hx : a.eval x = u) (hown : OB W base v l) (hr : RB W u m) (hB : Below base w0 W) (hbase : base ≤ W.heap.size) (hb : l.length + m.length ≤ 140737488355328)
    (h : ∀ v1 w1, OB w1 base v1 (l ++ m) → Below base w0 w1 → W.grownBy w1 v.ownBlock → (v1.ownBlock = v.ownBlock ∨ v1.ownBlock = some W.heap.size) → wpList Tryd.prog ops Q rest (a.put o.dst v1) w1) :
    wpList Tryd.prog ops Q (o :: rest) a W :=
  app_own base 58 5 1 1 (.int .u8 0) Tryd.underlying58 info_u8 rfl (by decide) hgd s x ho v u _ _ _ _ hs hx hown hr (Lib.byteCells_one _) hB (by omega) (by omega) hbase
    (fun v1 w1 h1 h2 h3 h4 => h v1 w1 (by unfold OB; rw [List.length_append, Lib.byteCells_append]; exact h1) h2 h3 h4)

theorem app_s {ops : Array Oper} {rest : List Oper} {o : Oper} {a : Act} {Q : Exit → Act → World → Prop} {w0 W : World} {base : Nat} {l : List UInt8} {v : Value}
    (hgd : o.guard = none) (s x : Operand) (ho : o.op = .call { callee := .builtin .append, args := #[s, x], argTypes := #[58, 9] })
    (y : ByteArray) (hs : a.eval s = v) (hx : a.eval x = .string y) (hown : OB W base v l) (hB : Below base w0 W) (hbase : base ≤ W.heap.size) (hb : l.length + y.size ≤ 140737488355328)
    (h : ∀ v1 w1, OB w1 base v1 (l ++ y.data.toList) → Below base w0 w1 → W.grownBy w1 v.ownBlock → wpList Tryd.prog ops Q rest (a.put o.dst v1) w1) :
    wpList Tryd.prog ops Q (o :: rest) a W := by
  obtain ⟨i0, hi, hzz⟩ := Option.map_eq_some_iff.1 info_u8
  simp only [Prod.mk.injEq] at hzz
  obtain ⟨hz0, hz1, hz2⟩ := hzz
  refine Lib.wpList_append_own_string W hgd s x 58 9 ho base 5 i0 Tryd.underlying58 Tryd.underlying9 hi hz0 hz1 hz2 v l.length (Lib.byteCells l) hs hown y hx (by simp only [maxLen]; omega) hb hbase ?_
  intro v1 w1 hown1 hg _
  refine h v1 w1 ?_ (hB.grown hg hbase (own_base hown)) hg
  unfold OB
  rw [List.length_append, Lib.byteCells_append, Array.length_toList]
  exact hown1

theorem add_add (a : Addr) (i j : Nat) : (a.add i).add j = a.add (i + j) := by
  unfold Addr.add
  by_cases h1 : i = 0 <;> by_cases h2 : j = 0 <;> simp [h1, h2, Nat.add_assoc]

/-- What is cut off behind. -/
theorem rc_take {w : World} {A : Option Addr} {n c size : Nat} {cs : List Value} (h : RC w (.slice A n c) n size cs) (k : Nat) (hk : k ≤ n) : RC w (.slice A k c) k size (cs.take (k * size)) := by
  obtain ⟨A', c', he, h1, h2, h3, h4, h5⟩ := h
  injection he with e1 e2 e3
  subst e1 e3
  refine ⟨A, c, rfl, by omega, h2, ?_, h4, fun j u hu => ?_⟩
  · rw [List.length_take, h3]
    have := Nat.mul_le_mul_right size hk
    omega
  · rw [List.getElem?_take] at hu
    split at hu
    · exact h5 j u hu
    · cases hu

/-- What is cut off in front: the address is a letter. -/
theorem rc_drop {P : Program} {t e : TypeId} {i : TypeInfo} (ht : P.underlying t = some (.slice e)) (hi : P.info? e = some i) (A : Option Addr) (n c : Nat) (hnc : n ≤ c) (j : Int) (h0 : 0 ≤ j) (hj : j ≤ n) :
    ∃ A' : Option Addr, (∀ W : World, (Instr.slice t (.slice A n c) (some (.int .i64 j)) none none).run P W = .ok (.slice A' (n - j.toNat) (c - j.toNat)) W) ∧
      (∀ (w : World) (cs : List Value), RC w (.slice A n c) n i.size cs → RC w (.slice A' (n - j.toNat) (c - j.toNat)) (n - j.toNat) i.size (cs.drop (j.toNat * i.size))) ∧ ∀ a', A' = some a' → ∃ a, A = some a ∧ a'.block = a.block := by
  obtain ⟨m, rfl⟩ := Int.eq_ofNat_of_zero_le h0
  simp only [Int.toNat_natCast]
  have hm : m ≤ n := by omega
  refine ⟨if c = m then A else A.map (·.add (m * i.size)), fun W => ?_, fun w cs h => ?_, fun a' ha => ?_⟩
  · have hel : P.elem t = e := by simp [Program.elem, ht]
    have hu : P.underlying t = some (.slice (P.elem t)) := by rw [hel]; exact ht
    rw [run_slice_l W t A n c hu .i64 (m : Int) (Int.natCast_nonneg _) (by omega), hel]
    simp [sizeOf, typeInfo, hi, sliced, Result.andThen]
  · obtain ⟨A', c', he, h1, h2, h3, h4, h5⟩ := h
    injection he with e1 e2 e3
    subst e1 e3
    refine ⟨_, c - m, rfl, by omega, by omega, ?_, ?_, fun q u hu => ?_⟩
    · rw [List.length_drop, h3, ← Nat.sub_mul]
    · intro hA
      split at hA
      · have := h4 hA; omega
      · have : A = none := by simpa using hA
        have := h4 this; omega
    · rw [List.getElem?_drop] at hu
      obtain ⟨a, ha, hc⟩ := h5 _ u hu
      subst ha
      split
      · rename_i hcm
        have hq : m * i.size + q < cs.length := (List.getElem?_eq_some_iff.1 hu).1
        have : m * i.size + q < m * i.size := by
          have hnm : n = m := by omega
          rw [h3, hnm] at hq
          exact hq
        omega
      · exact ⟨a.add (m * i.size), rfl, by rw [add_add]; exact hc⟩
  · split at ha
    · exact ⟨a', ha, rfl⟩
    · obtain ⟨a, h1, h2⟩ := Option.map_eq_some_iff.1 ha
      exact ⟨a, h1, by rw [← h2, add_block]⟩

theorem rb_take {w : World} {A : Option Addr} {n c : Nat} {l : List UInt8} (h : RB w (.slice A n c) l) (hn : n = l.length) (k : Nat) (hk : k ≤ n) : RB w (.slice A k c) (l.take k) := by
  subst hn
  have := rc_take h k hk
  unfold RB
  rw [List.length_take, Nat.min_eq_left hk]
  have e : Lib.byteCells (l.take k) = (Lib.byteCells l).take (k * 1) := by simp [Lib.byteCells, List.map_take]
  rw [e]
  exact this

theorem rb_drop (A : Option Addr) (c : Nat) (l : List UInt8) (hnc : l.length ≤ c) (j : Int) (h0 : 0 ≤ j) (hj : j ≤ l.length) :
    ∃ A' : Option Addr, (∀ W : World, (Instr.slice 58 (.slice A l.length c) (some (.int .i64 j)) none none).run Tryd.prog W = .ok (.slice A' (l.length - j.toNat) (c - j.toNat)) W) ∧
      (∀ w : World, RB w (.slice A l.length c) l → RB w (.slice A' (l.length - j.toNat) (c - j.toNat)) (l.drop j.toNat)) ∧ ∀ a', A' = some a' → ∃ a, A = some a ∧ a'.block = a.block := by
  obtain ⟨i0, hi, hzz⟩ := Option.map_eq_some_iff.1 info_u8
  simp only [Prod.mk.injEq] at hzz
  obtain ⟨hz0, hz1, hz2⟩ := hzz
  obtain ⟨A', h1, h2, h3⟩ := rc_drop (P := Tryd.prog) Tryd.underlying58 hi A l.length c hnc j h0 hj
  refine ⟨A', h1, fun w h => ?_, h3⟩
  have := h2 w _ (by rw [hz1]; exact h)
  rw [hz1] at this
  unfold RB
  rw [List.length_drop]
  have e : Lib.byteCells (l.drop j.toNat) = (Lib.byteCells l).drop (j.toNat * 1) := by simp [Lib.byteCells, List.map_drop]
  rw [e]
  exact this

theorem rb_cell {w : World} {A : Option Addr} {n c : Nat} {l : List UInt8} (h : RB w (.slice A n c) l) (j : Nat) (x : UInt8) (hx : l[j]? = some x) : ∃ a, A = some a ∧ w.cell? (a.add j) = some (.int .u8 x.toNat) := by
  obtain ⟨A', c', he, _, _, _, _, h5⟩ := h
  injection he with e1 e2 e3
  subst e1
  exact h5 j _ (by simp [Lib.byteCells, hx])

theorem rb_string {w : World} {v : Value} {l : List UInt8} (h : RB w v l) : (convert 58 9 v).run Tryd.prog w = .ok (.string ⟨l.toArray⟩) w := by
  obtain ⟨A, c, rfl, h1, h2, h3, h4, h5⟩ := h
  rcases A with _ | a
  · have := h4 rfl
    have hl : l = [] := List.eq_nil_of_length_eq_zero (by omega)
    subst hl
    exact run_convert_bytes_nil w _ _ Tryd.underlying58 Tryd.underlying5 _ _ _ Tryd.underlying9
  · refine run_convert_bytes_back w _ _ _ a c l Tryd.underlying58 Tryd.underlying5 Tryd.underlying9 (fun j hj => ?_)
    obtain ⟨a', ha, hc⟩ := h5 j (.int .u8 l[j].toNat) (by simp [Lib.byteCells, hj])
    injection ha with ha
    subst ha
    exact hc

theorem rb_below {w w1 : World} {v : Value} {l : List UInt8} (h : RB w v l) (hb : Below w.heap.size w w1) : RB w1 v l := rc_below h hb
theorem below_drewN (w : World) (n : Nat) : Below w.heap.size w (w.drewN n) := ⟨rfl, rfl, rfl, Nat.le_refl _, fun _ _ => rfl⟩
theorem grownBy_drewN (w : World) (n : Nat) (r : Option Nat) : w.grownBy (w.drewN n) r := ⟨rfl, rfl, rfl, Nat.le_refl _, fun _ _ _ => rfl⟩
theorem grownBy_set (w : World) (g j : Nat) (u : Value) : w.grownBy (w.setCell ⟨g, j, none⟩ u) (some g) :=
  ⟨rfl, rfl, rfl, by simp [World.setCell], fun k _ h => Below.heap_setCell w ⟨g, j, none⟩ u k (by rintro rfl; exact h rfl)⟩
theorem grownBy_below {w w1 : World} (h : Below w.heap.size w w1) (r : Option Nat) : w.grownBy w1 r := ⟨h.os, h.tape, h.output, h.size, fun k hk _ => h.block k hk⟩
theorem grownBy_trans {a b c : World} {r : Option Nat} (h : a.grownBy b r) (k : b.grownBy c r) : a.grownBy c r := h.trans k
/-- A block that was not written. -/
theorem rc_grown {w w1 : World} {v : Value} {n size : Nat} {cs : List Value} {r : Nat} (h : RC w v n size cs) (hg : w.grownBy w1 (some r)) (hne : ∀ A n c, v = .slice (some A) n c → A.block ≠ r) : RC w1 v n size cs := by
  obtain ⟨A, c, rfl, h1, h2, h3, h4, h5⟩ := h
  refine ⟨A, c, rfl, h1, h2, h3, h4, fun j u hu => ?_⟩
  obtain ⟨a, ha, hc⟩ := h5 j u hu
  refine ⟨a, ha, ?_⟩
  subst ha
  have hb := World.block_lt_of_cell? w _ hc
  have : w1.cell? (a.add j) = w.cell? (a.add j) := World.cell?_of_block (w := w) (hg.block _ hb (by rw [add_block]; intro e; exact hne a n c rfl (Option.some.inj e)))
  rw [this]
  exact hc
end Go.Proofs.YtfpdmgmolhddnaaDoor
