/- Layer 15: table.Put, first part: appends inside regions that draw. -/
import Derived.Test.YteigbejidfkhpaaDoorTbE
import Derived.Deep.AppendLies
import Derived.Deep.DeepCutAuto
import Derived.Deep.CutRange
namespace Go.Proofs.YteigbejidfkhpaaDoor
open Go Go.RowKit Go.Sort
set_option linter.unusedSimpArgs false
set_option linter.unusedVariables false

theorem step_app_b {ops : Array Oper} {o : Oper} {a : Act} {K : Act → World → Prop} {Q : Exit → Act → World → Prop} {E : Prop} {w0 W : World} {base : Nat} {l m : List UInt8} {v u : Value}
    (hgd : o.guard = none) (s x : Operand) (ho : o.op = .call { callee := .builtin .append, args := #[s, x], argTypes := #[29, 29] })
    (hs : a.eval s = v) (hx : a.eval x = u) (hown : OB W base v l) (hr : RB W u m) (hB : Below base w0 W) (hbase : base ≤ W.heap.size) (hb : l.length + m.length ≤ 140737488355328)
    (h : ∀ v1 w1, OB w1 base v1 (l ++ m) → Below base w0 w1 → W.grownBy w1 v.ownBlock → (v1.ownBlock = v.ownBlock ∨ v1.ownBlock = some W.heap.size) → K (a.put o.dst v1) w1) :
    if Region.wanted o (yielded ops a.tmps) = true then Oper.wp Tryd.prog o a W K Q else E := by
  have hw : Region.wanted o (yielded ops a.tmps) = true := by simp [Region.wanted, hgd]
  rw [if_pos hw]
  obtain ⟨v1, w1, hrun, h2, h3, h5⟩ := run_app (P := Tryd.prog) base 29 o.type 5 1 1 (.int .u8 0) Tryd.underlying29 info_u8 rfl (by decide) v u _ _ _ _ hown hr (Lib.byteCells_one _) (by omega) (by omega) hbase
  unfold Oper.wp execOp
  simp only [ho, resolve, invoke, builtin, Sem.run_bind, Sem.run_pure, Result.andThen_ok, List.map_toArray, List.map_cons, List.map_nil, hs, hx, hrun]
  exact h _ _ (by unfold OB; rw [List.length_append, Lib.byteCells_append]; exact h2) (hB.grown h3 hbase (own_base hown)) h3 h5
theorem step_app_s {ops : Array Oper} {o : Oper} {a : Act} {K : Act → World → Prop} {Q : Exit → Act → World → Prop} {E : Prop} {w0 W : World} {base : Nat} {l : List UInt8} {v : Value}
    (hgd : o.guard = none) (s x : Operand) (ho : o.op = .call { callee := .builtin .append, args := #[s, x], argTypes := #[29, 9] })
    (y : ByteArray) (hs : a.eval s = v) (hx : a.eval x = .string y) (hown : OB W base v l) (hB : Below base w0 W) (hbase : base ≤ W.heap.size) (hb : l.length + y.size ≤ 140737488355328)
    (h : ∀ v1 w1, OB w1 base v1 (l ++ y.data.toList) → Below base w0 w1 → W.grownBy w1 v.ownBlock → K (a.put o.dst v1) w1) :
    if Region.wanted o (yielded ops a.tmps) = true then Oper.wp Tryd.prog o a W K Q else E := by
  have hw : Region.wanted o (yielded ops a.tmps) = true := by simp [Region.wanted, hgd]
  rw [if_pos hw]
  obtain ⟨i0, hi, hzz⟩ := Option.map_eq_some_iff.1 info_u8
  simp only [Prod.mk.injEq] at hzz
  obtain ⟨hz0, hz1, hz2⟩ := hzz
  obtain ⟨v1, w1, hrun, h2, h3, _⟩ := Lib.run_append_own_string (P := Tryd.prog) W base 29 9 o.type 5 i0 Tryd.underlying29 Tryd.underlying9 hi hz0 hz1 hz2 v l.length (Lib.byteCells l) hown y (by simp only [maxLen]; omega) hb hbase
  unfold Oper.wp execOp
  simp only [ho, resolve, invoke, builtin, Sem.run_bind, Sem.run_pure, Result.andThen_ok, List.map_toArray, List.map_cons, List.map_nil, hs, hx, hrun]
  refine h _ _ ?_ (hB.grown h3 hbase (own_base hown)) h3
  unfold OB
  rw [List.length_append, Lib.byteCells_append, Array.length_toList]
  exact h2

theorem rb_at1 {w : World} (a : Obj) (x : UInt8) (z : Int) (hz : z = (x.toNat : Int)) : RB ((w.alloc a).drew.alloc (.cells #[.int .u8 z] 5)) (.slice (some ⟨w.heap.size + 1, 0, none⟩) 1 1) [x] := by
  subst hz
  have h : (w.alloc a).drew.heap.size = w.heap.size + 1 := Array.size_push _
  have := rb_one (w.alloc a).drew x
  rw [h] at this
  exact this
theorem cell_far {w w1 : World} {v : Value} {b j : Nat} {c : Value} (hg : w.grownBy w1 v.ownBlock) (hlt : b < w.heap.size) (hne : v.ownBlock ≠ some b) (h : w.cell? ⟨b, j, none⟩ = some c) : w1.cell? ⟨b, j, none⟩ = some c := by
  rw [World.grownBy.cell_far hg ⟨b, j, none⟩ hlt (fun e => hne e.symm)]
  exact h

/-- Block b is the property p. -/
def PB (w : World) (b : Nat) (p : Prp) : Prop := w.heap[b]? = some (.cells #[.string p.nm, .int .i64 p.k, .int .i64 p.n, .string p.t, .float .f64 p.r] 48 (0, 0))
theorem pb_new (w : World) (p : Prp) : PB (w.alloc (.cells #[.string p.nm, .int .i64 p.k, .int .i64 p.n, .string p.t, .float .f64 p.r] 48)) w.heap.size p := heap_alloc_new w _
theorem pb_lt {w : World} {b : Nat} {p : Prp} (h : PB w b p) : b < w.heap.size := (Array.getElem?_eq_some_iff.1 h).1
theorem pb_alloc {w : World} {b : Nat} {p : Prp} (h : PB w b p) (o : Obj) : PB (w.alloc o) b p := by
  unfold PB at h ⊢
  rw [heap_alloc_old _ _ (Array.getElem?_eq_some_iff.1 h).1]
  exact h
theorem pb_drew {w : World} {b : Nat} {p : Prp} (h : PB w b p) : PB w.drew b p := h
theorem pb_ne {w : World} {base b : Nat} {v : Value} {l : List UInt8} {p : Prp} (h : OB w base v l) (hb : PB w b p) : v.ownBlock ≠ some b := by
  intro e
  rcases h.2 with ⟨rfl, _⟩ | ⟨g, cap, cur, rfl, _, hg, _⟩
  · cases e
  · injection e with e
    have e' : g = b := e
    subst e'
    unfold PB at hb
    rw [hb] at hg
    injection hg with hg
    injection hg with _ h2 _
    exact absurd h2 (by decide)
theorem pb_grown {w w1 : World} {base b : Nat} {v : Value} {l : List UInt8} {p : Prp} (hb : PB w b p) (h : OB w base v l) (hg : w.grownBy w1 v.ownBlock) : PB w1 b p := by
  unfold PB at hb ⊢
  rw [hg.block b (pb_lt hb) (fun e => pb_ne h hb e.symm)]
  exact hb
theorem pb_below {w w1 : World} {b B : Nat} {p : Prp} (hb : PB w b p) (h : Below B w w1) (hB : b < B) : PB w1 b p := by
  unfold PB at hb ⊢
  rw [h.block b hB]
  exact hb
theorem pb_facts {w : World} {b : Nat} {p : Prp} (h : PB w b p) : w.cell? ⟨b, 0, none⟩ = some (.string p.nm) ∧ w.cell? ⟨b, 1, none⟩ = some (.int .i64 p.k) ∧ w.cell? ⟨b, 2, none⟩ = some (.int .i64 p.n) ∧ w.cell? ⟨b, 3, none⟩ = some (.string p.t) ∧ w.cell? ⟨b, 4, none⟩ = some (.float .f64 p.r) := by
  refine ⟨?_, ?_, ?_, ?_, ?_⟩ <;> simp [World.cell?, show w.heap[b]? = _ from h]
theorem own_drew {w : World} {base e s n : Nat} {v : Value} {xs : List Value} (h : w.ownsRow base e s v n xs) : w.drew.ownsRow base e s v n xs := h

/-- Blocks of another type than bytes stay. -/
def KeepsT (w w' : World) : Prop := ∀ (b : Nat) (cs : Array Value) (t : TypeId) (fr : Nat × Nat), t ≠ 5 → w.heap[b]? = some (Obj.cells cs t fr) → w'.heap[b]? = some (Obj.cells cs t fr)
theorem KeepsT.refl (w : World) : KeepsT w w := fun _ _ _ _ _ h => h
theorem KeepsT.trans {a b c : World} (h : KeepsT a b) (k : KeepsT b c) : KeepsT a c := fun x cs t fr ht hx => k x cs t fr ht (h x cs t fr ht hx)
theorem keeps_alloc (w : World) (o : Obj) : KeepsT w (w.alloc o) := fun b cs t fr _ h => by
  rw [heap_alloc_old _ _ (Array.getElem?_eq_some_iff.1 h).1]
  exact h
theorem keeps_grown {w w1 : World} {base : Nat} {v : Value} {l : List UInt8} (h : OB w base v l) (hg : w.grownBy w1 v.ownBlock) : KeepsT w w1 := fun b cs t fr ht hb => by
  rw [hg.block b (Array.getElem?_eq_some_iff.1 hb).1 (fun e => ?_)]
  · exact hb
  · rcases h.2 with ⟨rfl, _⟩ | ⟨g, cap, cur, rfl, _, hgc, _⟩
    · cases e
    · injection e with e
      have e' : b = g := e
      subst e'
      rw [hb] at hgc
      injection hgc with hgc
      injection hgc with _ h2 _
      exact ht h2
theorem pb_keeps {w w1 : World} {b : Nat} {p : Prp} (hb : PB w b p) (h : KeepsT w w1) : PB w1 b p := h b _ _ _ (by decide) hb

set_option maxRecDepth 100000 in
set_option maxHeartbeats 1000000 in
theorem bigK_c {w : World} {base : Nat} {v : Value} {l : List UInt8} (h : OB w base v l) (hB : base ≤ w.heap.size) (hl : l.length ≤ 70368744177664) (n : Nat) (hn : n < 18446744073709551616) (k : Nat) (hk : k ≤ 8) :
    Calls Tryd.prog 28 #[v, .int .u64 n, .int .i64 k] w fun e w' => ∃ v', e = .returned v' ∧ OB w' base v' (l ++ beB n k) ∧ Below base w w' ∧ KeepsT w w' := by
  have H := Lib.hid h
  clear h
  go_enter Tryd.func28, Tryd.ntmps28
  go_wp2
  go_loopw [0, 7] (fun x i wr => ∃ (r : Nat) (pre : List UInt8), r ≤ k ∧ i = .int .i64 ((r : Int) - 1) ∧ Hid (pre ++ beB n r = beB n k) ∧ Hid (OB wr base x (l ++ pre)) ∧ Hid (KeepsT w wr) ∧ Below base w wr) (fun _ i _ => (intOf i + 1).toNat)
  case atStart => exact ⟨k, [], Nat.le_refl _, rfl, Lib.hid rfl, by simpa [Lib.hid] using H, Lib.hid (KeepsT.refl _), Below.refl _ _⟩
  case round =>
    obtain ⟨r, pre, hr, rfl, HP, O2, HK, b2⟩ := hrel
    cases r with
    | zero =>
      go_wp2
      go_ret
      have := HP.out
      simp only [beB, List.append_nil] at this
      exact ⟨_, rfl, by rw [← this]; exact O2.out, b2, HK.out⟩
    | succ r =>
      have hpl : pre.length ≤ 8 := by
        have := congrArg List.length HP.out
        rw [List.length_append, beB_len, beB_len] at this
        omega
      go_wp2_with (at_builtin; refine app_b (w0 := w) (base := base) (l := l ++ pre) (m := [dig n r]) rfl (.tmp 14) (.tmp 20) rfl rfl rfl (O2.out.alloc _) (rb_dig wr _ _ (dig_val n r)) (b2.alloc (by have := b2.size; omega) _) (by have := b2.size; simp; omega) (by simp; omega) ?_; intro v4 w4 o4 b4 g4 _; have HK4 := Lib.hid ((HK.out.trans (keeps_alloc _ _)).trans (keeps_grown (O2.out.alloc _) g4)); have O4 := Lib.hid o4; clear o4 g4)
      go_roundw
      case rel => exact ⟨r, pre ++ [dig n r], by omega, by go_num, Lib.hid (by have := HP.out; simpa [beB] using this), Lib.hid (by have := O4.out; rwa [List.append_assoc] at this), HK4, b4⟩
      case measure => simp [intOf]


theorem bigK_c2 {w : World} {base : Nat} {v : Value} {l : List UInt8} (h : OB w base v l) (hB : base ≤ w.heap.size) (hl : l.length ≤ 70368744177664) (n k : Nat) (hn : n < 18446744073709551616) (hk : k ≤ 8) (ni ki : Int) (hni : ni = (n : Int)) (hki : ki = (k : Int)) :
    Calls Tryd.prog 28 #[v, .int .u64 ni, .int .i64 ki] w fun e w' => ∃ v', e = .returned v' ∧ OB w' base v' (l ++ beB n k) ∧ Below base w w' ∧ KeepsT w w' := by
  subst hni hki
  exact bigK_c h hB hl n hn k hk

/-- A property's bytes. -/
def valB (p : Prp) : List UInt8 :=
  if p.k = 1 then 108 :: beB (p.n % 18446744073709551616).toNat 8
  else if p.k = 2 then [116, UInt8.ofNat p.n.toNat]
  else if p.k = 3 then 83 :: (beB p.t.size 4 ++ p.t.data.toList)
  else realB p.r
def propB (p : Prp) : List UInt8 := UInt8.ofNat p.nm.size :: (p.nm.data.toList ++ valB p)
def propsB (ps : List Prp) : List UInt8 := ps.flatMap propB
theorem propsB_snoc (l : List Prp) (p : Prp) : propsB (l ++ [p]) = propsB l ++ propB p := by simp [propsB]

theorem wrap_byte (n : Nat) (h : n < 256) : IntKind.u8.wrap (n : Int) = ((UInt8.ofNat n).toNat : Int) := by
  rw [UInt8.toNat_ofNat', Nat.mod_eq_of_lt h]
  show (n : Int) % 256 = n
  omega
theorem wrap_u64 (n : Int) : IntKind.u64.wrap n = ((n % 18446744073709551616).toNat : Int) := by
  rw [show IntKind.u64.wrap n = n % 18446744073709551616 from rfl]
  omega
theorem rb_at0 {w : World} (x : UInt8) (z : Int) (hz : z = (x.toNat : Int)) : RB (w.drew.alloc (.cells #[.int .u8 z] 5)) (.slice (some ⟨w.heap.size, 0, none⟩) 1 1) [x] := by
  subst hz
  exact rb_one w.drew x
theorem rb_two (w : World) (x y : UInt8) : RB (w.alloc (.cells #[.int .u8 x.toNat, .int .u8 y.toNat] 5)) (.slice (some ⟨w.heap.size, 0, none⟩) 2 2) [x, y] :=
  rc_new w 5 2 1 (Lib.byteCells [x, y]) rfl (by omega)
theorem validL_all : ∀ (ps : List Prp) (o : Option ByteArray), validL o ps = true → ∀ p ∈ ps, nameB p.nm = true ∧ p.good = true
  | [], _, _, p, hp => by cases hp
  | q :: r, o, h, p, hp => by
    have hq : nameB q.nm = true ∧ q.good = true ∧ validL (some q.nm) r = true := by
      cases o <;> (unfold validL at h; simp only [Bool.and_eq_true] at h)
      · exact ⟨h.1.1, h.1.2, h.2⟩
      · exact ⟨h.1.1.1, h.1.1.2, h.2⟩
    rcases List.mem_cons.1 hp with rfl | hp
    · exact ⟨hq.1, hq.2.1⟩
    · exact validL_all r _ hq.2.2 p hp
theorem valid_all {ps : List Prp} (h : validB ps = true) : ∀ p ∈ ps, nameB p.nm = true ∧ p.good = true := by
  unfold validB at h
  simp only [Bool.and_eq_true] at h
  exact validL_all ps none h.1

theorem valid_len {ps : List Prp} (h : validB ps = true) : ps.length ≤ 16 := by
  unfold validB at h
  simp only [Bool.and_eq_true, decide_eq_true_eq] at h
  exact h.2
theorem propB_len {p : Prp} (h : nameB p.nm = true ∧ p.good = true) : (propB p).length ≤ 278 := by
  obtain ⟨h1, h2⟩ := h
  unfold nameB at h1
  simp only [Bool.and_eq_true, decide_eq_true_eq] at h1
  have hn := h1.1.2
  have hv : (valB p).length ≤ 261 := by
    unfold valB
    split
    · simp [beB_len]
    · split
      · simp
      · split
        · rename_i h3
          rcases good_of h2 with ⟨a, _⟩ | ⟨a, _⟩ | ⟨_, _, _, hs⟩ | ⟨a, _⟩
          · omega
          · omega
          · simp [beB_len, ba_size]; omega
          · omega
        · have := realB_len p.r; omega
  unfold propB
  simp only [List.length_cons, List.length_append, ba_size]
  omega
theorem propsB_len : ∀ (ps : List Prp), (∀ p ∈ ps, nameB p.nm = true ∧ p.good = true) → (propsB ps).length ≤ ps.length * 278
  | [], _ => by simp [propsB]
  | p :: r, h => by
    have h1 := propB_len (h p (List.mem_cons_self ..))
    have h2 := propsB_len r (fun q hq => h q (List.mem_cons_of_mem _ hq))
    have e : propsB (p :: r) = propB p ++ propsB r := by simp [propsB]
    rw [e, List.length_append, List.length_cons, Nat.succ_mul]
    omega

set_option maxRecDepth 100000 in
set_option maxHeartbeats 4000000 in
theorem put_c {w : World} {base : Nat} {v vl : Value} {l : List UInt8} {ps : List Prp} (h : RB w v l) (hl : l.length ≤ 17592186044416) (hp : RPr w vl ps) (hsz : ∀ p ∈ ps, p.nm.size ≤ 140737488351232) (hr : ∀ p ∈ ps, p.r < 18446744073709551616) (hv : validB ps = true) :
    Calls Tryd.prog 14 #[v, vl] w fun e w' => ∃ v', e = .returned (.tuple #[v', .int .i64 0]) ∧ OB w' w.heap.size v' (l ++ beB (propsB ps).length 4 ++ propsB ps) ∧ Below w.heap.size w w' := by
  have HV := Lib.hid (valid_c hp hsz)
  rw [hv] at HV
  obtain ⟨A, c, rfl, hnc, hcell⟩ := props_at hp
  have HC := Lib.hid hcell
  have HS := Lib.hid hsz
  have HR := Lib.hid hr
  have HVP := Lib.hid (valid_all hv)
  have H16 := Lib.hid (valid_len hv)
  have H := Lib.hid h
  have qs := store_float (P := Tryd.prog)
  clear h hp hcell hsz hr hv
  go_enter Tryd.func14, Tryd.ntmps14
  go_wp2_with fail
  refine (HV.out).mono ?_
  rintro e w1 ⟨rfl, b1⟩
  go_wp2_with fail
  go_loopw [6, 14] (fun x i wr => ∃ k : Nat, k ≤ ps.length ∧ i = .int .i64 k ∧ Hid (OB wr w.heap.size x (propsB (ps.take k))) ∧ Below w.heap.size w wr) (fun _ i _ => ps.length - (intOf i).toNat)
  case atStart => exact ⟨0, Nat.zero_le _, rfl, Lib.hid (ob_nil _ _), b1⟩
  case round =>
    obtain ⟨k, hk, rfl, O1, b2⟩ := hrel
    clear b1
    by_cases hlt : k < ps.length
    · obtain ⟨p, hp⟩ : ∃ p, ps[k]? = some p := ⟨_, List.getElem?_eq_getElem hlt⟩
      obtain ⟨a, rfl, q0, q1, q2, q3, q4⟩ := HC.out k p hp
      have p0 := cell_below b2 (World.block_lt_of_cell? w _ q0) q0
      have p1 := cell_below b2 (World.block_lt_of_cell? w _ q1) q1
      have p2 := cell_below b2 (World.block_lt_of_cell? w _ q2) q2
      have p3 := cell_below b2 (World.block_lt_of_cell? w _ q3) q3
      have p4 := cell_below b2 (World.block_lt_of_cell? w _ q4) q4
      have hk16 : (k : Int) < 16 := by have := H16.out; omega
      have HP := Lib.hid hp
      clear hp q0 q1 q2 q3 q4
      have hns : p.nm.size ≤ 16 := by
        have hvp := (HVP.out p (List.mem_of_getElem? HP.out)).1
        unfold nameB at hvp
        simp only [Bool.and_eq_true, decide_eq_true_eq] at hvp
        exact hvp.1.2
      have hz : IntKind.u8.wrap ((p.nm.size : Nat) : Int) = ((UInt8.ofNat p.nm.size).toNat : Int) := wrap_byte _ (by omega)
      have HZ := Lib.hid hz
      clear hz
      have hzI : ((p.nm.size : Nat) : Int) ≤ 16 := by omega
      have hz0 : (0 : Int) ≤ ((p.nm.size : Nat) : Int) := by omega
      have HPB0 := Lib.hid (pb_drew (pb_new wr p))
      have HO1 := Lib.hid (fun o : Obj => (own_drew (O1.out.alloc (.cells #[.string p.nm, .int .i64 p.k, .int .i64 p.n, .string p.t, .float .f64 p.r] 48))).alloc o)
      have hW0 : w.heap.size ≤ (wr.alloc (.cells #[.string p.nm, .int .i64 p.k, .int .i64 p.n, .string p.t, .float .f64 p.r] 48)).drew.heap.size := Nat.le_trans b2.size (by show _ ≤ (wr.heap.push _).size; simp)
      have B0 := Lib.hid ((b2.alloc b2.size (.cells #[.string p.nm, .int .i64 p.k, .int .i64 p.n, .string p.t, .float .f64 p.r] 48)).drew)
      have HLK := Lib.hid (propsB_len (ps.take k) (fun q hq => HVP.out q (List.mem_of_mem_take hq)))
      have HTK := Lib.hid (show (ps.take k).length ≤ 16 by have := H16.out; rw [List.length_take]; omega)
      obtain ⟨s0, _, _, _, _⟩ := pb_facts HPB0.out
      go_upto_region 7 with fail
      go_region_held3 (fun w' => w'.cell? ⟨wr.heap.size, 0, none⟩ = some (.string p.nm))
        (first | exact s0 | go_keep)
        (first
          | (refine step_app_s (w0 := w) (base := w.heap.size) (l := propsB (ps.take k) ++ [UInt8.ofNat p.nm.size]) rfl (.tmp 24) (.tmp 26) rfl p.nm rfl rfl O2.out B2 B2.size (by have := HLK.out; have := HTK.out; simp; omega) ?_; intro v3 w3 o3 B3 g3; have HPB3 := Lib.hid (pb_grown HPB2.out O2.out g3); have s0 := (pb_facts HPB3.out).1; have O3 := Lib.hid o3; clear o3)
          | (refine step_app_b (w0 := w) (base := w.heap.size) (l := propsB (ps.take k)) (m := [UInt8.ofNat p.nm.size]) rfl (.tmp 18) (.tmp 23) rfl rfl rfl (HO1.out _) (rb_at1 _ _ _ HZ.out) (B0.out.alloc hW0 _) (Nat.le_trans hW0 (by show _ ≤ (Array.push _ _).size; simp)) (by have := HLK.out; have := HTK.out; simp; omega) ?_; intro v2 w2 o2 B2 g2 _; have HPB2 := Lib.hid (pb_grown (pb_alloc HPB0.out _) (HO1.out _) g2); have s0 := (pb_facts HPB2.out).1; have O2 := Lib.hid o2; clear o2 g2))
      have hgd := (HVP.out p (List.mem_of_getElem? HP.out)).2
      have hrl := HR.out p (List.mem_of_getElem? HP.out)
      have HRL := Lib.hid hrl
      have hts : ps.take (k + 1) = ps.take k ++ [p] := by rw [List.take_add_one, HP.out]; rfl
      have HTS := Lib.hid hts
      have HLK3 : Hid ((propsB (ps.take k) ++ [UInt8.ofNat p.nm.size] ++ p.nm.data.toList).length ≤ 20000) := Lib.hid (by have := HLK.out; have := HTK.out; simp only [List.length_append, List.length_cons, List.length_nil, ba_size]; omega)
      obtain ⟨L, hL⟩ : ∃ L, L = propsB (ps.take k) ++ [UInt8.ofNat p.nm.size] ++ p.nm.data.toList := ⟨_, rfl⟩
      have hfin : ∀ (wf : World) (vf : Value), OB wf w.heap.size vf (L ++ valB p) → OB wf w.heap.size vf (propsB (ps.take (k + 1))) := by
        intro wf vf h
        rw [hL] at h
        rw [HTS.out, propsB_snoc]
        unfold propB
        simpa using h
      rw [← hL] at O3 HLK3
      have HFIN := Lib.hid hfin
      clear hL hts hrl hfin O1 HO1 HLK HTK B0 HPB0 HPB2 O2 B2 g3 HZ hzI hz0 s0 p0 p1 p2 p3 p4 hns
      obtain ⟨_, s1, s2, s3, s4⟩ := pb_facts HPB3.out
      have hs3 : w.heap.size ≤ w3.heap.size := B3.size
      rcases good_of hgd with ⟨hk1, _, _⟩ | ⟨hk1, _, _, hn01⟩ | ⟨hk1, _, _, ht⟩ | ⟨hk1, hx1, hx2, hx3⟩
      · rw [hk1] at s1
        have hvb : valB p = 108 :: beB (p.n % 18446744073709551616).toNat 8 := by unfold valB; rw [if_pos hk1]
        have HVB := Lib.hid hvb
        clear hk1 hgd s3 s4 hvb
        go_upto_region 11 with fail
        have s2 := (pb_facts (pb_drew HPB3.out)).2.2.1
        go_region_held3 (fun w' => w'.cell? ⟨wr.heap.size, 2, none⟩ = some (.int .i64 p.n))
          (first | exact s2 | go_keep)
          (first
            | (go_at_call 28; refine (bigK_c2 (base := w.heap.size) O4.out B4.size (by have := HLK3.out; simp; omega) (p.n % 18446744073709551616).toNat 8 (by omega) (by omega) _ 8 (wrap_u64 _) rfl).mono ?_; rintro e w5 ⟨v5, rfl, o5, b5, k5⟩; have B5 := B4.trans b5; have HPB5 := Lib.hid (pb_keeps HPB4.out k5); have s2 := (pb_facts HPB5.out).2.2.1; have O5 := Lib.hid o5; clear o5)
            | (refine step_app_b (w0 := w) (base := w.heap.size) (l := L) (m := [108]) rfl (.tmp 38) (.tmp 39) rfl rfl rfl ((own_drew O3.out).alloc _) (rb_at0 108 _ rfl) (B3.drew.alloc B3.size _) (Nat.le_trans B3.size (by show _ ≤ (Array.push _ _).size; simp)) (by have := HLK3.out; simp; omega) ?_; intro v4 w4 o4 B4 g4 _; have HPB4 := Lib.hid (pb_grown (pb_alloc (pb_drew HPB3.out) _) ((own_drew O3.out).alloc _) g4); have s2 := (pb_facts HPB4.out).2.2.1; have O4 := Lib.hid o4; clear o4 g4))
        go_wp2
        go_roundw
        case rel => exact ⟨k + 1, by omega, by go_num, Lib.hid (HFIN.out _ _ (by rw [HVB.out]; have := O5.out; simpa using this)), B5⟩
        case measure => simp [intOf]; omega
      · have h1 : ¬ p.k = 1 := by omega
        rw [hk1] at s1
        rcases hn01 with hn | hn
        · have hvb : valB p = [116, 0] := by unfold valB; rw [if_neg h1, if_pos hk1, hn]; rfl
          have HVB := Lib.hid hvb
          rw [hn] at s2
          clear hk1 h1 hgd hvb hn s3 s4
          go_wp2_with (at_builtin; refine app_b (w0 := w) (base := w.heap.size) (l := L) (m := [116, 0]) rfl (.tmp 48) (.tmp 53) rfl rfl rfl (O3.out.alloc _) (rb_two w3 116 0) (B3.alloc hs3 _) (by simp; omega) (by have := HLK3.out; simp; omega) ?_; intro v4 w4 o4 B4 _ _; have O4 := Lib.hid o4; clear o4)
          go_roundw
          case rel => exact ⟨k + 1, by omega, by go_num, Lib.hid (HFIN.out _ _ (by rw [HVB.out]; exact O4.out)), B4⟩
          case measure => simp [intOf]; omega
        · have hvb : valB p = [116, 1] := by unfold valB; rw [if_neg h1, if_pos hk1, hn]; rfl
          have HVB := Lib.hid hvb
          rw [hn] at s2
          clear hk1 h1 hgd hvb hn s3 s4
          go_wp2_with (at_builtin; refine app_b (w0 := w) (base := w.heap.size) (l := L) (m := [116, 1]) rfl (.tmp 48) (.tmp 53) rfl rfl rfl (O3.out.alloc _) (rb_two w3 116 1) (B3.alloc hs3 _) (by simp; omega) (by have := HLK3.out; simp; omega) ?_; intro v4 w4 o4 B4 _ _; have O4 := Lib.hid o4; clear o4)
          go_roundw
          case rel => exact ⟨k + 1, by omega, by go_num, Lib.hid (HFIN.out _ _ (by rw [HVB.out]; exact O4.out)), B4⟩
          case measure => simp [intOf]; omega
      · have h1 : ¬ p.k = 1 := by omega
        have h2 : ¬ p.k = 2 := by omega
        have hvb : valB p = 83 :: (beB p.t.size 4 ++ p.t.data.toList) := by unfold valB; rw [if_neg h1, if_neg h2, if_pos hk1]
        have HVB := Lib.hid hvb
        have htI : (p.t.size : Int) ≤ 256 := by omega
        rw [hk1] at s1
        clear hk1 h1 h2 hgd hvb s4 s2 ht
        go_upto_region 15 with fail
        have s3 := (pb_facts (pb_drew HPB3.out)).2.2.2.1
        go_region_held3 (fun w' => w'.cell? ⟨wr.heap.size, 3, none⟩ = some (.string p.t))
          (first | exact s3 | go_keep)
          (first
            | (refine step_app_s (w0 := w) (base := w.heap.size) (l := L ++ [83] ++ beB p.t.size 4) rfl (.tmp 65) (.tmp 68) rfl p.t rfl rfl O5.out B5 B5.size (by have := HLK3.out; simp [beB_len]; omega) ?_; intro v6 w6 o6 B6 g6; have HPB6 := Lib.hid (pb_grown HPB5.out O5.out g6); have s3 := (pb_facts HPB6.out).2.2.2.1; have O6 := Lib.hid o6; clear o6)
            | (go_at_call 28; refine (bigK_c2 (base := w.heap.size) O4.out B4.size (by have := HLK3.out; simp; omega) p.t.size 4 (by omega) (by omega) _ 4 (by first | rfl | exact IntWalk.u64_in _ (by omega)) rfl).mono ?_; rintro e w5 ⟨v5, rfl, o5, b5, k5⟩; have B5 := B4.trans b5; have HPB5 := Lib.hid (pb_keeps HPB4.out k5); have s3 := (pb_facts HPB5.out).2.2.2.1; have O5 := Lib.hid o5; clear o5)
            | (refine step_app_b (w0 := w) (base := w.heap.size) (l := L) (m := [83]) rfl (.tmp 57) (.tmp 58) rfl rfl rfl ((own_drew O3.out).alloc _) (rb_at0 83 _ rfl) (B3.drew.alloc B3.size _) (Nat.le_trans B3.size (by show _ ≤ (Array.push _ _).size; simp)) (by have := HLK3.out; simp; omega) ?_; intro v4 w4 o4 B4 g4 _; have HPB4 := Lib.hid (pb_grown (pb_alloc (pb_drew HPB3.out) _) ((own_drew O3.out).alloc _) g4); have s3 := (pb_facts HPB4.out).2.2.2.1; have O4 := Lib.hid o4; clear o4 g4))
        go_wp2
        go_roundw
        case rel => exact ⟨k + 1, by omega, by go_num, Lib.hid (HFIN.out _ _ (by rw [HVB.out]; have := O6.out; simpa using this)), B6⟩
        case measure => simp [intOf]; omega
      · have h1 : ¬ p.k = 1 := by omega
        have h2 : ¬ p.k = 2 := by omega
        have h3 : ¬ p.k = 3 := by omega
        have hvb : valB p = realB p.r := by unfold valB; rw [if_neg h1, if_neg h2, if_neg h3]
        have HVB := Lib.hid hvb
        rw [hk1] at s1
        clear hk1 h1 h2 h3 hgd hvb s2 s3 hx1 hx2 hx3
        go_wp2_with fail
        refine (real_c O3.out hs3 (by have := HLK3.out; omega) p.r HRL.out).mono ?_
        rintro e w5 ⟨v5, rfl, o5, b5⟩
        have O5 := Lib.hid o5
        have B5 := B3.trans b5
        clear o5
        go_wp2
        go_roundw
        case rel => exact ⟨k + 1, by omega, by go_num, Lib.hid (HFIN.out _ _ (by rw [HVB.out]; exact O5.out)), B5⟩
        case measure => simp [intOf]; omega
    · have hk2 : k = ps.length := by omega
      subst hk2
      have hta : ps.take ps.length = ps := List.take_of_length_le (Nat.le_refl _)
      rw [hta] at O1
      have hpl := propsB_len ps HVP.out
      have h16 := H16.out
      have HPL := Lib.hid (show (propsB ps).length ≤ 4448 by omega)
      obtain ⟨A1, c1, rfl, hc1, _⟩ := id (ob_rb O1.out)
      have hwr : w.heap.size ≤ wr.heap.size := b2.size
      clear hta hlt hk hpl h16
      go_wp2_with fail
      refine (clone_b (rb_below H.out b2) (by omega)).mono ?_
      rintro e w4 ⟨v4, rfl, o4, b4⟩
      go_wp2_with fail
      refine (tableBig_c2 (base := wr.heap.size) o4 b4.size (by omega) (propsB ps).length 4 (by have := HPL.out; omega) (by omega) _ 4 (by first | rfl | exact IntWalk.u64_in _ (by have := HPL.out; omega)) rfl).mono ?_
      rintro e w5 ⟨v5, rfl, o5, b5⟩
      have O5 := Lib.hid o5
      have B5 := b4.trans b5
      have R5 := Lib.hid (rb_below (ob_rb O1.out) B5)
      clear o4 b4 o5 b5
      go_wp2_with (at_builtin; refine app_b (w0 := wr) (base := wr.heap.size) (l := l ++ beB (propsB ps).length 4) (m := propsB ps) rfl (.tmp 76) (.tmp 77) rfl rfl rfl O5.out R5.out B5 B5.size (by have := HPL.out; simp [beB_len]; omega) ?_; intro v6 w6 o6 b6 _ _; have O6 := Lib.hid o6; clear o6)
      go_ret2
      exact ⟨v6, rfl, own_lower O6.out hwr, b2.trans (b6.mono hwr)⟩
end Go.Proofs.YteigbejidfkhpaaDoor
