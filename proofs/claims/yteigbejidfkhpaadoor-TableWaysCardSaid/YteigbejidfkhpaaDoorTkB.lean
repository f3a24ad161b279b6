/- Layer 15: the reader's values. -/
import Derived.Test.YteigbejidfkhpaaDoorTkA
namespace Go.Proofs.YteigbejidfkhpaaDoor
open Go Go.RowKit
set_option linter.unusedSimpArgs false
set_option linter.unusedVariables false

def widR (n : Nat) : Nat := match widenE n with | some v => canonR v | none => 9221120237041090561
theorem from32_run (w : World) (n : Int) : (callFunc 83 #[.int .u32 n]).run Tryd.prog w = .ok (.value (.float .f32 n.toNat)) w := by
  rw [run_callFunc_extern (e := Extern.MathFloatBits.float32frombits) Tryd.func83 (by kernel_rfl) (by kernel_rfl) (by kernel_rfl) (by kernel_rfl)]
  rfl
theorem canon_c' {w : World} (r : Nat) (hr : nanB r = true) :
    Calls Tryd.prog 66 #[.float .f64 r] w fun e w' => e = .returned (.float .f64 9221120237041090561) ∧ w = w' := by
  have h := canon_c (w := w) r
  rw [show canonR r = 9221120237041090561 by unfold canonR; rw [hr]; rfl] at h
  exact h
theorem to64_any (n : Nat) (w : World) : ∃ (b : Nat) (w1 : World), (convert 95 41 (.float .f32 n)).run Tryd.prog w = .ok (.float .f64 b) w1 ∧ (w1 = w ∨ w1 = w.drew) ∧ canonR b = widR n := by
  unfold widR widenE
  cases h : Ieee.single.read n with
  | number s m e => exact ⟨_, _, to64_num h w, .inl rfl, rfl⟩
  | infinity s => exact ⟨_, _, to64_inf h w, .inl rfl, rfl⟩
  | nan s t =>
    obtain ⟨b, h1, h2⟩ := to64_nan h w
    refine ⟨b, _, h1, .inr rfl, ?_⟩
    have hn : nanB b = true := by
      unfold nanB
      rw [show FloatKind.f64.format = Ieee.double from rfl, h2 b]
      rfl
    unfold canonR
    rw [hn]
    rfl

set_option maxRecDepth 100000 in
theorem widen_c {w : World} (n : Nat) (ni : Int) (hni : ni = n) :
    Calls Tryd.prog 71 #[.int .u32 ni] w fun e w' => e = .returned (.float .f64 (widR n)) ∧ Below w.heap.size w w' := by
  subst hni
  obtain ⟨b, w1, hc, hw, hb⟩ := to64_any n w
  have q := from32_run
  have HB := Lib.hid hb
  have hW := Lib.hid (show Below w.heap.size w w1 by rcases hw with rfl | rfl; exact Below.refl _ _; exact (Below.refl _ _).drew)
  clear hb hw
  go_enter Tryd.func71, Tryd.ntmps71
  go_wp2_with fail
  refine (canon_c b).mono ?_
  rintro e w2 ⟨rfl, rfl⟩
  go_wp2_with fail
  go_ret
  exact ⟨by first | rfl | (rw [HB.out]; rfl), hW.out⟩

structure Vl where
  k : Int
  n : Int
  t : ByteArray
  r : Nat
def Vl.val (v : Vl) : Value := .agg #[.int .i64 v.k, .int .i64 v.n, .string v.t, .float .f64 v.r]
def sgn (b : Nat) (n : Nat) : Int := if n < 2 ^ (b - 1) then n else (n : Int) - 2 ^ b
/-- The next value, behind its letter. -/
def valQ (x r : ByteArray) : Option (Vl × ByteArray) :=
  if x = ⟨#[116]⟩ then (numP 1 r).map fun q => (⟨2, q.1, ByteArray.empty, 0⟩, q.2)
  else if x = ⟨#[98]⟩ then (numP 1 r).map fun q => (⟨1, sgn 8 q.1, ByteArray.empty, 0⟩, q.2)
  else if x = ⟨#[115]⟩ then (numP 2 r).map fun q => (⟨1, sgn 16 q.1, ByteArray.empty, 0⟩, q.2)
  else if x = ⟨#[73]⟩ then (numP 4 r).map fun q => (⟨1, sgn 32 q.1, ByteArray.empty, 0⟩, q.2)
  else if x = ⟨#[108]⟩ then (numP 8 r).map fun q => (⟨1, sgn 64 q.1, ByteArray.empty, 0⟩, q.2)
  else if x = ⟨#[102]⟩ then (numP 4 r).map fun q => (⟨4, 0, ByteArray.empty, widR q.1⟩, q.2)
  else if x = ⟨#[100]⟩ then (numP 8 r).map fun q => (⟨4, 0, ByteArray.empty, canonR q.1⟩, q.2)
  else if x = ⟨#[83]⟩ then (longP r).map fun q => (⟨3, 0, q.1, 0⟩, q.2)
  else none
def valP (s : ByteArray) : Option (Vl × ByteArray) := (takeP 1 s).bind fun p => valQ p.1 p.2
theorem sg8 (n : Nat) (hn : n < 256 ^ 1) : ∃ z : Int, IntKind.i8.wrap (n : Int) = z ∧ z = sgn 8 n ∧ -9223372036854775808 ≤ z ∧ z ≤ 9223372036854775807 := by
  refine ⟨_, rfl, ?_⟩
  have hn' : n < 256 := hn
  unfold sgn
  have hw : IntKind.i8.wrap (n : Int) = ((n : Int) + 128) % 256 - 128 := by
    simp [IntKind.wrap, IntKind.bits, IntKind.signed]
    split <;> omega
  rw [hw]
  split
  · rename_i h
    have h' : n < 128 := h
    omega
  · rename_i h
    have h' : ¬ n < 128 := h
    show _ = (n : Int) - 256 ∧ _
    omega
theorem sg16 (n : Nat) (hn : n < 256 ^ 2) : ∃ z : Int, IntKind.i16.wrap (n : Int) = z ∧ z = sgn 16 n ∧ -9223372036854775808 ≤ z ∧ z ≤ 9223372036854775807 := by
  refine ⟨_, rfl, ?_⟩
  have hn' : n < 65536 := hn
  unfold sgn
  have hw : IntKind.i16.wrap (n : Int) = ((n : Int) + 32768) % 65536 - 32768 := by
    simp [IntKind.wrap, IntKind.bits, IntKind.signed]
    split <;> omega
  rw [hw]
  split
  · rename_i h
    have h' : n < 32768 := h
    omega
  · rename_i h
    have h' : ¬ n < 32768 := h
    show _ = (n : Int) - 65536 ∧ _
    omega
theorem sg32 (n : Nat) (hn : n < 256 ^ 4) : ∃ z : Int, IntKind.i32.wrap (n : Int) = z ∧ z = sgn 32 n ∧ -9223372036854775808 ≤ z ∧ z ≤ 9223372036854775807 := by
  refine ⟨_, rfl, ?_⟩
  have hn' : n < 4294967296 := hn
  unfold sgn
  have hw : IntKind.i32.wrap (n : Int) = ((n : Int) + 2147483648) % 4294967296 - 2147483648 := by
    simp [IntKind.wrap, IntKind.bits, IntKind.signed]
    split <;> omega
  rw [hw]
  split
  · rename_i h
    have h' : n < 2147483648 := h
    omega
  · rename_i h
    have h' : ¬ n < 2147483648 := h
    show _ = (n : Int) - 4294967296 ∧ _
    omega
theorem sg64 (n : Nat) (hn : n < 256 ^ 8) : ∃ z : Int, IntKind.i64.wrap (n : Int) = z ∧ z = sgn 64 n ∧ -9223372036854775808 ≤ z ∧ z ≤ 9223372036854775807 := by
  refine ⟨_, rfl, ?_⟩
  have hn' : n < 18446744073709551616 := hn
  unfold sgn
  have hw : IntKind.i64.wrap (n : Int) = ((n : Int) + 9223372036854775808) % 18446744073709551616 - 9223372036854775808 := by
    simp [IntKind.wrap, IntKind.bits, IntKind.signed]
    split <;> omega
  rw [hw]
  split
  · rename_i h
    have h' : n < 9223372036854775808 := h
    omega
  · rename_i h
    have h' : ¬ n < 9223372036854775808 := h
    show _ = (n : Int) - 18446744073709551616 ∧ _
    omega
theorem results_row1 {P : Program} {fn : Func} {p : Tmp} {ty : TypeId} (h : fn.results = #[.cell p ty]) (tmps : Array Value) (w : World) (g : Nat) (t : TypeId) (cs : Array Value) (fr : Nat × Nat) (d : TypeDesc)
    (hp : tmps.getD p undef = .pointer (some ⟨g, 0, none⟩)) (hg : w.heap[g]? = some (.cells cs t fr))
    (hu : P.underlying ty = some d) (hd : (match d with | .struct _ | .array _ _ => true | _ => false) = true) (hi : (P.info? ty).map (·.size) = some cs.size) :
    (results fn tmps).run P w = .ok (.agg cs) w := by
  have hp' : tmps[p]?.getD undef = .pointer (some ⟨g, 0, none⟩) := by simpa using hp
  simp [results, h, hp', asAddr, run_loadVar_row w g t ty cs fr d hg hu hd hi]
theorem value_end {fn : Func} (h : fn.results = #[.cell 2 46]) {R : Ending → World → Prop} {a : Act} {w : World} {g : Nat} {t : TypeId} {c0 c1 c2 c3 : Value} {fr : Nat × Nat}
    (hp : a.tmps.getD 2 undef = .pointer (some ⟨g, 0, none⟩)) (hg : w.heap[g]? = some (.cells #[c0, c1, c2, c3] t fr)) (hd : a.defers = [])
    (hR : R (.returned (.agg #[c0, c1, c2, c3])) w) : bodyPost Tryd.prog fn R .ret a w :=
  bodyPost_ret (results_row1 h _ _ _ _ _ _ _ hp hg Tryd.underlying46 rfl (by kernel_rfl)) hd hR

theorem str_bne {a : ByteArray} {l : List UInt8} (h : ¬ a = ⟨l.toArray⟩) : (a.toList == l) = false := by
  refine beq_eq_false_iff_ne.2 fun e => h ?_
  rw [ByteArray.toList_eq] at e
  exact ByteArray.ext (Array.toList_inj.1 (by simpa using e))

/-- The world behind the stores of a value's four cells. -/
abbrev set4w (w : World) (g : Nat) (a b c d : Value) : World := (((w.setCell ⟨g, 0, none⟩ a).setCell ⟨g, 1, none⟩ b).setCell ⟨g, 2, none⟩ c).setCell ⟨g, 3, none⟩ d
theorem cells4_at {w : World} {g : Nat} {t : TypeId} {c0 c1 c2 c3 : Value} {fr : Nat × Nat} (h : w.heap[g]? = some (.cells #[c0, c1, c2, c3] t fr)) (a b c d : Value) : (set4w w g a b c d).heap[g]? = some (.cells #[a, b, c, d] t fr) := by
  simp [World.setCell, Array.getElem?_modify, h]
theorem grown_new {w wk : World} {g : Option Nat} (h : w.grownBy wk g) {n : Nat} (hn : w.heap.size ≤ n) (j : Nat) (u : Value) : w.grownBy (wk.setCell ⟨n, j, none⟩ u) g :=
  ⟨h.os, h.tape, h.output, by simp [World.setCell]; exact h.size, fun k hk hne => (Below.heap_setCell wk ⟨n, j, none⟩ u k (fun e => by have e' : k = n := e; omega)).trans (h.block k hk hne)⟩
theorem grown4 {w w0 wk : World} {g : Nat} (b : Below w.heap.size w w0) (h : w0.grownBy wk (some g)) (x y z u : Value) : w.grownBy (set4w wk w.heap.size x y z u) (some g) :=
  grown_new (grown_new (grown_new (grown_new ((grownBy_below b _).trans h) (Nat.le_refl _) 0 x) (Nat.le_refl _) 1 y) (Nat.le_refl _) 2 z) (Nat.le_refl _) 3 u
theorem rd_other {w : World} {g n : Nat} {s : ByteArray} (h : RD w g s) (hn : g ≠ n) (j : Nat) (u : Value) : RD (w.setCell ⟨n, j, none⟩ u) g s :=
  (Below.heap_setCell w ⟨n, j, none⟩ u g hn).trans h
theorem rd4 {w : World} {g n : Nat} {s : ByteArray} (hn : g < n) (h : RD w g s) (x y z u : Value) : RD (set4w w n x y z u) g s :=
  rd_other (rd_other (rd_other (rd_other h (by omega) 0 x) (by omega) 1 y) (by omega) 2 z) (by omega) 3 u
set_option maxRecDepth 1000000 in
set_option maxHeartbeats 8000000 in
theorem rdValue_c {w : World} {g : Nat} {s : ByteArray} (h : RD w g s) (hs : s.size ≤ 140737488355328) :
    Calls Tryd.prog 60 #[.pointer (some ⟨g, 0, none⟩)] w (PR w g Vl.val (valP s)) := by
  have bA : Below w.heap.size w (w.alloc (.cells #[.int .i64 0, .int .i64 0, .string ByteArray.empty, .float .f64 0] 46)) := (Below.refl _ _).alloc (Nat.le_refl _) _
  have hT := rdTake_c (rd_below h bA) 1 1 rfl
  have q32 := from32_run
  have q64 := from64_run
  have qs := store_float (P := Tryd.prog)
  cases ho : takeP 1 s with
  | none =>
    have HT := Lib.hid (pr_no hT ho)
    have HV := Lib.hid (show valP s = none by unfold valP; rw [ho]; rfl)
    have BA := Lib.hid bA
    clear ho hT h bA
    go_enter Tryd.func60, Tryd.ntmps60
    go_wp2_with fail
    refine (HT.out).mono ?_
    rintro e w1 ⟨rfl, g1⟩
    go_wp2_with fail
    exact ⟨rfl, pr_none HV.out ((grownBy_below BA.out _).trans g1) rfl⟩
  | some p =>
    obtain ⟨x, r⟩ := p
    have HT := Lib.hid (pr_yes hT ho)
    have hr : r.size ≤ 140737488355328 := by have := (takeP_size ho).2; omega
    have hV : valP s = valQ x r := by unfold valP; rw [ho]; rfl
    have BA := Lib.hid bA
    have HG := Lib.hid (rd_lt h)
    clear ho hT h bA
    have hnew : ∀ w1 : World, (w.alloc (.cells #[.int .i64 0, .int .i64 0, .string ByteArray.empty, .float .f64 0] 46)).grownBy w1 (some g) → w1.heap[w.heap.size]? = some (.cells #[.int .i64 0, .int .i64 0, .string ByteArray.empty, .float .f64 0] 46 (0, 0)) := fun w1 h1 => by
      rw [h1.block w.heap.size (by simp) (fun e => by injection e with e; have := HG.out; omega)]
      exact heap_alloc_new w _
    have HNW := Lib.hid hnew
    clear hnew
    unfold valQ at hV
    by_cases c0 : x = ⟨#[116]⟩
    · rw [if_pos c0] at hV
      subst c0
      have HV := Lib.hid hV
      clear hV
      go_enter Tryd.func60, Tryd.ntmps60
      go_wp2_with fail
      refine (HT.out).mono ?_
      rintro e w1 ⟨rfl, r1, g1⟩
      have hN := rdNumber_c r1 1 (by omega) 1 rfl
      have G1 := Lib.hid g1
      clear r1 g1
      cases ho : numP 1 r with
      | none =>
        have HN := Lib.hid (pr_no hN ho)
        have HO := Lib.hid ho
        clear hN ho
        go_wp2_with fail
        refine (HN.out).mono ?_
        rintro e w2 ⟨rfl, g2⟩
        go_wp2_with fail
        exact ⟨rfl, pr_none (HV.out.trans (by rw [HO.out]; rfl)) ((grownBy_below BA.out _).trans (G1.out.trans g2)) rfl⟩
      | some q =>
        obtain ⟨n, r'⟩ := q
        have HN := Lib.hid (pr_yes hN ho)
        have hn := numP_lt ho
        have hnI : (n : Int) < 256 := by omega
        have HO := Lib.hid ho
        clear hN ho hn
        go_wp2_with fail
        refine (HN.out).mono ?_
        rintro e w2 ⟨rfl, r2, g2⟩
        have hb := HNW.out _ (G1.out.trans g2)
        have R2 := Lib.hid r2
        have G2 := Lib.hid g2
        have HB := Lib.hid hb
        clear r2 g2 hb
        have q0 : w2.cell? ⟨w.heap.size, 0, none⟩ = some (.int .i64 0) := by simp [World.cell?, HB.out]
        have q1 : w2.cell? ⟨w.heap.size, 1, none⟩ = some (.int .i64 0) := by simp [World.cell?, HB.out]
        have q2 : w2.cell? ⟨w.heap.size, 2, none⟩ = some (.string ByteArray.empty) := by simp [World.cell?, HB.out]
        have q3 : w2.cell? ⟨w.heap.size, 3, none⟩ = some (.float .f64 0) := by simp [World.cell?, HB.out]
        have f0 : w2.frozen? ⟨w.heap.size, 0, none⟩ = false := by simp [World.frozen?, HB.out]
        have f1 : w2.frozen? ⟨w.heap.size, 1, none⟩ = false := by simp [World.frozen?, HB.out]
        have f2 : w2.frozen? ⟨w.heap.size, 2, none⟩ = false := by simp [World.frozen?, HB.out]
        have f3 : w2.frozen? ⟨w.heap.size, 3, none⟩ = false := by simp [World.frozen?, HB.out]
        go_wp2_with fail
        refine value_end rfl rfl (cells4_at HB.out _ _ _ _) rfl ?_
        exact pr_some (HV.out.trans (by rw [HO.out]; rfl)) (grown4 BA.out (G1.out.trans G2.out) _ _ _ _) rfl (rd4 HG.out R2.out _ _ _ _)
    rw [if_neg c0] at hV
    have b0 : (x.toList == [116]) = false := str_bne (l := [116]) c0
    by_cases c1 : x = ⟨#[98]⟩
    · rw [if_pos c1] at hV
      subst c1
      have HV := Lib.hid hV
      clear hV b0
      go_enter Tryd.func60, Tryd.ntmps60
      go_wp2_with fail
      refine (HT.out).mono ?_
      rintro e w1 ⟨rfl, r1, g1⟩
      have hN := rdNumber_c r1 1 (by omega) 1 rfl
      have G1 := Lib.hid g1
      clear r1 g1
      cases ho : numP 1 r with
      | none =>
        have HN := Lib.hid (pr_no hN ho)
        have HO := Lib.hid ho
        clear hN ho
        go_wp2_with fail
        refine (HN.out).mono ?_
        rintro e w2 ⟨rfl, g2⟩
        go_wp2_with fail
        exact ⟨rfl, pr_none (HV.out.trans (by rw [HO.out]; rfl)) ((grownBy_below BA.out _).trans (G1.out.trans g2)) rfl⟩
      | some q =>
        obtain ⟨n, r'⟩ := q
        have HN := Lib.hid (pr_yes hN ho)
        have hn := numP_lt ho
        obtain ⟨z, hz, hz1, hz2⟩ := sg8 n hn
        have hnI : (n : Int) < 256 := by omega
        have HZ := Lib.hid hz1
        have hz3 : -9223372036854775808 ≤ z := hz2.1
        have hz4 : z ≤ 9223372036854775807 := hz2.2
        have hz5 : IntKind.i64.wrap z = z := IntWalk.i64_in _ (by omega)
        clear hz1 hz2
        have HO := Lib.hid ho
        clear hN ho hn
        go_wp2_with fail
        refine (HN.out).mono ?_
        rintro e w2 ⟨rfl, r2, g2⟩
        have hb := HNW.out _ (G1.out.trans g2)
        have R2 := Lib.hid r2
        have G2 := Lib.hid g2
        have HB := Lib.hid hb
        clear r2 g2 hb
        have q0 : w2.cell? ⟨w.heap.size, 0, none⟩ = some (.int .i64 0) := by simp [World.cell?, HB.out]
        have q1 : w2.cell? ⟨w.heap.size, 1, none⟩ = some (.int .i64 0) := by simp [World.cell?, HB.out]
        have q2 : w2.cell? ⟨w.heap.size, 2, none⟩ = some (.string ByteArray.empty) := by simp [World.cell?, HB.out]
        have q3 : w2.cell? ⟨w.heap.size, 3, none⟩ = some (.float .f64 0) := by simp [World.cell?, HB.out]
        have f0 : w2.frozen? ⟨w.heap.size, 0, none⟩ = false := by simp [World.frozen?, HB.out]
        have f1 : w2.frozen? ⟨w.heap.size, 1, none⟩ = false := by simp [World.frozen?, HB.out]
        have f2 : w2.frozen? ⟨w.heap.size, 2, none⟩ = false := by simp [World.frozen?, HB.out]
        have f3 : w2.frozen? ⟨w.heap.size, 3, none⟩ = false := by simp [World.frozen?, HB.out]
        go_wp2_with fail
        refine value_end rfl rfl (cells4_at HB.out _ _ _ _) rfl ?_
        exact pr_some (HV.out.trans (by rw [HO.out]; rfl)) (grown4 BA.out (G1.out.trans G2.out) _ _ _ _) (by rw [HZ.out]; rfl) (rd4 HG.out R2.out _ _ _ _)
    rw [if_neg c1] at hV
    have b1 : (x.toList == [98]) = false := str_bne (l := [98]) c1
    by_cases c2 : x = ⟨#[115]⟩
    · rw [if_pos c2] at hV
      subst c2
      have HV := Lib.hid hV
      clear hV b0 b1
      go_enter Tryd.func60, Tryd.ntmps60
      go_wp2_with fail
      refine (HT.out).mono ?_
      rintro e w1 ⟨rfl, r1, g1⟩
      have hN := rdNumber_c r1 2 (by omega) 2 rfl
      have G1 := Lib.hid g1
      clear r1 g1
      cases ho : numP 2 r with
      | none =>
        have HN := Lib.hid (pr_no hN ho)
        have HO := Lib.hid ho
        clear hN ho
        go_wp2_with fail
        refine (HN.out).mono ?_
        rintro e w2 ⟨rfl, g2⟩
        go_wp2_with fail
        exact ⟨rfl, pr_none (HV.out.trans (by rw [HO.out]; rfl)) ((grownBy_below BA.out _).trans (G1.out.trans g2)) rfl⟩
      | some q =>
        obtain ⟨n, r'⟩ := q
        have HN := Lib.hid (pr_yes hN ho)
        have hn := numP_lt ho
        obtain ⟨z, hz, hz1, hz2⟩ := sg16 n hn
        have hnI : (n : Int) < 65536 := by omega
        have HZ := Lib.hid hz1
        have hz3 : -9223372036854775808 ≤ z := hz2.1
        have hz4 : z ≤ 9223372036854775807 := hz2.2
        have hz5 : IntKind.i64.wrap z = z := IntWalk.i64_in _ (by omega)
        clear hz1 hz2
        have HO := Lib.hid ho
        clear hN ho hn
        go_wp2_with fail
        refine (HN.out).mono ?_
        rintro e w2 ⟨rfl, r2, g2⟩
        have hb := HNW.out _ (G1.out.trans g2)
        have R2 := Lib.hid r2
        have G2 := Lib.hid g2
        have HB := Lib.hid hb
        clear r2 g2 hb
        have q0 : w2.cell? ⟨w.heap.size, 0, none⟩ = some (.int .i64 0) := by simp [World.cell?, HB.out]
        have q1 : w2.cell? ⟨w.heap.size, 1, none⟩ = some (.int .i64 0) := by simp [World.cell?, HB.out]
        have q2 : w2.cell? ⟨w.heap.size, 2, none⟩ = some (.string ByteArray.empty) := by simp [World.cell?, HB.out]
        have q3 : w2.cell? ⟨w.heap.size, 3, none⟩ = some (.float .f64 0) := by simp [World.cell?, HB.out]
        have f0 : w2.frozen? ⟨w.heap.size, 0, none⟩ = false := by simp [World.frozen?, HB.out]
        have f1 : w2.frozen? ⟨w.heap.size, 1, none⟩ = false := by simp [World.frozen?, HB.out]
        have f2 : w2.frozen? ⟨w.heap.size, 2, none⟩ = false := by simp [World.frozen?, HB.out]
        have f3 : w2.frozen? ⟨w.heap.size, 3, none⟩ = false := by simp [World.frozen?, HB.out]
        go_wp2_with fail
        refine value_end rfl rfl (cells4_at HB.out _ _ _ _) rfl ?_
        exact pr_some (HV.out.trans (by rw [HO.out]; rfl)) (grown4 BA.out (G1.out.trans G2.out) _ _ _ _) (by rw [HZ.out]; rfl) (rd4 HG.out R2.out _ _ _ _)
    rw [if_neg c2] at hV
    have b2 : (x.toList == [115]) = false := str_bne (l := [115]) c2
    by_cases c3 : x = ⟨#[73]⟩
    · rw [if_pos c3] at hV
      subst c3
      have HV := Lib.hid hV
      clear hV b0 b1 b2
      go_enter Tryd.func60, Tryd.ntmps60
      go_wp2_with fail
      refine (HT.out).mono ?_
      rintro e w1 ⟨rfl, r1, g1⟩
      have hN := rdNumber_c r1 4 (by omega) 4 rfl
      have G1 := Lib.hid g1
      clear r1 g1
      cases ho : numP 4 r with
      | none =>
        have HN := Lib.hid (pr_no hN ho)
        have HO := Lib.hid ho
        clear hN ho
        go_wp2_with fail
        refine (HN.out).mono ?_
        rintro e w2 ⟨rfl, g2⟩
        go_wp2_with fail
        exact ⟨rfl, pr_none (HV.out.trans (by rw [HO.out]; rfl)) ((grownBy_below BA.out _).trans (G1.out.trans g2)) rfl⟩
      | some q =>
        obtain ⟨n, r'⟩ := q
        have HN := Lib.hid (pr_yes hN ho)
        have hn := numP_lt ho
        obtain ⟨z, hz, hz1, hz2⟩ := sg32 n hn
        have hnI : (n : Int) < 4294967296 := by omega
        have HZ := Lib.hid hz1
        have hz3 : -9223372036854775808 ≤ z := hz2.1
        have hz4 : z ≤ 9223372036854775807 := hz2.2
        have hz5 : IntKind.i64.wrap z = z := IntWalk.i64_in _ (by omega)
        clear hz1 hz2
        have HO := Lib.hid ho
        clear hN ho hn
        go_wp2_with fail
        refine (HN.out).mono ?_
        rintro e w2 ⟨rfl, r2, g2⟩
        have hb := HNW.out _ (G1.out.trans g2)
        have R2 := Lib.hid r2
        have G2 := Lib.hid g2
        have HB := Lib.hid hb
        clear r2 g2 hb
        have q0 : w2.cell? ⟨w.heap.size, 0, none⟩ = some (.int .i64 0) := by simp [World.cell?, HB.out]
        have q1 : w2.cell? ⟨w.heap.size, 1, none⟩ = some (.int .i64 0) := by simp [World.cell?, HB.out]
        have q2 : w2.cell? ⟨w.heap.size, 2, none⟩ = some (.string ByteArray.empty) := by simp [World.cell?, HB.out]
        have q3 : w2.cell? ⟨w.heap.size, 3, none⟩ = some (.float .f64 0) := by simp [World.cell?, HB.out]
        have f0 : w2.frozen? ⟨w.heap.size, 0, none⟩ = false := by simp [World.frozen?, HB.out]
        have f1 : w2.frozen? ⟨w.heap.size, 1, none⟩ = false := by simp [World.frozen?, HB.out]
        have f2 : w2.frozen? ⟨w.heap.size, 2, none⟩ = false := by simp [World.frozen?, HB.out]
        have f3 : w2.frozen? ⟨w.heap.size, 3, none⟩ = false := by simp [World.frozen?, HB.out]
        go_wp2_with fail
        refine value_end rfl rfl (cells4_at HB.out _ _ _ _) rfl ?_
        exact pr_some (HV.out.trans (by rw [HO.out]; rfl)) (grown4 BA.out (G1.out.trans G2.out) _ _ _ _) (by rw [HZ.out]; rfl) (rd4 HG.out R2.out _ _ _ _)
    rw [if_neg c3] at hV
    have b3 : (x.toList == [73]) = false := str_bne (l := [73]) c3
    by_cases c4 : x = ⟨#[108]⟩
    · rw [if_pos c4] at hV
      subst c4
      have HV := Lib.hid hV
      clear hV b0 b1 b2 b3
      go_enter Tryd.func60, Tryd.ntmps60
      go_wp2_with fail
      refine (HT.out).mono ?_
      rintro e w1 ⟨rfl, r1, g1⟩
      have hN := rdNumber_c r1 8 (by omega) 8 rfl
      have G1 := Lib.hid g1
      clear r1 g1
      cases ho : numP 8 r with
      | none =>
        have HN := Lib.hid (pr_no hN ho)
        have HO := Lib.hid ho
        clear hN ho
        go_wp2_with fail
        refine (HN.out).mono ?_
        rintro e w2 ⟨rfl, g2⟩
        go_wp2_with fail
        exact ⟨rfl, pr_none (HV.out.trans (by rw [HO.out]; rfl)) ((grownBy_below BA.out _).trans (G1.out.trans g2)) rfl⟩
      | some q =>
        obtain ⟨n, r'⟩ := q
        have HN := Lib.hid (pr_yes hN ho)
        have hn := numP_lt ho
        obtain ⟨z, hz, hz1, hz2⟩ := sg64 n hn
        have HZ := Lib.hid hz1
        have hz3 : -9223372036854775808 ≤ z := hz2.1
        have hz4 : z ≤ 9223372036854775807 := hz2.2
        have hz5 : IntKind.i64.wrap z = z := IntWalk.i64_in _ (by omega)
        clear hz1 hz2
        have HO := Lib.hid ho
        clear hN ho hn
        go_wp2_with fail
        refine (HN.out).mono ?_
        rintro e w2 ⟨rfl, r2, g2⟩
        have hb := HNW.out _ (G1.out.trans g2)
        have R2 := Lib.hid r2
        have G2 := Lib.hid g2
        have HB := Lib.hid hb
        clear r2 g2 hb
        have q0 : w2.cell? ⟨w.heap.size, 0, none⟩ = some (.int .i64 0) := by simp [World.cell?, HB.out]
        have q1 : w2.cell? ⟨w.heap.size, 1, none⟩ = some (.int .i64 0) := by simp [World.cell?, HB.out]
        have q2 : w2.cell? ⟨w.heap.size, 2, none⟩ = some (.string ByteArray.empty) := by simp [World.cell?, HB.out]
        have q3 : w2.cell? ⟨w.heap.size, 3, none⟩ = some (.float .f64 0) := by simp [World.cell?, HB.out]
        have f0 : w2.frozen? ⟨w.heap.size, 0, none⟩ = false := by simp [World.frozen?, HB.out]
        have f1 : w2.frozen? ⟨w.heap.size, 1, none⟩ = false := by simp [World.frozen?, HB.out]
        have f2 : w2.frozen? ⟨w.heap.size, 2, none⟩ = false := by simp [World.frozen?, HB.out]
        have f3 : w2.frozen? ⟨w.heap.size, 3, none⟩ = false := by simp [World.frozen?, HB.out]
        go_wp2_with fail
        refine value_end rfl rfl (cells4_at HB.out _ _ _ _) rfl ?_
        exact pr_some (HV.out.trans (by rw [HO.out]; rfl)) (grown4 BA.out (G1.out.trans G2.out) _ _ _ _) (by rw [HZ.out]; rfl) (rd4 HG.out R2.out _ _ _ _)
    rw [if_neg c4] at hV
    have b4 : (x.toList == [108]) = false := str_bne (l := [108]) c4
    by_cases c5 : x = ⟨#[102]⟩
    · rw [if_pos c5] at hV
      subst c5
      have HV := Lib.hid hV
      clear hV b0 b1 b2 b3 b4
      go_enter Tryd.func60, Tryd.ntmps60
      go_wp2_with fail
      refine (HT.out).mono ?_
      rintro e w1 ⟨rfl, r1, g1⟩
      have hN := rdNumber_c r1 4 (by omega) 4 rfl
      have G1 := Lib.hid g1
      clear r1 g1
      cases ho : numP 4 r with
      | none =>
        have HN := Lib.hid (pr_no hN ho)
        have HO := Lib.hid ho
        clear hN ho
        go_wp2_with fail
        refine (HN.out).mono ?_
        rintro e w2 ⟨rfl, g2⟩
        go_wp2_with fail
        exact ⟨rfl, pr_none (HV.out.trans (by rw [HO.out]; rfl)) ((grownBy_below BA.out _).trans (G1.out.trans g2)) rfl⟩
      | some q =>
        obtain ⟨n, r'⟩ := q
        have HN := Lib.hid (pr_yes hN ho)
        have hn := numP_lt ho
        have hnI : (n : Int) < 4294967296 := by omega
        have HO := Lib.hid ho
        clear hN ho hn
        go_wp2_with fail
        refine (HN.out).mono ?_
        rintro e w2 ⟨rfl, r2, g2⟩
        have hb := HNW.out _ (G1.out.trans g2)
        have R2 := Lib.hid r2
        have G2 := Lib.hid g2
        have HB := Lib.hid hb
        clear r2 g2 hb
        go_wp2_with fail
        refine (widen_c n _ (by first | rfl | exact IntWalk.u32_in _ (by omega))).mono ?_
        rintro e w3 ⟨rfl, b3⟩
        have R3 := Lib.hid (rd_below R2.out b3)
        have G3 := Lib.hid (G2.out.trans (grownBy_below b3 _))
        have hb3 := HNW.out _ (G1.out.trans G3.out)
        have HB3 := Lib.hid hb3
        clear b3 hb3
        have q0 : w3.cell? ⟨w.heap.size, 0, none⟩ = some (.int .i64 0) := by simp [World.cell?, HB3.out]
        have q1 : w3.cell? ⟨w.heap.size, 1, none⟩ = some (.int .i64 0) := by simp [World.cell?, HB3.out]
        have q2 : w3.cell? ⟨w.heap.size, 2, none⟩ = some (.string ByteArray.empty) := by simp [World.cell?, HB3.out]
        have q3 : w3.cell? ⟨w.heap.size, 3, none⟩ = some (.float .f64 0) := by simp [World.cell?, HB3.out]
        have f0 : w3.frozen? ⟨w.heap.size, 0, none⟩ = false := by simp [World.frozen?, HB3.out]
        have f1 : w3.frozen? ⟨w.heap.size, 1, none⟩ = false := by simp [World.frozen?, HB3.out]
        have f2 : w3.frozen? ⟨w.heap.size, 2, none⟩ = false := by simp [World.frozen?, HB3.out]
        have f3 : w3.frozen? ⟨w.heap.size, 3, none⟩ = false := by simp [World.frozen?, HB3.out]
        go_wp2_with fail
        refine value_end rfl rfl (cells4_at HB3.out _ _ _ _) rfl ?_
        exact pr_some (HV.out.trans (by rw [HO.out]; rfl)) (grown4 BA.out (G1.out.trans G3.out) _ _ _ _) rfl (rd4 HG.out R3.out _ _ _ _)
    rw [if_neg c5] at hV
    have b5 : (x.toList == [102]) = false := str_bne (l := [102]) c5
    by_cases c6 : x = ⟨#[100]⟩
    · rw [if_pos c6] at hV
      subst c6
      have HV := Lib.hid hV
      clear hV b0 b1 b2 b3 b4 b5
      go_enter Tryd.func60, Tryd.ntmps60
      go_wp2_with fail
      refine (HT.out).mono ?_
      rintro e w1 ⟨rfl, r1, g1⟩
      have hN := rdNumber_c r1 8 (by omega) 8 rfl
      have G1 := Lib.hid g1
      clear r1 g1
      cases ho : numP 8 r with
      | none =>
        have HN := Lib.hid (pr_no hN ho)
        have HO := Lib.hid ho
        clear hN ho
        go_wp2_with fail
        refine (HN.out).mono ?_
        rintro e w2 ⟨rfl, g2⟩
        go_wp2_with fail
        exact ⟨rfl, pr_none (HV.out.trans (by rw [HO.out]; rfl)) ((grownBy_below BA.out _).trans (G1.out.trans g2)) rfl⟩
      | some q =>
        obtain ⟨n, r'⟩ := q
        have HN := Lib.hid (pr_yes hN ho)
        have hn := numP_lt ho
        have HO := Lib.hid ho
        clear hN ho hn
        go_wp2_with fail
        refine (HN.out).mono ?_
        rintro e w2 ⟨rfl, r2, g2⟩
        have hb := HNW.out _ (G1.out.trans g2)
        have R2 := Lib.hid r2
        have G2 := Lib.hid g2
        have HB := Lib.hid hb
        clear r2 g2 hb
        go_wp2_with fail
        refine (canon_c n).mono ?_
        rintro e w3 ⟨rfl, rfl⟩
        have q0 : w2.cell? ⟨w.heap.size, 0, none⟩ = some (.int .i64 0) := by simp [World.cell?, HB.out]
        have q1 : w2.cell? ⟨w.heap.size, 1, none⟩ = some (.int .i64 0) := by simp [World.cell?, HB.out]
        have q2 : w2.cell? ⟨w.heap.size, 2, none⟩ = some (.string ByteArray.empty) := by simp [World.cell?, HB.out]
        have q3 : w2.cell? ⟨w.heap.size, 3, none⟩ = some (.float .f64 0) := by simp [World.cell?, HB.out]
        have f0 : w2.frozen? ⟨w.heap.size, 0, none⟩ = false := by simp [World.frozen?, HB.out]
        have f1 : w2.frozen? ⟨w.heap.size, 1, none⟩ = false := by simp [World.frozen?, HB.out]
        have f2 : w2.frozen? ⟨w.heap.size, 2, none⟩ = false := by simp [World.frozen?, HB.out]
        have f3 : w2.frozen? ⟨w.heap.size, 3, none⟩ = false := by simp [World.frozen?, HB.out]
        go_wp2_with fail
        refine value_end rfl rfl (cells4_at HB.out _ _ _ _) rfl ?_
        exact pr_some (HV.out.trans (by rw [HO.out]; rfl)) (grown4 BA.out (G1.out.trans G2.out) _ _ _ _) rfl (rd4 HG.out R2.out _ _ _ _)
    rw [if_neg c6] at hV
    have b6 : (x.toList == [100]) = false := str_bne (l := [100]) c6
    by_cases c7 : x = ⟨#[83]⟩
    · rw [if_pos c7] at hV
      subst c7
      have HV := Lib.hid hV
      clear hV b0 b1 b2 b3 b4 b5 b6
      go_enter Tryd.func60, Tryd.ntmps60
      go_wp2_with fail
      refine (HT.out).mono ?_
      rintro e w1 ⟨rfl, r1, g1⟩
      have hN := rdLong_c r1 hr
      have G1 := Lib.hid g1
      clear r1 g1
      cases ho : longP r with
      | none =>
        have HN := Lib.hid (pr_no hN ho)
        have HO := Lib.hid ho
        clear hN ho
        go_wp2_with fail
        refine (HN.out).mono ?_
        rintro e w2 ⟨rfl, g2⟩
        go_wp2_with fail
        exact ⟨rfl, pr_none (HV.out.trans (by rw [HO.out]; rfl)) ((grownBy_below BA.out _).trans (G1.out.trans g2)) rfl⟩
      | some q =>
        obtain ⟨n, r'⟩ := q
        have HN := Lib.hid (pr_yes hN ho)
        have HO := Lib.hid ho
        clear hN ho
        go_wp2_with fail
        refine (HN.out).mono ?_
        rintro e w2 ⟨rfl, r2, g2⟩
        have hb := HNW.out _ (G1.out.trans g2)
        have R2 := Lib.hid r2
        have G2 := Lib.hid g2
        have HB := Lib.hid hb
        clear r2 g2 hb
        have q0 : w2.cell? ⟨w.heap.size, 0, none⟩ = some (.int .i64 0) := by simp [World.cell?, HB.out]
        have q1 : w2.cell? ⟨w.heap.size, 1, none⟩ = some (.int .i64 0) := by simp [World.cell?, HB.out]
        have q2 : w2.cell? ⟨w.heap.size, 2, none⟩ = some (.string ByteArray.empty) := by simp [World.cell?, HB.out]
        have q3 : w2.cell? ⟨w.heap.size, 3, none⟩ = some (.float .f64 0) := by simp [World.cell?, HB.out]
        have f0 : w2.frozen? ⟨w.heap.size, 0, none⟩ = false := by simp [World.frozen?, HB.out]
        have f1 : w2.frozen? ⟨w.heap.size, 1, none⟩ = false := by simp [World.frozen?, HB.out]
        have f2 : w2.frozen? ⟨w.heap.size, 2, none⟩ = false := by simp [World.frozen?, HB.out]
        have f3 : w2.frozen? ⟨w.heap.size, 3, none⟩ = false := by simp [World.frozen?, HB.out]
        go_wp2_with fail
        refine value_end rfl rfl (cells4_at HB.out _ _ _ _) rfl ?_
        exact pr_some (HV.out.trans (by rw [HO.out]; rfl)) (grown4 BA.out (G1.out.trans G2.out) _ _ _ _) rfl (rd4 HG.out R2.out _ _ _ _)
    rw [if_neg c7] at hV
    have b7 : (x.toList == [83]) = false := str_bne (l := [83]) c7
    have HV := Lib.hid hV
    clear hV c0 c1 c2 c3 c4 c5 c6 c7
    go_enter Tryd.func60, Tryd.ntmps60
    go_wp2_with fail
    refine (HT.out).mono ?_
    rintro e w1 ⟨rfl, r1, g1⟩
    go_wp2_with fail
    exact ⟨rfl, pr_none HV.out ((grownBy_below BA.out _).trans g1) rfl⟩
end Go.Proofs.YteigbejidfkhpaaDoor
