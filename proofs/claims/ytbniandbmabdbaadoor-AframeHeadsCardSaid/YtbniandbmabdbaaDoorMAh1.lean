/- Texts of this claim, joined: TkB, SoA, SoB, SoC, SoD, SoE, SoF, TkC, TbM, TbN, TbO, TkG, AhA, TkD, TkE, TkF, AhB. -/
import Derived.Test.YtbniandbmabdbaaDoorMAh0
import Derived.Shelf.SlSortCmp.KitK
import Derived.Sort.WalkB2
import Derived.Sort.WalkB12
import Derived.Deep.LoopGhost
import Derived.Deep.DeepCutAuto
import Derived.Deep.CutRange
import Derived.Sort.Walk0
import Derived.Shelf.SlLaysF0
import Derived.Sort.LotA
import Derived.KernelRfl
import Derived.Defers
import Derived.Recover
import Derived.BigQuiet
import Derived.Deep.QuietTactic
/- Layer 15: the reader's values. -/
namespace Go.Proofs.YtbniandbmabdbaaDoor
open Go Go.RowKit
set_option linter.unusedSimpArgs false
set_option linter.unusedVariables false

def widR (n : Nat) : Nat := match widenE n with | some v => canonR v | none => 9221120237041090561
theorem from32_run (w : World) (n : Int) : (callFunc 81 #[.int .u32 n]).run Tryd.prog w = .ok (.value (.float .f32 n.toNat)) w := by
  rw [run_callFunc_extern (e := Extern.MathFloatBits.float32frombits) Tryd.func81 (by kernel_rfl) (by kernel_rfl) (by kernel_rfl) (by kernel_rfl)]
  rfl
theorem canon_c' {w : World} (r : Nat) (hr : nanB r = true) :
    Calls Tryd.prog 65 #[.float .f64 r] w fun e w' => e = .returned (.float .f64 9221120237041090561) ∧ w = w' := by
  have h := canon_c (w := w) r
  rw [show canonR r = 9221120237041090561 by unfold canonR; rw [hr]; rfl] at h
  exact h
theorem to64_any (n : Nat) (w : World) : ∃ (b : Nat) (w1 : World), (convert 92 55 (.float .f32 n)).run Tryd.prog w = .ok (.float .f64 b) w1 ∧ (w1 = w ∨ w1 = w.drew) ∧ canonR b = widR n := by
  unfold widR widenE
  cases h : Ieee.single.read n with
  | number s m e => exact ⟨_, _, to64_num h w, .inl rfl, rfl⟩
  | infinity s => exact ⟨_, _, to64_inf h w, .inl rfl, rfl⟩
  | nan s t =>
    obtain ⟨b, h1, h2⟩ := to64_nan h w
    refine ⟨b, _, h1, .inr rfl, ?_⟩
    have hn : nanB b = true := by
      unfold nanB
      rw [show FloatKind.f64.format = Ieee.double from rfl, h2 b]
      rfl
    unfold canonR
    rw [hn]
    rfl

set_option maxRecDepth 100000 in
theorem widen_c {w : World} (n : Nat) (ni : Int) (hni : ni = n) :
    Calls Tryd.prog 69 #[.int .u32 ni] w fun e w' => e = .returned (.float .f64 (widR n)) ∧ Below w.heap.size w w' := by
  subst hni
  obtain ⟨b, w1, hc, hw, hb⟩ := to64_any n w
  have q := from32_run
  have HB := Lib.hid hb
  have hW := Lib.hid (show Below w.heap.size w w1 by rcases hw with rfl | rfl; exact Below.refl _ _; exact (Below.refl _ _).drew)
  clear hb hw
  go_enter Tryd.func69, Tryd.ntmps69
  go_wp2_with fail
  refine (canon_c b).mono ?_
  rintro e w2 ⟨rfl, rfl⟩
  go_wp2_with fail
  go_ret
  exact ⟨by first | rfl | (rw [HB.out]; rfl), hW.out⟩

structure Vl where
  k : Int
  n : Int
  t : ByteArray
  r : Nat
def Vl.val (v : Vl) : Value := .agg #[.int .i64 v.k, .int .i64 v.n, .string v.t, .float .f64 v.r]
def sgn (b : Nat) (n : Nat) : Int := if n < 2 ^ (b - 1) then n else (n : Int) - 2 ^ b
/-- The next value, behind its letter. -/
def valQ (x r : ByteArray) : Option (Vl × ByteArray) :=
  if x = ⟨#[116]⟩ then (numP 1 r).map fun q => (⟨2, q.1, ByteArray.empty, 0⟩, q.2)
  else if x = ⟨#[98]⟩ then (numP 1 r).map fun q => (⟨1, sgn 8 q.1, ByteArray.empty, 0⟩, q.2)
  else if x = ⟨#[115]⟩ then (numP 2 r).map fun q => (⟨1, sgn 16 q.1, ByteArray.empty, 0⟩, q.2)
  else if x = ⟨#[73]⟩ then (numP 4 r).map fun q => (⟨1, sgn 32 q.1, ByteArray.empty, 0⟩, q.2)
  else if x = ⟨#[108]⟩ then (numP 8 r).map fun q => (⟨1, sgn 64 q.1, ByteArray.empty, 0⟩, q.2)
  else if x = ⟨#[102]⟩ then (numP 4 r).map fun q => (⟨4, 0, ByteArray.empty, widR q.1⟩, q.2)
  else if x = ⟨#[100]⟩ then (numP 8 r).map fun q => (⟨4, 0, ByteArray.empty, canonR q.1⟩, q.2)
  else if x = ⟨#[83]⟩ then (longP r).map fun q => (⟨3, 0, q.1, 0⟩, q.2)
  else none
def valP (s : ByteArray) : Option (Vl × ByteArray) := (takeP 1 s).bind fun p => valQ p.1 p.2
theorem sg8 (n : Nat) (hn : n < 256 ^ 1) : ∃ z : Int, IntKind.i8.wrap (n : Int) = z ∧ z = sgn 8 n ∧ -9223372036854775808 ≤ z ∧ z ≤ 9223372036854775807 := by
  refine ⟨_, rfl, ?_⟩
  have hn' : n < 256 := hn
  unfold sgn
  have hw : IntKind.i8.wrap (n : Int) = ((n : Int) + 128) % 256 - 128 := by
    simp [IntKind.wrap, IntKind.bits, IntKind.signed]
    split <;> omega
  rw [hw]
  split
  · rename_i h
    have h' : n < 128 := h
    omega
  · rename_i h
    have h' : ¬ n < 128 := h
    show _ = (n : Int) - 256 ∧ _
    omega
theorem sg16 (n : Nat) (hn : n < 256 ^ 2) : ∃ z : Int, IntKind.i16.wrap (n : Int) = z ∧ z = sgn 16 n ∧ -9223372036854775808 ≤ z ∧ z ≤ 9223372036854775807 := by
  refine ⟨_, rfl, ?_⟩
  have hn' : n < 65536 := hn
  unfold sgn
  have hw : IntKind.i16.wrap (n : Int) = ((n : Int) + 32768) % 65536 - 32768 := by
    simp [IntKind.wrap, IntKind.bits, IntKind.signed]
    split <;> omega
  rw [hw]
  split
  · rename_i h
    have h' : n < 32768 := h
    omega
  · rename_i h
    have h' : ¬ n < 32768 := h
    show _ = (n : Int) - 65536 ∧ _
    omega
theorem sg32 (n : Nat) (hn : n < 256 ^ 4) : ∃ z : Int, IntKind.i32.wrap (n : Int) = z ∧ z = sgn 32 n ∧ -9223372036854775808 ≤ z ∧ z ≤ 9223372036854775807 := by
  refine ⟨_, rfl, ?_⟩
  have hn' : n < 4294967296 := hn
  unfold sgn
  have hw : IntKind.i32.wrap (n : Int) = ((n : Int) + 2147483648) % 4294967296 - 2147483648 := by
    simp [IntKind.wrap, IntKind.bits, IntKind.signed]
    split <;> omega
  rw [hw]
  split
  · rename_i h
    have h' : n < 2147483648 := h
    omega
  · rename_i h
    have h' : ¬ n < 2147483648 := h
    show _ = (n : Int) - 4294967296 ∧ _
    omega
theorem sg64 (n : Nat) (hn : n < 256 ^ 8) : ∃ z : Int, IntKind.i64.wrap (n : Int) = z ∧ z = sgn 64 n ∧ -9223372036854775808 ≤ z ∧ z ≤ 9223372036854775807 := by
  refine ⟨_, rfl, ?_⟩
  have hn' : n < 18446744073709551616 := hn
  unfold sgn
  have hw : IntKind.i64.wrap (n : Int) = ((n : Int) + 9223372036854775808) % 18446744073709551616 - 9223372036854775808 := by
    simp [IntKind.wrap, IntKind.bits, IntKind.signed]
    split <;> omega
  rw [hw]
  split
  · rename_i h
    have h' : n < 9223372036854775808 := h
    omega
  · rename_i h
    have h' : ¬ n < 9223372036854775808 := h
    show _ = (n : Int) - 18446744073709551616 ∧ _
    omega
theorem results_row1 {P : Program} {fn : Func} {p : Tmp} {ty : TypeId} (h : fn.results = #[.cell p ty]) (tmps : Array Value) (w : World) (g : Nat) (t : TypeId) (cs : Array Value) (fr : Nat × Nat) (d : TypeDesc)
    (hp : tmps.getD p undef = .pointer (some ⟨g, 0, none⟩)) (hg : w.heap[g]? = some (.cells cs t fr))
    (hu : P.underlying ty = some d) (hd : (match d with | .struct _ | .array _ _ => true | _ => false) = true) (hi : (P.info? ty).map (·.size) = some cs.size) :
    (results fn tmps).run P w = .ok (.agg cs) w := by
  have hp' : tmps[p]?.getD undef = .pointer (some ⟨g, 0, none⟩) := by simpa using hp
  simp [results, h, hp', asAddr, run_loadVar_row w g t ty cs fr d hg hu hd hi]
theorem value_end {fn : Func} (h : fn.results = #[.cell 2 57]) {R : Ending → World → Prop} {a : Act} {w : World} {g : Nat} {t : TypeId} {c0 c1 c2 c3 : Value} {fr : Nat × Nat}
    (hp : a.tmps.getD 2 undef = .pointer (some ⟨g, 0, none⟩)) (hg : w.heap[g]? = some (.cells #[c0, c1, c2, c3] t fr)) (hd : a.defers = [])
    (hR : R (.returned (.agg #[c0, c1, c2, c3])) w) : bodyPost Tryd.prog fn R .ret a w :=
  bodyPost_ret (results_row1 h _ _ _ _ _ _ _ hp hg Tryd.underlying57 rfl (by kernel_rfl)) hd hR

theorem str_bne {a : ByteArray} {l : List UInt8} (h : ¬ a = ⟨l.toArray⟩) : (a.toList == l) = false := by
  refine beq_eq_false_iff_ne.2 fun e => h ?_
  rw [ByteArray.toList_eq] at e
  exact ByteArray.ext (Array.toList_inj.1 (by simpa using e))

/-- The world behind the stores of a value's four cells. -/
abbrev set4w (w : World) (g : Nat) (a b c d : Value) : World := (((w.setCell ⟨g, 0, none⟩ a).setCell ⟨g, 1, none⟩ b).setCell ⟨g, 2, none⟩ c).setCell ⟨g, 3, none⟩ d
theorem cells4_at {w : World} {g : Nat} {t : TypeId} {c0 c1 c2 c3 : Value} {fr : Nat × Nat} (h : w.heap[g]? = some (.cells #[c0, c1, c2, c3] t fr)) (a b c d : Value) : (set4w w g a b c d).heap[g]? = some (.cells #[a, b, c, d] t fr) := by
  simp [World.setCell, Array.getElem?_modify, h]
theorem grown_new {w wk : World} {g : Option Nat} (h : w.grownBy wk g) {n : Nat} (hn : w.heap.size ≤ n) (j : Nat) (u : Value) : w.grownBy (wk.setCell ⟨n, j, none⟩ u) g :=
  ⟨h.os, h.tape, h.output, by simp [World.setCell]; exact h.size, fun k hk hne => (Below.heap_setCell wk ⟨n, j, none⟩ u k (fun e => by have e' : k = n := e; omega)).trans (h.block k hk hne)⟩
theorem grown4 {w w0 wk : World} {g : Nat} (b : Below w.heap.size w w0) (h : w0.grownBy wk (some g)) (x y z u : Value) : w.grownBy (set4w wk w.heap.size x y z u) (some g) :=
  grown_new (grown_new (grown_new (grown_new ((grownBy_below b _).trans h) (Nat.le_refl _) 0 x) (Nat.le_refl _) 1 y) (Nat.le_refl _) 2 z) (Nat.le_refl _) 3 u
theorem rd_other {w : World} {g n : Nat} {s : ByteArray} (h : RD w g s) (hn : g ≠ n) (j : Nat) (u : Value) : RD (w.setCell ⟨n, j, none⟩ u) g s :=
  (Below.heap_setCell w ⟨n, j, none⟩ u g hn).trans h
theorem rd4 {w : World} {g n : Nat} {s : ByteArray} (hn : g < n) (h : RD w g s) (x y z u : Value) : RD (set4w w n x y z u) g s :=
  rd_other (rd_other (rd_other (rd_other h (by omega) 0 x) (by omega) 1 y) (by omega) 2 z) (by omega) 3 u
set_option maxRecDepth 1000000 in
set_option maxHeartbeats 8000000 in
theorem rdValue_c {w : World} {g : Nat} {s : ByteArray} (h : RD w g s) (hs : s.size ≤ 140737488355328) :
    Calls Tryd.prog 56 #[.pointer (some ⟨g, 0, none⟩)] w (PR w g Vl.val (valP s)) := by
  have bA : Below w.heap.size w (w.alloc (.cells #[.int .i64 0, .int .i64 0, .string ByteArray.empty, .float .f64 0] 57)) := (Below.refl _ _).alloc (Nat.le_refl _) _
  have hT := rdTake_c (rd_below h bA) 1 1 rfl
  have q32 := from32_run
  have q64 := from64_run
  have qs := store_float (P := Tryd.prog)
  cases ho : takeP 1 s with
  | none =>
    have HT := Lib.hid (pr_no hT ho)
    have HV := Lib.hid (show valP s = none by unfold valP; rw [ho]; rfl)
    have BA := Lib.hid bA
    clear ho hT h bA
    go_enter Tryd.func56, Tryd.ntmps56
    go_wp2_with fail
    refine (HT.out).mono ?_
    rintro e w1 ⟨rfl, g1⟩
    go_wp2_with fail
    exact ⟨rfl, pr_none HV.out ((grownBy_below BA.out _).trans g1) rfl⟩
  | some p =>
    obtain ⟨x, r⟩ := p
    have HT := Lib.hid (pr_yes hT ho)
    have hr : r.size ≤ 140737488355328 := by have := (takeP_size ho).2; omega
    have hV : valP s = valQ x r := by unfold valP; rw [ho]; rfl
    have BA := Lib.hid bA
    have HG := Lib.hid (rd_lt h)
    clear ho hT h bA
    have hnew : ∀ w1 : World, (w.alloc (.cells #[.int .i64 0, .int .i64 0, .string ByteArray.empty, .float .f64 0] 57)).grownBy w1 (some g) → w1.heap[w.heap.size]? = some (.cells #[.int .i64 0, .int .i64 0, .string ByteArray.empty, .float .f64 0] 57 (0, 0)) := fun w1 h1 => by
      rw [h1.block w.heap.size (by simp) (fun e => by injection e with e; have := HG.out; omega)]
      exact heap_alloc_new w _
    have HNW := Lib.hid hnew
    clear hnew
    unfold valQ at hV
    by_cases c0 : x = ⟨#[116]⟩
    · rw [if_pos c0] at hV
      subst c0
      have HV := Lib.hid hV
      clear hV
      go_enter Tryd.func56, Tryd.ntmps56
      go_wp2_with fail
      refine (HT.out).mono ?_
      rintro e w1 ⟨rfl, r1, g1⟩
      have hN := rdNumber_c r1 1 (by omega) 1 rfl
      have G1 := Lib.hid g1
      clear r1 g1
      cases ho : numP 1 r with
      | none =>
        have HN := Lib.hid (pr_no hN ho)
        have HO := Lib.hid ho
        clear hN ho
        go_wp2_with fail
        refine (HN.out).mono ?_
        rintro e w2 ⟨rfl, g2⟩
        go_wp2_with fail
        exact ⟨rfl, pr_none (HV.out.trans (by rw [HO.out]; rfl)) ((grownBy_below BA.out _).trans (G1.out.trans g2)) rfl⟩
      | some q =>
        obtain ⟨n, r'⟩ := q
        have HN := Lib.hid (pr_yes hN ho)
        have hn := numP_lt ho
        have hnI : (n : Int) < 256 := by omega
        have HO := Lib.hid ho
        clear hN ho hn
        go_wp2_with fail
        refine (HN.out).mono ?_
        rintro e w2 ⟨rfl, r2, g2⟩
        have hb := HNW.out _ (G1.out.trans g2)
        have R2 := Lib.hid r2
        have G2 := Lib.hid g2
        have HB := Lib.hid hb
        clear r2 g2 hb
        have q0 : w2.cell? ⟨w.heap.size, 0, none⟩ = some (.int .i64 0) := by simp [World.cell?, HB.out]
        have q1 : w2.cell? ⟨w.heap.size, 1, none⟩ = some (.int .i64 0) := by simp [World.cell?, HB.out]
        have q2 : w2.cell? ⟨w.heap.size, 2, none⟩ = some (.string ByteArray.empty) := by simp [World.cell?, HB.out]
        have q3 : w2.cell? ⟨w.heap.size, 3, none⟩ = some (.float .f64 0) := by simp [World.cell?, HB.out]
        have f0 : w2.frozen? ⟨w.heap.size, 0, none⟩ = false := by simp [World.frozen?, HB.out]
        have f1 : w2.frozen? ⟨w.heap.size, 1, none⟩ = false := by simp [World.frozen?, HB.out]
        have f2 : w2.frozen? ⟨w.heap.size, 2, none⟩ = false := by simp [World.frozen?, HB.out]
        have f3 : w2.frozen? ⟨w.heap.size, 3, none⟩ = false := by simp [World.frozen?, HB.out]
        go_wp2_with fail
        refine value_end rfl rfl (cells4_at HB.out _ _ _ _) rfl ?_
        exact pr_some (HV.out.trans (by rw [HO.out]; rfl)) (grown4 BA.out (G1.out.trans G2.out) _ _ _ _) rfl (rd4 HG.out R2.out _ _ _ _)
    rw [if_neg c0] at hV
    have b0 : (x.toList == [116]) = false := str_bne (l := [116]) c0
    by_cases c1 : x = ⟨#[98]⟩
    · rw [if_pos c1] at hV
      subst c1
      have HV := Lib.hid hV
      clear hV b0
      go_enter Tryd.func56, Tryd.ntmps56
      go_wp2_with fail
      refine (HT.out).mono ?_
      rintro e w1 ⟨rfl, r1, g1⟩
      have hN := rdNumber_c r1 1 (by omega) 1 rfl
      have G1 := Lib.hid g1
      clear r1 g1
      cases ho : numP 1 r with
      | none =>
        have HN := Lib.hid (pr_no hN ho)
        have HO := Lib.hid ho
        clear hN ho
        go_wp2_with fail
        refine (HN.out).mono ?_
        rintro e w2 ⟨rfl, g2⟩
        go_wp2_with fail
        exact ⟨rfl, pr_none (HV.out.trans (by rw [HO.out]; rfl)) ((grownBy_below BA.out _).trans (G1.out.trans g2)) rfl⟩
      | some q =>
        obtain ⟨n, r'⟩ := q
        have HN := Lib.hid (pr_yes hN ho)
        have hn := numP_lt ho
        obtain ⟨z, hz, hz1, hz2⟩ := sg8 n hn
        have hnI : (n : Int) < 256 := by omega
        have HZ := Lib.hid hz1
        have hz3 : -9223372036854775808 ≤ z := hz2.1
        have hz4 : z ≤ 9223372036854775807 := hz2.2
        have hz5 : IntKind.i64.wrap z = z := IntWalk.i64_in _ (by omega)
        clear hz1 hz2
        have HO := Lib.hid ho
        clear hN ho hn
        go_wp2_with fail
        refine (HN.out).mono ?_
        rintro e w2 ⟨rfl, r2, g2⟩
        have hb := HNW.out _ (G1.out.trans g2)
        have R2 := Lib.hid r2
        have G2 := Lib.hid g2
        have HB := Lib.hid hb
        clear r2 g2 hb
        have q0 : w2.cell? ⟨w.heap.size, 0, none⟩ = some (.int .i64 0) := by simp [World.cell?, HB.out]
        have q1 : w2.cell? ⟨w.heap.size, 1, none⟩ = some (.int .i64 0) := by simp [World.cell?, HB.out]
        have q2 : w2.cell? ⟨w.heap.size, 2, none⟩ = some (.string ByteArray.empty) := by simp [World.cell?, HB.out]
        have q3 : w2.cell? ⟨w.heap.size, 3, none⟩ = some (.float .f64 0) := by simp [World.cell?, HB.out]
        have f0 : w2.frozen? ⟨w.heap.size, 0, none⟩ = false := by simp [World.frozen?, HB.out]
        have f1 : w2.frozen? ⟨w.heap.size, 1, none⟩ = false := by simp [World.frozen?, HB.out]
        have f2 : w2.frozen? ⟨w.heap.size, 2, none⟩ = false := by simp [World.frozen?, HB.out]
        have f3 : w2.frozen? ⟨w.heap.size, 3, none⟩ = false := by simp [World.frozen?, HB.out]
        go_wp2_with fail
        refine value_end rfl rfl (cells4_at HB.out _ _ _ _) rfl ?_
        exact pr_some (HV.out.trans (by rw [HO.out]; rfl)) (grown4 BA.out (G1.out.trans G2.out) _ _ _ _) (by rw [HZ.out]; rfl) (rd4 HG.out R2.out _ _ _ _)
    rw [if_neg c1] at hV
    have b1 : (x.toList == [98]) = false := str_bne (l := [98]) c1
    by_cases c2 : x = ⟨#[115]⟩
    · rw [if_pos c2] at hV
      subst c2
      have HV := Lib.hid hV
      clear hV b0 b1
      go_enter Tryd.func56, Tryd.ntmps56
      go_wp2_with fail
      refine (HT.out).mono ?_
      rintro e w1 ⟨rfl, r1, g1⟩
      have hN := rdNumber_c r1 2 (by omega) 2 rfl
      have G1 := Lib.hid g1
      clear r1 g1
      cases ho : numP 2 r with
      | none =>
        have HN := Lib.hid (pr_no hN ho)
        have HO := Lib.hid ho
        clear hN ho
        go_wp2_with fail
        refine (HN.out).mono ?_
        rintro e w2 ⟨rfl, g2⟩
        go_wp2_with fail
        exact ⟨rfl, pr_none (HV.out.trans (by rw [HO.out]; rfl)) ((grownBy_below BA.out _).trans (G1.out.trans g2)) rfl⟩
      | some q =>
        obtain ⟨n, r'⟩ := q
        have HN := Lib.hid (pr_yes hN ho)
        have hn := numP_lt ho
        obtain ⟨z, hz, hz1, hz2⟩ := sg16 n hn
        have hnI : (n : Int) < 65536 := by omega
        have HZ := Lib.hid hz1
        have hz3 : -9223372036854775808 ≤ z := hz2.1
        have hz4 : z ≤ 9223372036854775807 := hz2.2
        have hz5 : IntKind.i64.wrap z = z := IntWalk.i64_in _ (by omega)
        clear hz1 hz2
        have HO := Lib.hid ho
        clear hN ho hn
        go_wp2_with fail
        refine (HN.out).mono ?_
        rintro e w2 ⟨rfl, r2, g2⟩
        have hb := HNW.out _ (G1.out.trans g2)
        have R2 := Lib.hid r2
        have G2 := Lib.hid g2
        have HB := Lib.hid hb
        clear r2 g2 hb
        have q0 : w2.cell? ⟨w.heap.size, 0, none⟩ = some (.int .i64 0) := by simp [World.cell?, HB.out]
        have q1 : w2.cell? ⟨w.heap.size, 1, none⟩ = some (.int .i64 0) := by simp [World.cell?, HB.out]
        have q2 : w2.cell? ⟨w.heap.size, 2, none⟩ = some (.string ByteArray.empty) := by simp [World.cell?, HB.out]
        have q3 : w2.cell? ⟨w.heap.size, 3, none⟩ = some (.float .f64 0) := by simp [World.cell?, HB.out]
        have f0 : w2.frozen? ⟨w.heap.size, 0, none⟩ = false := by simp [World.frozen?, HB.out]
        have f1 : w2.frozen? ⟨w.heap.size, 1, none⟩ = false := by simp [World.frozen?, HB.out]
        have f2 : w2.frozen? ⟨w.heap.size, 2, none⟩ = false := by simp [World.frozen?, HB.out]
        have f3 : w2.frozen? ⟨w.heap.size, 3, none⟩ = false := by simp [World.frozen?, HB.out]
        go_wp2_with fail
        refine value_end rfl rfl (cells4_at HB.out _ _ _ _) rfl ?_
        exact pr_some (HV.out.trans (by rw [HO.out]; rfl)) (grown4 BA.out (G1.out.trans G2.out) _ _ _ _) (by rw [HZ.out]; rfl) (rd4 HG.out R2.out _ _ _ _)
    rw [if_neg c2] at hV
    have b2 : (x.toList == [115]) = false := str_bne (l := [115]) c2
    by_cases c3 : x = ⟨#[73]⟩
    · rw [if_pos c3] at hV
      subst c3
      have HV := Lib.hid hV
      clear hV b0 b1 b2
      go_enter Tryd.func56, Tryd.ntmps56
      go_wp2_with fail
      refine (HT.out).mono ?_
      rintro e w1 ⟨rfl, r1, g1⟩
      have hN := rdNumber_c r1 4 (by omega) 4 rfl
      have G1 := Lib.hid g1
      clear r1 g1
      cases ho : numP 4 r with
      | none =>
        have HN := Lib.hid (pr_no hN ho)
        have HO := Lib.hid ho
        clear hN ho
        go_wp2_with fail
        refine (HN.out).mono ?_
        rintro e w2 ⟨rfl, g2⟩
        go_wp2_with fail
        exact ⟨rfl, pr_none (HV.out.trans (by rw [HO.out]; rfl)) ((grownBy_below BA.out _).trans (G1.out.trans g2)) rfl⟩
      | some q =>
        obtain ⟨n, r'⟩ := q
        have HN := Lib.hid (pr_yes hN ho)
        have hn := numP_lt ho
        obtain ⟨z, hz, hz1, hz2⟩ := sg32 n hn
        have hnI : (n : Int) < 4294967296 := by omega
        have HZ := Lib.hid hz1
        have hz3 : -9223372036854775808 ≤ z := hz2.1
        have hz4 : z ≤ 9223372036854775807 := hz2.2
        have hz5 : IntKind.i64.wrap z = z := IntWalk.i64_in _ (by omega)
        clear hz1 hz2
        have HO := Lib.hid ho
        clear hN ho hn
        go_wp2_with fail
        refine (HN.out).mono ?_
        rintro e w2 ⟨rfl, r2, g2⟩
        have hb := HNW.out _ (G1.out.trans g2)
        have R2 := Lib.hid r2
        have G2 := Lib.hid g2
        have HB := Lib.hid hb
        clear r2 g2 hb
        have q0 : w2.cell? ⟨w.heap.size, 0, none⟩ = some (.int .i64 0) := by simp [World.cell?, HB.out]
        have q1 : w2.cell? ⟨w.heap.size, 1, none⟩ = some (.int .i64 0) := by simp [World.cell?, HB.out]
        have q2 : w2.cell? ⟨w.heap.size, 2, none⟩ = some (.string ByteArray.empty) := by simp [World.cell?, HB.out]
        have q3 : w2.cell? ⟨w.heap.size, 3, none⟩ = some (.float .f64 0) := by simp [World.cell?, HB.out]
        have f0 : w2.frozen? ⟨w.heap.size, 0, none⟩ = false := by simp [World.frozen?, HB.out]
        have f1 : w2.frozen? ⟨w.heap.size, 1, none⟩ = false := by simp [World.frozen?, HB.out]
        have f2 : w2.frozen? ⟨w.heap.size, 2, none⟩ = false := by simp [World.frozen?, HB.out]
        have f3 : w2.frozen? ⟨w.heap.size, 3, none⟩ = false := by simp [World.frozen?, HB.out]
        go_wp2_with fail
        refine value_end rfl rfl (cells4_at HB.out _ _ _ _) rfl ?_
        exact pr_some (HV.out.trans (by rw [HO.out]; rfl)) (grown4 BA.out (G1.out.trans G2.out) _ _ _ _) (by rw [HZ.out]; rfl) (rd4 HG.out R2.out _ _ _ _)
    rw [if_neg c3] at hV
    have b3 : (x.toList == [73]) = false := str_bne (l := [73]) c3
    by_cases c4 : x = ⟨#[108]⟩
    · rw [if_pos c4] at hV
      subst c4
      have HV := Lib.hid hV
      clear hV b0 b1 b2 b3
      go_enter Tryd.func56, Tryd.ntmps56
      go_wp2_with fail
      refine (HT.out).mono ?_
      rintro e w1 ⟨rfl, r1, g1⟩
      have hN := rdNumber_c r1 8 (by omega) 8 rfl
      have G1 := Lib.hid g1
      clear r1 g1
      cases ho : numP 8 r with
      | none =>
        have HN := Lib.hid (pr_no hN ho)
        have HO := Lib.hid ho
        clear hN ho
        go_wp2_with fail
        refine (HN.out).mono ?_
        rintro e w2 ⟨rfl, g2⟩
        go_wp2_with fail
        exact ⟨rfl, pr_none (HV.out.trans (by rw [HO.out]; rfl)) ((grownBy_below BA.out _).trans (G1.out.trans g2)) rfl⟩
      | some q =>
        obtain ⟨n, r'⟩ := q
        have HN := Lib.hid (pr_yes hN ho)
        have hn := numP_lt ho
        obtain ⟨z, hz, hz1, hz2⟩ := sg64 n hn
        have HZ := Lib.hid hz1
        have hz3 : -9223372036854775808 ≤ z := hz2.1
        have hz4 : z ≤ 9223372036854775807 := hz2.2
        have hz5 : IntKind.i64.wrap z = z := IntWalk.i64_in _ (by omega)
        clear hz1 hz2
        have HO := Lib.hid ho
        clear hN ho hn
        go_wp2_with fail
        refine (HN.out).mono ?_
        rintro e w2 ⟨rfl, r2, g2⟩
        have hb := HNW.out _ (G1.out.trans g2)
        have R2 := Lib.hid r2
        have G2 := Lib.hid g2
        have HB := Lib.hid hb
        clear r2 g2 hb
        have q0 : w2.cell? ⟨w.heap.size, 0, none⟩ = some (.int .i64 0) := by simp [World.cell?, HB.out]
        have q1 : w2.cell? ⟨w.heap.size, 1, none⟩ = some (.int .i64 0) := by simp [World.cell?, HB.out]
        have q2 : w2.cell? ⟨w.heap.size, 2, none⟩ = some (.string ByteArray.empty) := by simp [World.cell?, HB.out]
        have q3 : w2.cell? ⟨w.heap.size, 3, none⟩ = some (.float .f64 0) := by simp [World.cell?, HB.out]
        have f0 : w2.frozen? ⟨w.heap.size, 0, none⟩ = false := by simp [World.frozen?, HB.out]
        have f1 : w2.frozen? ⟨w.heap.size, 1, none⟩ = false := by simp [World.frozen?, HB.out]
        have f2 : w2.frozen? ⟨w.heap.size, 2, none⟩ = false := by simp [World.frozen?, HB.out]
        have f3 : w2.frozen? ⟨w.heap.size, 3, none⟩ = false := by simp [World.frozen?, HB.out]
        go_wp2_with fail
        refine value_end rfl rfl (cells4_at HB.out _ _ _ _) rfl ?_
        exact pr_some (HV.out.trans (by rw [HO.out]; rfl)) (grown4 BA.out (G1.out.trans G2.out) _ _ _ _) (by rw [HZ.out]; rfl) (rd4 HG.out R2.out _ _ _ _)
    rw [if_neg c4] at hV
    have b4 : (x.toList == [108]) = false := str_bne (l := [108]) c4
    by_cases c5 : x = ⟨#[102]⟩
    · rw [if_pos c5] at hV
      subst c5
      have HV := Lib.hid hV
      clear hV b0 b1 b2 b3 b4
      go_enter Tryd.func56, Tryd.ntmps56
      go_wp2_with fail
      refine (HT.out).mono ?_
      rintro e w1 ⟨rfl, r1, g1⟩
      have hN := rdNumber_c r1 4 (by omega) 4 rfl
      have G1 := Lib.hid g1
      clear r1 g1
      cases ho : numP 4 r with
      | none =>
        have HN := Lib.hid (pr_no hN ho)
        have HO := Lib.hid ho
        clear hN ho
        go_wp2_with fail
        refine (HN.out).mono ?_
        rintro e w2 ⟨rfl, g2⟩
        go_wp2_with fail
        exact ⟨rfl, pr_none (HV.out.trans (by rw [HO.out]; rfl)) ((grownBy_below BA.out _).trans (G1.out.trans g2)) rfl⟩
      | some q =>
        obtain ⟨n, r'⟩ := q
        have HN := Lib.hid (pr_yes hN ho)
        have hn := numP_lt ho
        have hnI : (n : Int) < 4294967296 := by omega
        have HO := Lib.hid ho
        clear hN ho hn
        go_wp2_with fail
        refine (HN.out).mono ?_
        rintro e w2 ⟨rfl, r2, g2⟩
        have hb := HNW.out _ (G1.out.trans g2)
        have R2 := Lib.hid r2
        have G2 := Lib.hid g2
        have HB := Lib.hid hb
        clear r2 g2 hb
        go_wp2_with fail
        refine (widen_c n _ (by first | rfl | exact IntWalk.u32_in _ (by omega))).mono ?_
        rintro e w3 ⟨rfl, b3⟩
        have R3 := Lib.hid (rd_below R2.out b3)
        have G3 := Lib.hid (G2.out.trans (grownBy_below b3 _))
        have hb3 := HNW.out _ (G1.out.trans G3.out)
        have HB3 := Lib.hid hb3
        clear b3 hb3
        have q0 : w3.cell? ⟨w.heap.size, 0, none⟩ = some (.int .i64 0) := by simp [World.cell?, HB3.out]
        have q1 : w3.cell? ⟨w.heap.size, 1, none⟩ = some (.int .i64 0) := by simp [World.cell?, HB3.out]
        have q2 : w3.cell? ⟨w.heap.size, 2, none⟩ = some (.string ByteArray.empty) := by simp [World.cell?, HB3.out]
        have q3 : w3.cell? ⟨w.heap.size, 3, none⟩ = some (.float .f64 0) := by simp [World.cell?, HB3.out]
        have f0 : w3.frozen? ⟨w.heap.size, 0, none⟩ = false := by simp [World.frozen?, HB3.out]
        have f1 : w3.frozen? ⟨w.heap.size, 1, none⟩ = false := by simp [World.frozen?, HB3.out]
        have f2 : w3.frozen? ⟨w.heap.size, 2, none⟩ = false := by simp [World.frozen?, HB3.out]
        have f3 : w3.frozen? ⟨w.heap.size, 3, none⟩ = false := by simp [World.frozen?, HB3.out]
        go_wp2_with fail
        refine value_end rfl rfl (cells4_at HB3.out _ _ _ _) rfl ?_
        exact pr_some (HV.out.trans (by rw [HO.out]; rfl)) (grown4 BA.out (G1.out.trans G3.out) _ _ _ _) rfl (rd4 HG.out R3.out _ _ _ _)
    rw [if_neg c5] at hV
    have b5 : (x.toList == [102]) = false := str_bne (l := [102]) c5
    by_cases c6 : x = ⟨#[100]⟩
    · rw [if_pos c6] at hV
      subst c6
      have HV := Lib.hid hV
      clear hV b0 b1 b2 b3 b4 b5
      go_enter Tryd.func56, Tryd.ntmps56
      go_wp2_with fail
      refine (HT.out).mono ?_
      rintro e w1 ⟨rfl, r1, g1⟩
      have hN := rdNumber_c r1 8 (by omega) 8 rfl
      have G1 := Lib.hid g1
      clear r1 g1
      cases ho : numP 8 r with
      | none =>
        have HN := Lib.hid (pr_no hN ho)
        have HO := Lib.hid ho
        clear hN ho
        go_wp2_with fail
        refine (HN.out).mono ?_
        rintro e w2 ⟨rfl, g2⟩
        go_wp2_with fail
        exact ⟨rfl, pr_none (HV.out.trans (by rw [HO.out]; rfl)) ((grownBy_below BA.out _).trans (G1.out.trans g2)) rfl⟩
      | some q =>
        obtain ⟨n, r'⟩ := q
        have HN := Lib.hid (pr_yes hN ho)
        have hn := numP_lt ho
        have HO := Lib.hid ho
        clear hN ho hn
        go_wp2_with fail
        refine (HN.out).mono ?_
        rintro e w2 ⟨rfl, r2, g2⟩
        have hb := HNW.out _ (G1.out.trans g2)
        have R2 := Lib.hid r2
        have G2 := Lib.hid g2
        have HB := Lib.hid hb
        clear r2 g2 hb
        go_wp2_with fail
        refine (canon_c n).mono ?_
        rintro e w3 ⟨rfl, rfl⟩
        have q0 : w2.cell? ⟨w.heap.size, 0, none⟩ = some (.int .i64 0) := by simp [World.cell?, HB.out]
        have q1 : w2.cell? ⟨w.heap.size, 1, none⟩ = some (.int .i64 0) := by simp [World.cell?, HB.out]
        have q2 : w2.cell? ⟨w.heap.size, 2, none⟩ = some (.string ByteArray.empty) := by simp [World.cell?, HB.out]
        have q3 : w2.cell? ⟨w.heap.size, 3, none⟩ = some (.float .f64 0) := by simp [World.cell?, HB.out]
        have f0 : w2.frozen? ⟨w.heap.size, 0, none⟩ = false := by simp [World.frozen?, HB.out]
        have f1 : w2.frozen? ⟨w.heap.size, 1, none⟩ = false := by simp [World.frozen?, HB.out]
        have f2 : w2.frozen? ⟨w.heap.size, 2, none⟩ = false := by simp [World.frozen?, HB.out]
        have f3 : w2.frozen? ⟨w.heap.size, 3, none⟩ = false := by simp [World.frozen?, HB.out]
        go_wp2_with fail
        refine value_end rfl rfl (cells4_at HB.out _ _ _ _) rfl ?_
        exact pr_some (HV.out.trans (by rw [HO.out]; rfl)) (grown4 BA.out (G1.out.trans G2.out) _ _ _ _) rfl (rd4 HG.out R2.out _ _ _ _)
    rw [if_neg c6] at hV
    have b6 : (x.toList == [100]) = false := str_bne (l := [100]) c6
    by_cases c7 : x = ⟨#[83]⟩
    · rw [if_pos c7] at hV
      subst c7
      have HV := Lib.hid hV
      clear hV b0 b1 b2 b3 b4 b5 b6
      go_enter Tryd.func56, Tryd.ntmps56
      go_wp2_with fail
      refine (HT.out).mono ?_
      rintro e w1 ⟨rfl, r1, g1⟩
      have hN := rdLong_c r1 hr
      have G1 := Lib.hid g1
      clear r1 g1
      cases ho : longP r with
      | none =>
        have HN := Lib.hid (pr_no hN ho)
        have HO := Lib.hid ho
        clear hN ho
        go_wp2_with fail
        refine (HN.out).mono ?_
        rintro e w2 ⟨rfl, g2⟩
        go_wp2_with fail
        exact ⟨rfl, pr_none (HV.out.trans (by rw [HO.out]; rfl)) ((grownBy_below BA.out _).trans (G1.out.trans g2)) rfl⟩
      | some q =>
        obtain ⟨n, r'⟩ := q
        have HN := Lib.hid (pr_yes hN ho)
        have HO := Lib.hid ho
        clear hN ho
        go_wp2_with fail
        refine (HN.out).mono ?_
        rintro e w2 ⟨rfl, r2, g2⟩
        have hb := HNW.out _ (G1.out.trans g2)
        have R2 := Lib.hid r2
        have G2 := Lib.hid g2
        have HB := Lib.hid hb
        clear r2 g2 hb
        have q0 : w2.cell? ⟨w.heap.size, 0, none⟩ = some (.int .i64 0) := by simp [World.cell?, HB.out]
        have q1 : w2.cell? ⟨w.heap.size, 1, none⟩ = some (.int .i64 0) := by simp [World.cell?, HB.out]
        have q2 : w2.cell? ⟨w.heap.size, 2, none⟩ = some (.string ByteArray.empty) := by simp [World.cell?, HB.out]
        have q3 : w2.cell? ⟨w.heap.size, 3, none⟩ = some (.float .f64 0) := by simp [World.cell?, HB.out]
        have f0 : w2.frozen? ⟨w.heap.size, 0, none⟩ = false := by simp [World.frozen?, HB.out]
        have f1 : w2.frozen? ⟨w.heap.size, 1, none⟩ = false := by simp [World.frozen?, HB.out]
        have f2 : w2.frozen? ⟨w.heap.size, 2, none⟩ = false := by simp [World.frozen?, HB.out]
        have f3 : w2.frozen? ⟨w.heap.size, 3, none⟩ = false := by simp [World.frozen?, HB.out]
        go_wp2_with fail
        refine value_end rfl rfl (cells4_at HB.out _ _ _ _) rfl ?_
        exact pr_some (HV.out.trans (by rw [HO.out]; rfl)) (grown4 BA.out (G1.out.trans G2.out) _ _ _ _) rfl (rd4 HG.out R2.out _ _ _ _)
    rw [if_neg c7] at hV
    have b7 : (x.toList == [83]) = false := str_bne (l := [83]) c7
    have HV := Lib.hid hV
    clear hV c0 c1 c2 c3 c4 c5 c6 c7
    go_enter Tryd.func56, Tryd.ntmps56
    go_wp2_with fail
    refine (HT.out).mono ?_
    rintro e w1 ⟨rfl, r1, g1⟩
    go_wp2_with fail
    exact ⟨rfl, pr_none HV.out ((grownBy_below BA.out _).trans g1) rfl⟩
end Go.Proofs.YtbniandbmabdbaaDoor

/- Stable sorting of properties by their names: the comparison; exchanges of ranges. -/
namespace Go.Proofs.YtbniandbmabdbaaDoor
open Go Go.Proofs Go.RowKit Go.Lib Go.Sort Go.Shelf
set_option linter.unusedSimpArgs false
set_option linter.unusedVariables false

instance : Inhabited Prp := ⟨⟨ByteArray.empty, 0, 0, ByteArray.empty, 0⟩⟩
def cfP (x y : Prp) : Int := Lib.compareBytes x.nm.data.toList y.nm.data.toList

set_option maxRecDepth 100000 in
theorem cmpP_c {w : World} (x y : Prp) : Calls Tryd.prog 58 #[.agg #[.string x.nm, .int .i64 x.k, .int .i64 x.n, .string x.t, .float .f64 x.r], .agg #[.string y.nm, .int .i64 y.k, .int .i64 y.n, .string y.t, .float .f64 y.r]] w fun e w' => e = .returned (.int .i64 (cfP x y)) ∧ ∃ q os', w' = grow (w.drewN q) os' := by
  go_enter Tryd.func58, Tryd.ntmps58
  go_wp2_with fail
  refine (Tryd.strings_Compare x.nm y.nm _).mono ?_
  rintro e w' ⟨rfl, rfl⟩
  go_wp2_with fail
  go_ret
  refine ⟨rfl, 0, #[.cells #[.string x.nm, .int .i64 x.k, .int .i64 x.n, .string x.t, .float .f64 x.r] 59] ++ #[.cells #[.string y.nm, .int .i64 y.k, .int .i64 y.n, .string y.t, .float .f64 y.r] 59], ?_⟩
  rw [alloc_eq_grow, alloc_eq_grow, grow_grow]
  rfl
theorem cmpLays (k blk off size : Nat) (w : World) : CmpLays Tryd.prog 58 #[] Prp.cells k cfP blk off size w := fun m os dk _ x y => cmpP_c x y

/-- Some permutation of what the row held. -/
def SWP (k : Nat) (w0 : World) (blk off : Nat) (d : Array Prp) (W : World) : Prop := ∃ dk : Array Prp, dk.size = d.size ∧ PermIn 0 d.size d dk ∧ SWK Prp.cells k w0 blk off dk W
theorem SWP.refl {k : Nat} {w0 W : World} {blk off : Nat} {d : Array Prp} (h : SWK Prp.cells k w0 blk off d W) : SWP k w0 blk off d W := ⟨d, rfl, permIn_refl _ _ _, h⟩
theorem SWP.of {k : Nat} {w0 W : World} {blk off : Nat} {d d' : Array Prp} (hp : PermIn 0 d.size d d') (h : SWP k w0 blk off d' W) : SWP k w0 blk off d W := by
  obtain ⟨dk, h1, h2, h3⟩ := h
  have hs : d'.size = d.size := hp.1
  exact ⟨dk, by omega, permIn_trans d d' dk 0 d.size hp (by rw [← hs]; exact h2), h3⟩

set_option maxHeartbeats 4000000 in
set_option maxRecDepth 1000000 in
theorem swapRange_c {k : Nat} (aE : ∀ w, (isAgg 59).run Tryd.prog w = .ok true w) (zE : ∀ w, (Go.sizeOf 59).run Tryd.prog w = .ok k w) {w0 w : World} {blk off cap a b n : Nat} {d0 d : Array Prp} {fv : Value} (R : RowK Prp.cells k w0 blk off d0) (hs : d0.size = d.size) (S : SWK Prp.cells k w0 blk off d w) (ha : a + n ≤ d.size) (hb : b + n ≤ d.size) (hsz : d.size < 4611686018427387904) :
    Calls Tryd.prog 93 #[.slice (some ⟨blk, off, none⟩) d.size cap, .int .i64 a, .int .i64 b, .int .i64 n, fv] w fun e w' => e = .returned (.tuple #[]) ∧ SWP k w0 blk off d w' := by
  have mixed : Tryd.prog.follows .mixedOrders = true := by kernel_rfl
  have S0 : Aside (SWK Prp.cells k w0 blk off d w) := S
  clear S
  go_enter Tryd.func93, Tryd.ntmps93
  go_wp2
  go_loopg [10] n (fun kx s10 wr => ∃ (i : Nat) (dk : Array Prp), s10 = .int .i64 i ∧ i ≤ n ∧ n - i ≤ kx ∧ dk.size = d.size ∧ Aside (PermIn 0 d.size d dk) ∧ Aside (SWK Prp.cells k w0 blk off dk wr))
  case atStart => exact ⟨0, d, rfl, Nat.zero_le _, Nat.le_refl _, rfl, permIn_refl _ _ _, S0⟩
  case round =>
    clear S0
    obtain ⟨i, dk, rfl, hi, hkx, hds, HP, S1⟩ := hrel
    by_cases hlt : i < n
    · have hltz : (i : Int) < (n : Int) := by omega
      go_wp2_with fail
      have ea : ((a : Int) + (i : Int)).toNat = a + i := by omega
      have pa : (0 : Int) ≤ (a : Int) + (i : Int) := by omega
      have ba : (a : Int) + (i : Int) < (d.size : Int) := by omega
      have ra : IntKind.i64.wrap ((a : Int) + (i : Int)) = (a : Int) + (i : Int) := by rw [IntKind.wrap_i64]; omega
      have eb : ((b : Int) + (i : Int)).toNat = b + i := by omega
      have pb : (0 : Int) ≤ (b : Int) + (i : Int) := by omega
      have bb : (b : Int) + (i : Int) < (d.size : Int) := by omega
      have rb : IntKind.i64.wrap ((b : Int) + (i : Int)) = (b : Int) + (i : Int) := by rw [IntKind.wrap_i64]; omega
      have S2 : Aside (SWK Prp.cells k w0 blk off (swp dk (a + i) (b + i)) ((wr.drew.setCells blk (off + (a + i) * k) (Prp.cells dk[b + i]!)).setCells blk (off + (b + i) * k) (Prp.cells dk[a + i]!))) := S1.out.swapped R (a + i) (b + i) (by omega) (by omega)
      have l1 := S1.out.ld1 R (by omega) Tryd.prog (a + i) (by omega)
      have l2 := S1.out.ld1 R (by omega) Tryd.prog (b + i) (by omega)
      have s1 := S1.out.st1 R (by omega) Tryd.prog (a + i) (by omega) dk[b + i]!
      have s2 := S1.out.st2 R (by omega) Tryd.prog (a + i) (b + i) (by omega) (by omega) dk[b + i]! dk[a + i]!
      have n1 : (Prp.cells dk[a + i]!).length = k := R.hk _
      have n2 : (Prp.cells dk[b + i]!).length = k := R.hk _
      generalize Prp.cells dk[a + i]! = cI at S2 l1 s2 n1
      generalize Prp.cells dk[b + i]! = cJ at S2 l2 s1 s2 n2
      clear S1
      go_wp2_with fail
      go_big_region_o
      clear l1 l2 s1 s2
      generalize (wr.drew.setCells blk (off + (a + i) * k) cJ).setCells blk (off + (b + i) * k) cI = w2 at S2 ⊢
      go_wp2
      go_roundg (n - (i + 1))
      case measure => omega
      case rel => exact ⟨i + 1, swp dk (a + i) (b + i), by simp, by omega, Nat.le_refl _, by rw [size_swp]; exact hds, permIn_trans d dk _ 0 d.size HP.out (by rw [← hds]; exact swp_permIn dk 0 dk.size (a + i) (b + i) (Nat.zero_le _) (by omega) (Nat.zero_le _) (by omega) (Nat.le_refl _)), S2⟩
    · have hnot : ¬ (i : Int) < (n : Int) := by omega
      go_wp2
      go_end0
      exact ⟨rfl, dk, hds, HP.out, S1.out⟩
end Go.Proofs.YtbniandbmabdbaaDoor

/- Stable sorting of properties by their names: rotations; the merge. -/
namespace Go.Proofs.YtbniandbmabdbaaDoor
open Go Go.Proofs Go.RowKit Go.Lib Go.Sort Go.Shelf
set_option linter.unusedSimpArgs false
set_option linter.unusedVariables false

theorem swapRange_c2 {k : Nat} (aE : ∀ w, (isAgg 59).run Tryd.prog w = .ok true w) (zE : ∀ w, (Go.sizeOf 59).run Tryd.prog w = .ok k w) {w0 w : World} {blk off cap a b n : Nat} {d0 d dk : Array Prp} {fv : Value} {ai bi ni : Int} (hai : ai = a) (hbi : bi = b) (hni : ni = n) (R : RowK Prp.cells k w0 blk off d0) (hs : d0.size = d.size) (hd : dk.size = d.size) (HP : PermIn 0 d.size d dk) (S : SWK Prp.cells k w0 blk off dk w) (ha : a + n ≤ d.size) (hb : b + n ≤ d.size) (hsz : d.size < 4611686018427387904) :
    Calls Tryd.prog 93 #[.slice (some ⟨blk, off, none⟩) d.size cap, .int .i64 ai, .int .i64 bi, .int .i64 ni, fv] w fun e w' => e = .returned (.tuple #[]) ∧ SWP k w0 blk off d w' := by
  subst hai hbi hni
  have h := swapRange_c (cap := cap) (fv := fv) aE zE R (hs.trans hd.symm) S (by omega) (by omega) (by omega) (a := a) (b := b) (n := n)
  rw [hd] at h
  exact h.mono fun e w' ⟨h1, h2⟩ => ⟨h1, h2.of HP⟩

set_option maxHeartbeats 4000000 in
set_option maxRecDepth 1000000 in
theorem rotate_c {k : Nat} (aE : ∀ w, (isAgg 59).run Tryd.prog w = .ok true w) (zE : ∀ w, (Go.sizeOf 59).run Tryd.prog w = .ok k w) {w0 w : World} {blk off cap a m b : Nat} {d0 d : Array Prp} {fv : Value} {ai mi bi : Int} (hai : ai = a) (hmi : mi = m) (hbi : bi = b) (R : RowK Prp.cells k w0 blk off d0) (hs : d0.size = d.size) (S : SWP k w0 blk off d w) (ham : a < m) (hmb : m < b) (hb : b ≤ d.size) (hsz : d.size < 4611686018427387904) :
    Calls Tryd.prog 89 #[.slice (some ⟨blk, off, none⟩) d.size cap, .int .i64 ai, .int .i64 mi, .int .i64 bi, fv] w fun e w' => e = .returned (.tuple #[]) ∧ SWP k w0 blk off d w' := by
  subst hai hmi hbi
  have S0 : Aside (SWP k w0 blk off d w) := S
  have hmz : (m : Int) ≤ 4611686018427387904 := by omega
  have hbz : (b : Int) ≤ 4611686018427387904 := by omega
  have ham1 : (a : Int) < m := by omega
  have hmb1 : (m : Int) < b := by omega
  clear S
  go_enter Tryd.func89, Tryd.ntmps89
  go_wp2
  go_loopg [10, 11] (b - a) (fun kx s10 s11 wr => ∃ (i j : Nat), s10 = .int .i64 i ∧ s11 = .int .i64 j ∧ 1 ≤ i ∧ a + i ≤ m ∧ 1 ≤ j ∧ m + j ≤ b ∧ i + j ≤ kx ∧ Aside (SWP k w0 blk off d wr))
  case atStart => exact ⟨m - a, b - m, by congr 1; omega, by congr 1; omega, by omega, by omega, by omega, by omega, by omega, S0⟩
  case round =>
    clear S0
    obtain ⟨i, j, rfl, rfl, hi1, hi2, hj1, hj2, hkx, S1⟩ := hrel
    by_cases heq : i = j
    · subst heq
      go_wp2_with fail
      obtain ⟨dk, hd, HP, S2⟩ := S1.out
      refine (swapRange_c2 (a := m - i) (b := m) (n := i) aE zE (by omega) rfl rfl R hs hd HP S2 (by omega) (by omega) hsz).mono ?_
      rintro e w' ⟨rfl, S3⟩
      have S3' : Aside (SWP k w0 blk off d w') := S3
      clear S3 S2 HP hd
      go_wp2_with fail
      go_end0
      exact ⟨rfl, S3'.out⟩
    · have hne : ((i : Int) == (j : Int)) = false := beq_eq_false_iff_ne.2 (by omega)
      have hne2 : ((i : Int) != (j : Int)) = true := by simp; omega
      have hne3 : (i == j) = false := beq_eq_false_iff_ne.2 heq
      have hne4 : (i != j) = true := by simp; omega
      by_cases hlt : j < i
      · have hltz : (j : Int) < (i : Int) := by omega
        clear heq
        go_wp2_with fail
        obtain ⟨dk, hd, HP, S2⟩ := S1.out
        refine (swapRange_c2 (a := m - i) (b := m) (n := j) aE zE (by omega) rfl rfl R hs hd HP S2 (by omega) (by omega) hsz).mono ?_
        rintro e w' ⟨rfl, S3⟩
        have S3' : Aside (SWP k w0 blk off d w') := S3
        clear S3 S2 HP hd
        go_wp2_with fail
        go_roundg (i - j + j)
        case measure => omega
        case rel => exact ⟨i - j, j, by congr 1; omega, rfl, by omega, by omega, by omega, by omega, by omega, S3'⟩
      · have hltz : ¬ (j : Int) < (i : Int) := by omega
        have hlt2 : (i : Int) < j := by omega
        clear heq
        go_wp2_with fail
        obtain ⟨dk, hd, HP, S2⟩ := S1.out
        refine (swapRange_c2 (a := m - i) (b := m + j - i) (n := i) aE zE (by omega) (by omega) rfl R hs hd HP S2 (by omega) (by omega) hsz).mono ?_
        rintro e w' ⟨rfl, S3⟩
        have S3' : Aside (SWP k w0 blk off d w') := S3
        clear S3 S2 HP hd
        go_wp2_with fail
        go_roundg (i + (j - i))
        case measure => omega
        case rel => exact ⟨i, j - i, rfl, by congr 1; omega, by omega, by omega, by omega, by omega, by omega, S3'⟩

set_option maxHeartbeats 8000000 in
set_option maxRecDepth 1000000 in
theorem symMerge_first {k : Nat} (aE : ∀ w, (isAgg 59).run Tryd.prog w = .ok true w) (zE : ∀ w, (Go.sizeOf 59).run Tryd.prog w = .ok k w) {w0 w : World} {blk off cap a m b : Nat} {d0 d : Array Prp} (R : RowK Prp.cells k w0 blk off d0) (hs : d0.size = d.size) (S : SWP k w0 blk off d w) (ham : a < m) (hmb : m < b) (hb : b ≤ d.size) (hsz : d.size < 4611686018427387904) (h1 : m = a + 1) :
    Calls Tryd.prog 83 #[.slice (some ⟨blk, off, none⟩) d.size cap, .int .i64 a, .int .i64 m, .int .i64 b, .func (.func 58) #[] #[]] w fun e w' => e = .returned (.tuple #[]) ∧ SWP k w0 blk off d w' := by
  have mixed : Tryd.prog.follows .mixedOrders = true := by kernel_rfl
  have S0 : Aside (SWP k w0 blk off d w) := S
  have hmz : (m : Int) ≤ 4611686018427387904 := by omega
  have hbz : (b : Int) ≤ 4611686018427387904 := by omega
  have ham1 : (a : Int) < m := by omega
  have hmb1 : (m : Int) < b := by omega
  clear S
  have hone : ((m : Int) - a == 1) = true := beq_iff_eq.2 (by omega)
  have h1p : m ≤ a + 1 := by omega
  clear h1
  go_enter Tryd.func83, Tryd.ntmps83
  go_wp2_with fail
  go_loopg [10, 11] (b - a) (fun kx s10 s11 wr => ∃ (i j : Nat), s10 = .int .i64 i ∧ s11 = .int .i64 j ∧ m ≤ i ∧ i ≤ j ∧ j ≤ b ∧ j - i ≤ kx ∧ Aside (SWP k w0 blk off d wr))
  case atStart => exact ⟨m, b, rfl, rfl, Nat.le_refl _, by omega, Nat.le_refl _, by omega, S0⟩
  case round =>
    clear S0
    obtain ⟨i, j, rfl, rfl, hi1, hi2, hj2, hkx, S0⟩ := hrel
    obtain ⟨dk, hds, HP', S1'⟩ := S0.out
    have HP : Aside (PermIn 0 d.size d dk) := HP'
    have S1 : Aside (SWK Prp.cells k w0 blk off dk wr) := S1'
    clear HP' S1' S0
    by_cases hlt : i < j
    · have hltz : (i : Int) < (j : Int) := by omega
      have hiz : (i : Int) ≤ 4611686018427387904 := by omega
      have hjz : (j : Int) ≤ 4611686018427387904 := by omega
      go_wp2_with fail
      obtain ⟨h, hh⟩ : ∃ h : Nat, h = (i + j) / 2 := ⟨_, rfl⟩
      rw [show ((i : Int) + (j : Int)) / 2 = (h : Int) by omega]
      have hh1 : i ≤ h := by omega
      have hh2 : h < j := by omega
      clear hh
      have ei : ((h : Int)).toNat = h := by omega
      have pi : (0 : Int) ≤ (h : Int) := by omega
      have bi : (h : Int) < (d.size : Int) := by omega
      have ri : IntKind.i64.wrap ((h : Int)) = (h : Int) := by rw [IntKind.wrap_i64]; omega
      have ej : ((a : Int)).toNat = a := by omega
      have pj : (0 : Int) ≤ (a : Int) := by omega
      have bj : (a : Int) < (d.size : Int) := by omega
      have rj : IntKind.i64.wrap ((a : Int)) = (a : Int) := by rw [IntKind.wrap_i64]; omega
      obtain ⟨x, hx⟩ : ∃ x, x = dk[h]! := ⟨_, rfl⟩
      obtain ⟨y, hy⟩ : ∃ x, x = dk[a]! := ⟨_, rfl⟩
      have l1 := S1.out.ld R (by omega) Tryd.prog (h) (by omega)
      have l2 := S1.out.ld R (by omega) Tryd.prog (a) (by omega)
      rw [← hx] at l1
      rw [← hy] at l2
      have hc := S1.out.cmp (cmpLays k blk off d.size w0) hds x y
      clear hx hy
      by_cases hv : cfP x y < 0
      · have hd : decide (cfP x y < 0) = true := decide_eq_true hv
        go_wp2_with fail
        go_quiet_grown (first | (go_at_call 58; refine Calls.grown_of (hc _ _)))
        have S2 : Aside (SWK Prp.cells k w0 blk off dk (grow (wr.drewN nq) osq)) := S1.out.grown nq osq
        clear l1 l2 hc S1
        generalize grow (wr.drewN nq) osq = w2 at S2 ⊢
        clear nq osq
        go_wp2
        go_roundg (j - (h + 1))
        case measure => omega
        case rel => exact ⟨h + 1, j, by go_num, rfl, by omega, by omega, hj2, Nat.le_refl _, ⟨dk, hds, HP.out, S2.out⟩⟩
      · have hd : decide (cfP x y < 0) = false := decide_eq_false hv
        go_wp2_with fail
        go_quiet_grown (first | (go_at_call 58; refine Calls.grown_of (hc _ _)))
        have S2 : Aside (SWK Prp.cells k w0 blk off dk (grow (wr.drewN nq) osq)) := S1.out.grown nq osq
        clear l1 l2 hc S1
        generalize grow (wr.drewN nq) osq = w2 at S2 ⊢
        clear nq osq
        go_wp2
        go_roundg (h - i)
        case measure => omega
        case rel => exact ⟨i, h, rfl, rfl, hi1, by omega, by omega, Nat.le_refl _, ⟨dk, hds, HP.out, S2.out⟩⟩
    · have hltz : ¬ (i : Int) < (j : Int) := by omega
      have hiz : (i : Int) ≤ 4611686018427387904 := by omega
      have hi0 : (1 : Int) ≤ i := by omega
      go_wp2_with fail
      go_loopg [13] (b - a) (fun kx s13 wr => ∃ (q : Nat) (dk : Array Prp), s13 = .int .i64 q ∧ a ≤ q ∧ q ≤ i - 1 ∧ i - q ≤ kx + 1 ∧ dk.size = d.size ∧ Aside (PermIn 0 d.size d dk) ∧ Aside (SWK Prp.cells k w0 blk off dk wr))
      case atStart => exact ⟨a, dk, rfl, Nat.le_refl _, by omega, by omega, hds, HP, S1⟩
      case round =>
        clear HP S1 hds dk
        obtain ⟨q, dk, rfl, hq1, hq2, hkx2, hds, HP, S1⟩ := hrel
        by_cases hlt2 : q < i - 1
        · have hltz2 : (q : Int) < (i : Int) - 1 := by omega
          have hltz3 : (q : Int) + 1 < (i : Int) := by omega
          have ei : ((q : Int)).toNat = q := by omega
          have pi : (0 : Int) ≤ (q : Int) := by omega
          have bi : (q : Int) < (d.size : Int) := by omega
          have ri : IntKind.i64.wrap ((q : Int)) = (q : Int) := by rw [IntKind.wrap_i64]; omega
          have ej : ((q : Int) + 1).toNat = q + 1 := by omega
          have pj : (0 : Int) ≤ (q : Int) + 1 := by omega
          have bj : (q : Int) + 1 < (d.size : Int) := by omega
          have rj : IntKind.i64.wrap ((q : Int) + 1) = (q : Int) + 1 := by rw [IntKind.wrap_i64]; omega
          have S2 : Aside (SWK Prp.cells k w0 blk off (swp dk (q) (q + 1)) ((wr.drew.setCells blk (off + (q) * k) (Prp.cells dk[q + 1]!)).setCells blk (off + (q + 1) * k) (Prp.cells dk[q]!))) := S1.out.swapped R (q) (q + 1) (by omega) (by omega)
          have l1 := S1.out.ld1 R (by omega) Tryd.prog (q) (by omega)
          have l2 := S1.out.ld1 R (by omega) Tryd.prog (q + 1) (by omega)
          have s1 := S1.out.st1 R (by omega) Tryd.prog (q) (by omega) dk[q + 1]!
          have s2 := S1.out.st2 R (by omega) Tryd.prog (q) (q + 1) (by omega) (by omega) dk[q + 1]! dk[q]!
          have n1 : (Prp.cells dk[q]!).length = k := R.hk _
          have n2 : (Prp.cells dk[q + 1]!).length = k := R.hk _
          generalize Prp.cells dk[q]! = cI at S2 l1 s2 n1
          generalize Prp.cells dk[q + 1]! = cJ at S2 l2 s1 s2 n2
          clear S1
          go_wp2_with fail
          go_big_region_o
          clear l1 l2 s1 s2
          generalize (wr.drew.setCells blk (off + (q) * k) cJ).setCells blk (off + (q + 1) * k) cI = w2 at S2 ⊢
          go_wp2
          go_roundg (i - (q + 1) - 1)
          case measure => omega
          case rel => exact ⟨q + 1, swp dk q (q + 1), by go_num, by omega, by omega, by omega, by rw [size_swp]; exact hds, permIn_trans d dk _ 0 d.size HP.out (by rw [← hds]; exact swp_permIn dk 0 dk.size (q) (q + 1) (Nat.zero_le _) (by omega) (Nat.zero_le _) (by omega) (Nat.le_refl _)), S2⟩
        · have hltz2 : ¬ (q : Int) < (i : Int) - 1 := by omega
          have hltz3 : ¬ (q : Int) + 1 < (i : Int) := by omega
          go_wp2
          first | go_end0 | refine bodyPost_ret (results_none rfl _ _ _) rfl ?_
          exact ⟨rfl, dk, hds, HP.out, S1.out⟩
end Go.Proofs.YtbniandbmabdbaaDoor

/- Stable sorting of properties by their names: the merge, going on. -/
namespace Go.Proofs.YtbniandbmabdbaaDoor
open Go Go.Proofs Go.RowKit Go.Lib Go.Sort Go.Shelf
set_option linter.unusedSimpArgs false
set_option linter.unusedVariables false

set_option maxHeartbeats 8000000 in
set_option maxRecDepth 1000000 in
theorem symMerge_last {k : Nat} (aE : ∀ w, (isAgg 59).run Tryd.prog w = .ok true w) (zE : ∀ w, (Go.sizeOf 59).run Tryd.prog w = .ok k w) {w0 w : World} {blk off cap a m b : Nat} {d0 d : Array Prp} (R : RowK Prp.cells k w0 blk off d0) (hs : d0.size = d.size) (S : SWP k w0 blk off d w) (ham : a < m) (hmb : m < b) (hb : b ≤ d.size) (hsz : d.size < 4611686018427387904) (h0 : ¬ m = a + 1) (h1 : b = m + 1) :
    Calls Tryd.prog 83 #[.slice (some ⟨blk, off, none⟩) d.size cap, .int .i64 a, .int .i64 m, .int .i64 b, .func (.func 58) #[] #[]] w fun e w' => e = .returned (.tuple #[]) ∧ SWP k w0 blk off d w' := by
  have mixed : Tryd.prog.follows .mixedOrders = true := by kernel_rfl
  have S0 : Aside (SWP k w0 blk off d w) := S
  have hmz : (m : Int) ≤ 4611686018427387904 := by omega
  have hbz : (b : Int) ≤ 4611686018427387904 := by omega
  have ham1 : (a : Int) < m := by omega
  have hmb1 : (m : Int) < b := by omega
  clear S
  have hnone : ((m : Int) - a == 1) = false := beq_eq_false_iff_ne.2 (by omega)
  have hone : ((b : Int) - m == 1) = true := beq_iff_eq.2 (by omega)
  have h1p : b ≤ m + 1 := by omega
  clear h1 h0
  go_enter Tryd.func83, Tryd.ntmps83
  go_wp2_with fail
  go_loopg [14, 15] (b - a) (fun kx s10 s11 wr => ∃ (i j : Nat), s10 = .int .i64 i ∧ s11 = .int .i64 j ∧ a ≤ i ∧ i ≤ j ∧ j ≤ m ∧ j - i ≤ kx ∧ Aside (SWP k w0 blk off d wr))
  case atStart => exact ⟨a, m, rfl, rfl, Nat.le_refl _, by omega, Nat.le_refl _, by omega, S0⟩
  case round =>
    clear S0
    obtain ⟨i, j, rfl, rfl, hi1, hi2, hj2, hkx, S0⟩ := hrel
    obtain ⟨dk, hds, HP', S1'⟩ := S0.out
    have HP : Aside (PermIn 0 d.size d dk) := HP'
    have S1 : Aside (SWK Prp.cells k w0 blk off dk wr) := S1'
    clear HP' S1' S0
    by_cases hlt : i < j
    · have hltz : (i : Int) < (j : Int) := by omega
      have hiz : (i : Int) ≤ 4611686018427387904 := by omega
      have hjz : (j : Int) ≤ 4611686018427387904 := by omega
      go_wp2_with fail
      obtain ⟨h, hh⟩ : ∃ h : Nat, h = (i + j) / 2 := ⟨_, rfl⟩
      rw [show ((i : Int) + (j : Int)) / 2 = (h : Int) by omega]
      have hh1 : i ≤ h := by omega
      have hh2 : h < j := by omega
      clear hh
      have ei : ((m : Int)).toNat = m := by omega
      have pi : (0 : Int) ≤ (m : Int) := by omega
      have bi : (m : Int) < (d.size : Int) := by omega
      have ri : IntKind.i64.wrap ((m : Int)) = (m : Int) := by rw [IntKind.wrap_i64]; omega
      have ej : ((h : Int)).toNat = h := by omega
      have pj : (0 : Int) ≤ (h : Int) := by omega
      have bj : (h : Int) < (d.size : Int) := by omega
      have rj : IntKind.i64.wrap ((h : Int)) = (h : Int) := by rw [IntKind.wrap_i64]; omega
      obtain ⟨x, hx⟩ : ∃ x, x = dk[m]! := ⟨_, rfl⟩
      obtain ⟨y, hy⟩ : ∃ x, x = dk[h]! := ⟨_, rfl⟩
      have l1 := S1.out.ld R (by omega) Tryd.prog (m) (by omega)
      have l2 := S1.out.ld R (by omega) Tryd.prog (h) (by omega)
      rw [← hx] at l1
      rw [← hy] at l2
      have hc := S1.out.cmp (cmpLays k blk off d.size w0) hds x y
      clear hx hy
      by_cases hv : cfP x y < 0
      · have hd : decide (cfP x y < 0) = true := decide_eq_true hv
        go_wp2_with fail
        go_quiet_grown (first | (go_at_call 58; refine Calls.grown_of (hc _ _)))
        have S2 : Aside (SWK Prp.cells k w0 blk off dk (grow (wr.drewN nq) osq)) := S1.out.grown nq osq
        clear l1 l2 hc S1
        generalize grow (wr.drewN nq) osq = w2 at S2 ⊢
        clear nq osq
        go_wp2
        go_roundg (h - i)
        case measure => omega
        case rel => exact ⟨i, h, rfl, rfl, hi1, by omega, by omega, Nat.le_refl _, ⟨dk, hds, HP.out, S2.out⟩⟩
      · have hd : decide (cfP x y < 0) = false := decide_eq_false hv
        go_wp2_with fail
        go_quiet_grown (first | (go_at_call 58; refine Calls.grown_of (hc _ _)))
        have S2 : Aside (SWK Prp.cells k w0 blk off dk (grow (wr.drewN nq) osq)) := S1.out.grown nq osq
        clear l1 l2 hc S1
        generalize grow (wr.drewN nq) osq = w2 at S2 ⊢
        clear nq osq
        go_wp2
        go_roundg (j - (h + 1))
        case measure => omega
        case rel => exact ⟨h + 1, j, by go_num, rfl, by omega, by omega, hj2, Nat.le_refl _, ⟨dk, hds, HP.out, S2.out⟩⟩
    · have hltz : ¬ (i : Int) < (j : Int) := by omega
      have hiz : (i : Int) ≤ 4611686018427387904 := by omega
      have hi0 : (0 : Int) ≤ i := by omega
      go_wp2_with fail
      go_loopg [17] (b - a) (fun kx s13 wr => ∃ (q : Nat) (dk : Array Prp), s13 = .int .i64 q ∧ i ≤ q ∧ q ≤ m ∧ q - i ≤ kx ∧ dk.size = d.size ∧ Aside (PermIn 0 d.size d dk) ∧ Aside (SWK Prp.cells k w0 blk off dk wr))
      case atStart => exact ⟨m, dk, rfl, by omega, Nat.le_refl _, by omega, hds, HP, S1⟩
      case round =>
        clear HP S1 hds dk
        obtain ⟨q, dk, rfl, hq1, hq2, hkx2, hds, HP, S1⟩ := hrel
        by_cases hlt2 : i < q
        · have hltz2 : (i : Int) < (q : Int) := by omega
          obtain ⟨p, rfl⟩ : ∃ p, q = p + 1 := ⟨q - 1, by omega⟩
          have hltz3 : (i : Int) < (p : Int) + 1 := by omega
          have hwp : IntKind.i64.wrap (p : Int) = (p : Int) := by rw [IntKind.wrap_i64]; omega
          have ei : ((p : Int) + 1).toNat = p + 1 := by omega
          have pi : (0 : Int) ≤ (p : Int) + 1 := by omega
          have bi : (p : Int) + 1 < (d.size : Int) := by omega
          have ri : IntKind.i64.wrap ((p : Int) + 1) = (p : Int) + 1 := by rw [IntKind.wrap_i64]; omega
          have ej : ((p : Int)).toNat = p := by omega
          have pj : (0 : Int) ≤ (p : Int) := by omega
          have bj : (p : Int) < (d.size : Int) := by omega
          have rj : IntKind.i64.wrap ((p : Int)) = (p : Int) := by rw [IntKind.wrap_i64]; omega
          have S2 : Aside (SWK Prp.cells k w0 blk off (swp dk (p + 1) (p)) ((wr.drew.setCells blk (off + (p + 1) * k) (Prp.cells dk[p]!)).setCells blk (off + (p) * k) (Prp.cells dk[p + 1]!))) := S1.out.swapped R (p + 1) (p) (by omega) (by omega)
          have l1 := S1.out.ld1 R (by omega) Tryd.prog (p + 1) (by omega)
          have l2 := S1.out.ld1 R (by omega) Tryd.prog (p) (by omega)
          have s1 := S1.out.st1 R (by omega) Tryd.prog (p + 1) (by omega) dk[p]!
          have s2 := S1.out.st2 R (by omega) Tryd.prog (p + 1) (p) (by omega) (by omega) dk[p]! dk[p + 1]!
          have n1 : (Prp.cells dk[p + 1]!).length = k := R.hk _
          have n2 : (Prp.cells dk[p]!).length = k := R.hk _
          generalize Prp.cells dk[p + 1]! = cI at S2 l1 s2 n1
          generalize Prp.cells dk[p]! = cJ at S2 l2 s1 s2 n2
          clear S1
          go_wp2_with fail
          go_big_region_o
          clear l1 l2 s1 s2
          generalize (wr.drew.setCells blk (off + (p + 1) * k) cJ).setCells blk (off + (p) * k) cI = w2 at S2 ⊢
          go_wp2
          go_roundg (p - i)
          case measure => omega
          case rel => exact ⟨p, swp dk (p + 1) p, by go_num, by omega, by omega, by omega, by rw [size_swp]; exact hds, permIn_trans d dk _ 0 d.size HP.out (by rw [← hds]; exact swp_permIn dk 0 dk.size (p + 1) (p) (Nat.zero_le _) (by omega) (Nat.zero_le _) (by omega) (Nat.le_refl _)), S2⟩
        · have hltz2 : ¬ (i : Int) < (q : Int) := by omega
          go_wp2
          first | go_end0 | refine bodyPost_ret (results_none rfl _ _ _) rfl ?_
          exact ⟨rfl, dk, hds, HP.out, S1.out⟩
end Go.Proofs.YtbniandbmabdbaaDoor

/- Stable sorting of properties by their names: the merge, whole. -/
namespace Go.Proofs.YtbniandbmabdbaaDoor
open Go Go.Proofs Go.RowKit Go.Lib Go.Sort Go.Shelf
set_option linter.unusedSimpArgs false
set_option linter.unusedVariables false

set_option maxHeartbeats 8000000 in
set_option maxRecDepth 1000000 in
theorem symMerge_gen {k : Nat} (aE : ∀ w, (isAgg 59).run Tryd.prog w = .ok true w) (zE : ∀ w, (Go.sizeOf 59).run Tryd.prog w = .ok k w) {w0 w : World} {blk off cap a m b : Nat} {d0 d : Array Prp} (R : RowK Prp.cells k w0 blk off d0) (hs : d0.size = d.size) (S : SWP k w0 blk off d w) (ham : a < m) (hmb : m < b) (hb : b ≤ d.size) (hsz : d.size < 4611686018427387904) (h0 : ¬ m = a + 1) (h1 : ¬ b = m + 1) (ih : ∀ (a' m' b' : Nat) (w' : World), b' - a' < b - a → a' < m' → m' < b' → b' ≤ d.size → SWP k w0 blk off d w' → Calls Tryd.prog 83 #[.slice (some ⟨blk, off, none⟩) d.size cap, .int .i64 a', .int .i64 m', .int .i64 b', .func (.func 58) #[] #[]] w' fun e w'' => e = .returned (.tuple #[]) ∧ SWP k w0 blk off d w'') :
    Calls Tryd.prog 83 #[.slice (some ⟨blk, off, none⟩) d.size cap, .int .i64 a, .int .i64 m, .int .i64 b, .func (.func 58) #[] #[]] w fun e w' => e = .returned (.tuple #[]) ∧ SWP k w0 blk off d w' := by
  have mixed : Tryd.prog.follows .mixedOrders = true := by kernel_rfl
  have S0 : Aside (SWP k w0 blk off d w) := S
  have hmz : (m : Int) ≤ 4611686018427387904 := by omega
  have hbz : (b : Int) ≤ 4611686018427387904 := by omega
  have ham1 : (a : Int) < m := by omega
  have hmb1 : (m : Int) < b := by omega
  clear S
  have hn1 : ((m : Int) - a == 1) = false := beq_eq_false_iff_ne.2 (by omega)
  have hn2 : ((b : Int) - m == 1) = false := beq_eq_false_iff_ne.2 (by omega)
  have IH := Lib.hid ih
  have haz : (0 : Int) ≤ a := by omega
  have h0' : a + 2 ≤ m := by omega
  have h1' : m + 2 ≤ b := by omega
  clear ih h0 h1
  go_enter Tryd.func83, Tryd.ntmps83
  go_upto_region 25 with fail
  obtain ⟨md, hmd⟩ : ∃ h : Nat, h = (a + b) / 2 := ⟨_, rfl⟩
  rw [show ((a : Int) + (b : Int)) / 2 = (md : Int) by omega]
  have hmd1 : 2 * md ≤ a + b := by omega
  have hmd2 : a + b ≤ 2 * md + 1 := by omega
  have hmdz : (md : Int) ≤ 4611686018427387904 := by omega
  have hmd0 : (0 : Int) ≤ md := by omega
  clear hmd
  by_cases hmm : md < m
  · have hmz2 : (md : Int) < m := by omega
    have hstz : (md : Int) + m - b = ((md + m - b : Nat) : Int) := by omega
    go_wp2_with fail
    clear hstz hmz2
    go_loopg [20, 21] (b - a) (fun kx s20 s21 wr => ∃ (s t : Nat), s20 = .int .i64 s ∧ s21 = .int .i64 t ∧ a ≤ s ∧ s ≤ t ∧ t ≤ md ∧ t ≤ m ∧ md + m ≤ b + s ∧ t - s ≤ kx ∧ Aside (SWP k w0 blk off d wr))
    case atStart => exact ⟨md + m - b, md, rfl, rfl, by omega, by omega, by omega, by omega, by omega, by omega, S0⟩
    case round =>
      clear S0
      obtain ⟨i, j, rfl, rfl, hi1, hi2, hj1, hj2, hj3, hkx, S0⟩ := hrel
      by_cases hlt : i < j
      · obtain ⟨dk, hds, HP', S1'⟩ := S0.out
        have HP : Aside (PermIn 0 d.size d dk) := HP'
        have S1 : Aside (SWK Prp.cells k w0 blk off dk wr) := S1'
        clear HP' S1' S0
        have hltz : (i : Int) < (j : Int) := by omega
        have hiz : (i : Int) ≤ 4611686018427387904 := by omega
        have hjz : (j : Int) ≤ 4611686018427387904 := by omega
        go_wp2_with fail
        obtain ⟨h, hh⟩ : ∃ h : Nat, h = (i + j) / 2 := ⟨_, rfl⟩
        rw [show ((i : Int) + (j : Int)) / 2 = (h : Int) by omega]
        have hh1 : i ≤ h := by omega
        have hh2 : h < j := by omega
        clear hh
        obtain ⟨q, hq⟩ : ∃ q : Nat, q = md + m - 1 - h := ⟨_, rfl⟩
        have hqz : (md : Int) + m - 1 - h = (q : Int) := by omega
        have hq1 : q + 1 + h ≤ md + m := by omega
        have hq2 : md + m ≤ q + 1 + h := by omega
        clear hq
        have hqw : IntKind.i64.wrap ((md : Int) + m - 1 - h) = (q : Int) := by rw [IntKind.wrap_i64]; omega
        have ei : ((q : Int)).toNat = q := by omega
        have pi : (0 : Int) ≤ (q : Int) := by omega
        have bi : (q : Int) < (d.size : Int) := by omega
        have ri : IntKind.i64.wrap ((q : Int)) = (q : Int) := by rw [IntKind.wrap_i64]; omega
        have ej : ((h : Int)).toNat = h := by omega
        have pj : (0 : Int) ≤ (h : Int) := by omega
        have bj : (h : Int) < (d.size : Int) := by omega
        have rj : IntKind.i64.wrap ((h : Int)) = (h : Int) := by rw [IntKind.wrap_i64]; omega
        obtain ⟨x, hx⟩ : ∃ x, x = dk[q]! := ⟨_, rfl⟩
        obtain ⟨y, hy⟩ : ∃ x, x = dk[h]! := ⟨_, rfl⟩
        have l1 := S1.out.ld R (by omega) Tryd.prog (q) (by omega)
        have l2 := S1.out.ld R (by omega) Tryd.prog (h) (by omega)
        rw [← hx] at l1
        rw [← hy] at l2
        have hc := S1.out.cmp (cmpLays k blk off d.size w0) hds x y
        clear hx hy
        by_cases hv : cfP x y < 0
        · have hd : decide (cfP x y < 0) = true := decide_eq_true hv
          go_wp2_with fail
          go_quiet_grown (first | (go_at_call 58; refine Calls.grown_of (hc _ _)))
          have S2 : Aside (SWK Prp.cells k w0 blk off dk (grow (wr.drewN nq) osq)) := S1.out.grown nq osq
          clear l1 l2 hc S1
          generalize grow (wr.drewN nq) osq = w2 at S2 ⊢
          clear nq osq
          clear hqz hqw
          go_wp2
          go_roundg (h - i)
          case measure => omega
          case rel => exact ⟨i, h, rfl, rfl, hi1, by omega, by omega, by omega, by omega, Nat.le_refl _, ⟨dk, hds, HP.out, S2.out⟩⟩
        · have hd : decide (cfP x y < 0) = false := decide_eq_false hv
          go_wp2_with fail
          go_quiet_grown (first | (go_at_call 58; refine Calls.grown_of (hc _ _)))
          have S2 : Aside (SWK Prp.cells k w0 blk off dk (grow (wr.drewN nq) osq)) := S1.out.grown nq osq
          clear l1 l2 hc S1
          generalize grow (wr.drewN nq) osq = w2 at S2 ⊢
          clear nq osq
          clear hqz hqw
          go_wp2
          go_roundg (j - (h + 1))
          case measure => omega
          case rel => exact ⟨h + 1, j, by go_num, rfl, by omega, by omega, by omega, by omega, by omega, Nat.le_refl _, ⟨dk, hds, HP.out, S2.out⟩⟩
      · have hltz : ¬ (i : Int) < (j : Int) := by omega
        have hiz : (i : Int) ≤ 4611686018427387904 := by omega
        go_upto_region 39 with fail
        obtain ⟨en, hen⟩ : ∃ q : Nat, q = md + m - i := ⟨_, rfl⟩
        rw [show (md : Int) + m - i = (en : Int) by omega]
        have hen1 : en + i ≤ md + m := by omega
        have hen2 : md + m ≤ en + i := by omega
        clear hen hltz hlt
        go_wp2_with (first
          | (go_at_call 89; refine (rotate_c (a := i) (m := m) (b := en) aE zE rfl rfl rfl R hs S0.out (by omega) (by omega) (by omega) hsz).mono ?_; rintro e w' ⟨rfl, S3⟩; have S0 : Aside (SWP k w0 blk off d w') := S3; clear S3)
          | (go_at_call 83; ((with_reducible refine (IH.out a i md _ ?_ ?_ ?_ ?_ S0.out).mono ?_); (focus omega); (focus omega); (focus omega); (focus omega); rintro e w' ⟨rfl, S3⟩); have S0 : Aside (SWP k w0 blk off d w') := S3; clear S3)
          | (go_at_call 83; ((with_reducible refine (IH.out md en b _ ?_ ?_ ?_ ?_ S0.out).mono ?_); (focus omega); (focus omega); (focus omega); (focus omega); rintro e w' ⟨rfl, S3⟩); have S0 : Aside (SWP k w0 blk off d w') := S3; clear S3))
        all_goals
          first | go_end0 | refine bodyPost_ret (results_none rfl _ _ _) rfl ?_
          exact ⟨rfl, S0.out⟩
  · have hmz2 : ¬ (md : Int) < m := by omega
    go_wp2_with fail
    clear hmz2
    go_loopg [20, 21] (b - a) (fun kx s20 s21 wr => ∃ (s t : Nat), s20 = .int .i64 s ∧ s21 = .int .i64 t ∧ a ≤ s ∧ s ≤ t ∧ t ≤ md ∧ t ≤ m ∧ md + m ≤ b + s ∧ t - s ≤ kx ∧ Aside (SWP k w0 blk off d wr))
    case atStart => exact ⟨a, m, rfl, rfl, by omega, by omega, by omega, by omega, by omega, by omega, S0⟩
    case round =>
      clear S0
      obtain ⟨i, j, rfl, rfl, hi1, hi2, hj1, hj2, hj3, hkx, S0⟩ := hrel
      by_cases hlt : i < j
      · obtain ⟨dk, hds, HP', S1'⟩ := S0.out
        have HP : Aside (PermIn 0 d.size d dk) := HP'
        have S1 : Aside (SWK Prp.cells k w0 blk off dk wr) := S1'
        clear HP' S1' S0
        have hltz : (i : Int) < (j : Int) := by omega
        have hiz : (i : Int) ≤ 4611686018427387904 := by omega
        have hjz : (j : Int) ≤ 4611686018427387904 := by omega
        go_wp2_with fail
        obtain ⟨h, hh⟩ : ∃ h : Nat, h = (i + j) / 2 := ⟨_, rfl⟩
        rw [show ((i : Int) + (j : Int)) / 2 = (h : Int) by omega]
        have hh1 : i ≤ h := by omega
        have hh2 : h < j := by omega
        clear hh
        obtain ⟨q, hq⟩ : ∃ q : Nat, q = md + m - 1 - h := ⟨_, rfl⟩
        have hqz : (md : Int) + m - 1 - h = (q : Int) := by omega
        have hq1 : q + 1 + h ≤ md + m := by omega
        have hq2 : md + m ≤ q + 1 + h := by omega
        clear hq
        have hqw : IntKind.i64.wrap ((md : Int) + m - 1 - h) = (q : Int) := by rw [IntKind.wrap_i64]; omega
        have ei : ((q : Int)).toNat = q := by omega
        have pi : (0 : Int) ≤ (q : Int) := by omega
        have bi : (q : Int) < (d.size : Int) := by omega
        have ri : IntKind.i64.wrap ((q : Int)) = (q : Int) := by rw [IntKind.wrap_i64]; omega
        have ej : ((h : Int)).toNat = h := by omega
        have pj : (0 : Int) ≤ (h : Int) := by omega
        have bj : (h : Int) < (d.size : Int) := by omega
        have rj : IntKind.i64.wrap ((h : Int)) = (h : Int) := by rw [IntKind.wrap_i64]; omega
        obtain ⟨x, hx⟩ : ∃ x, x = dk[q]! := ⟨_, rfl⟩
        obtain ⟨y, hy⟩ : ∃ x, x = dk[h]! := ⟨_, rfl⟩
        have l1 := S1.out.ld R (by omega) Tryd.prog (q) (by omega)
        have l2 := S1.out.ld R (by omega) Tryd.prog (h) (by omega)
        rw [← hx] at l1
        rw [← hy] at l2
        have hc := S1.out.cmp (cmpLays k blk off d.size w0) hds x y
        clear hx hy
        by_cases hv : cfP x y < 0
        · have hd : decide (cfP x y < 0) = true := decide_eq_true hv
          go_wp2_with fail
          go_quiet_grown (first | (go_at_call 58; refine Calls.grown_of (hc _ _)))
          have S2 : Aside (SWK Prp.cells k w0 blk off dk (grow (wr.drewN nq) osq)) := S1.out.grown nq osq
          clear l1 l2 hc S1
          generalize grow (wr.drewN nq) osq = w2 at S2 ⊢
          clear nq osq
          clear hqz hqw
          go_wp2
          go_roundg (h - i)
          case measure => omega
          case rel => exact ⟨i, h, rfl, rfl, hi1, by omega, by omega, by omega, by omega, Nat.le_refl _, ⟨dk, hds, HP.out, S2.out⟩⟩
        · have hd : decide (cfP x y < 0) = false := decide_eq_false hv
          go_wp2_with fail
          go_quiet_grown (first | (go_at_call 58; refine Calls.grown_of (hc _ _)))
          have S2 : Aside (SWK Prp.cells k w0 blk off dk (grow (wr.drewN nq) osq)) := S1.out.grown nq osq
          clear l1 l2 hc S1
          generalize grow (wr.drewN nq) osq = w2 at S2 ⊢
          clear nq osq
          clear hqz hqw
          go_wp2
          go_roundg (j - (h + 1))
          case measure => omega
          case rel => exact ⟨h + 1, j, by go_num, rfl, by omega, by omega, by omega, by omega, by omega, Nat.le_refl _, ⟨dk, hds, HP.out, S2.out⟩⟩
      · have hltz : ¬ (i : Int) < (j : Int) := by omega
        have hiz : (i : Int) ≤ 4611686018427387904 := by omega
        go_upto_region 39 with fail
        obtain ⟨en, hen⟩ : ∃ q : Nat, q = md + m - i := ⟨_, rfl⟩
        rw [show (md : Int) + m - i = (en : Int) by omega]
        have hen1 : en + i ≤ md + m := by omega
        have hen2 : md + m ≤ en + i := by omega
        clear hen hltz hlt
        go_wp2_with (first
          | (go_at_call 89; refine (rotate_c (a := i) (m := m) (b := en) aE zE rfl rfl rfl R hs S0.out (by omega) (by omega) (by omega) hsz).mono ?_; rintro e w' ⟨rfl, S3⟩; have S0 : Aside (SWP k w0 blk off d w') := S3; clear S3)
          | (go_at_call 83; ((with_reducible refine (IH.out a i md _ ?_ ?_ ?_ ?_ S0.out).mono ?_); (focus omega); (focus omega); (focus omega); (focus omega); rintro e w' ⟨rfl, S3⟩); have S0 : Aside (SWP k w0 blk off d w') := S3; clear S3)
          | (go_at_call 83; ((with_reducible refine (IH.out md en b _ ?_ ?_ ?_ ?_ S0.out).mono ?_); (focus omega); (focus omega); (focus omega); (focus omega); rintro e w' ⟨rfl, S3⟩); have S0 : Aside (SWP k w0 blk off d w') := S3; clear S3))
        all_goals
          first | go_end0 | refine bodyPost_ret (results_none rfl _ _ _) rfl ?_
          exact ⟨rfl, S0.out⟩
end Go.Proofs.YtbniandbmabdbaaDoor

/- Stable sorting of properties by their names: the order; the whole. -/
namespace Go.Proofs.YtbniandbmabdbaaDoor
open Go Go.Proofs Go.RowKit Go.Lib Go.Sort Go.Shelf
set_option linter.unusedSimpArgs false
set_option linter.unusedVariables false

theorem cmpB_neg : ∀ (x y : List UInt8), Lib.compareBytes x y < 0 ↔ x < y
  | [], [] => by simp [Lib.compareBytes]
  | [], _ :: _ => by simp [Lib.compareBytes]
  | _ :: _, [] => by simp [Lib.compareBytes]
  | a :: l, b :: m => by
    unfold Lib.compareBytes
    rw [List.cons_lt_cons_iff, ← cmpB_neg l m]
    by_cases h1 : a < b
    · simp [h1]
    · rw [if_neg h1]
      by_cases h2 : b < a
      · rw [if_pos h2]
        have : ¬ a = b := fun e => by subst e; exact h1 h2
        simp [h1, this]
      · rw [if_neg h2]
        have h3 : a = b := by
          apply UInt8.toNat_inj.1
          rw [UInt8.lt_iff_toNat_lt] at h1 h2
          omega
        simp [h1, h3]
theorem ltP_iff (x y : Prp) : ltOf cfP x y = true ↔ x.nm.data.toList < y.nm.data.toList := by
  unfold ltOf cfP
  rw [decide_eq_true_eq, cmpB_neg]
theorem ltP_no (x y : Prp) : ltOf cfP x y = false ↔ ¬ x.nm.data.toList < y.nm.data.toList := by
  rw [← ltP_iff, Bool.not_eq_true]
theorem ltP_swo : SWO (ltOf cfP) where
  irrefl x := by rw [ltP_no]; exact List.lt_irrefl _
  trans x y z h1 h2 := by
    rw [ltP_iff] at h1 h2 ⊢
    exact List.lt_trans h1 h2
  ntrans x y z h1 h2 := by
    rw [ltP_no] at h1 h2 ⊢
    rw [List.not_lt] at h1 h2 ⊢
    exact List.le_trans h2 h1

theorem symMerge_c {k : Nat} (aE : ∀ w, (isAgg 59).run Tryd.prog w = .ok true w) (zE : ∀ w, (Go.sizeOf 59).run Tryd.prog w = .ok k w) {w0 : World} {blk off cap : Nat} {d0 d : Array Prp} (R : RowK Prp.cells k w0 blk off d0) (hs : d0.size = d.size) (hsz : d.size < 4611686018427387904) :
    ∀ (N a m b : Nat) (w : World), b - a < N → a < m → m < b → b ≤ d.size → SWP k w0 blk off d w →
      Calls Tryd.prog 83 #[.slice (some ⟨blk, off, none⟩) d.size cap, .int .i64 a, .int .i64 m, .int .i64 b, .func (.func 58) #[] #[]] w fun e w' => e = .returned (.tuple #[]) ∧ SWP k w0 blk off d w'
  | 0, _, _, _, _, h, _, _, _, _ => absurd h (Nat.not_lt_zero _)
  | N + 1, a, m, b, w, h, h1, h2, h3, S => by
    by_cases c1 : m = a + 1
    · exact symMerge_first aE zE R hs S h1 h2 h3 hsz c1
    · by_cases c2 : b = m + 1
      · exact symMerge_last aE zE R hs S h1 h2 h3 hsz c1 c2
      · exact symMerge_gen aE zE R hs S h1 h2 h3 hsz c1 c2 (fun a' m' b' w' g0 g1 g2 g3 S' => symMerge_c aE zE R hs hsz N a' m' b' w' (by omega) g1 g2 g3 S')

def renI : Go.Shelf.Ren := ⟨fun | 20 => 82 | n => n, fun | 0 => 0 | 3 => 3 | 4 => 4 | 22 => 36 | 24 => 59 | 25 => 86 | n => n, fun n => n⟩
theorem laysI : SlLaysF0.n20 Tryd.prog renI := {
  mixed := by kernel_rfl
  f20 := ⟨Tryd.f82.name, by decide, Tryd.func82.trans (congrArg some (by kernel_rfl))⟩
  t0 := Tryd.underlying0
  a0 := Tryd.isAgg0
  z0 := Tryd.sizeOf0
  v0 := Tryd.zeroValue0
  t3 := Tryd.underlying3
  a3 := Tryd.isAgg3
  z3 := Tryd.sizeOf3
  v3 := Tryd.zeroValue3
  t4 := Tryd.underlying4
  a4 := Tryd.isAgg4
  z4 := Tryd.sizeOf4
  v4 := Tryd.zeroValue4
  t22 := Tryd.underlying36
  a22 := Tryd.isAgg36
  z22 := Tryd.sizeOf36
  v22 := Tryd.zeroValue36
  t25 := Tryd.underlying86
  a25 := Tryd.isAgg86
  z25 := Tryd.sizeOf86
  v25 := Tryd.zeroValue86 }

theorem insertion_c {w0 w : World} {blk off cap a b : Nat} {d0 d : Array Prp} {ai bi : Int} (hai : ai = a) (hbi : bi = b) (R : RowK Prp.cells 5 w0 blk off d0) (hs : d0.size = d.size) (S : SWK Prp.cells 5 w0 blk off d w) (hab : a ≤ b) (hb : b ≤ d.size) (hsz : d.size < 4611686018427387904) :
    Calls Tryd.prog 82 #[.slice (some ⟨blk, off, none⟩) d.size cap, .int .i64 ai, .int .i64 bi, .func (.func 58) #[] #[]] w fun e w' => e = .returned (.tuple #[]) ∧ SWK Prp.cells 5 w0 blk off (Sort.insertionSort (ltOf cfP) d a b) w' := by
  subst hai hbi
  have hs' : (Sort.insertionSort (ltOf cfP) d a b).size = d.size := (insertionSort_holds ltP_swo d a b hab hb).1.1
  refine (AnyQ.insertionSortCmpFunc laysI 5 Tryd.isAgg59 Tryd.sizeOf59 Prp.cells R.hk R.h1 cfP 58 #[] blk off cap a b d w (fun args w => enters_of Tryd.func58 (by kernel_rfl) rfl args w) (cmpLays 5 blk off d.size w) (S.holds R.hblk R.hH hs.symm) (S.lt R.hblk) hab hb hsz).mono ?_
  rintro e w' ⟨rfl, n, os, rfl⟩
  exact ⟨rfl, S.on R.hblk n _ os hs'⟩
end Go.Proofs.YtbniandbmabdbaaDoor

/- Stable sorting of properties by their names: the whole. -/
namespace Go.Proofs.YtbniandbmabdbaaDoor
open Go Go.Proofs Go.RowKit Go.Lib Go.Sort Go.Shelf
set_option linter.unusedSimpArgs false
set_option linter.unusedVariables false

/-- What the sort leaves: a permutation; of fewer than 20, what the insertion sort makes. -/
def SoPost (w0 : World) (blk off : Nat) (d : Array Prp) (e : Ending) (w' : World) : Prop :=
  e = .returned (.tuple #[]) ∧ ∃ dk : Array Prp, dk.size = d.size ∧ PermIn 0 d.size d dk ∧ (d.size < 20 → dk = Sort.insertionSort (ltOf cfP) d 0 d.size) ∧ SWK Prp.cells 5 w0 blk off dk w'

theorem ins_swp {w0 W : World} {blk off a b : Nat} {d dk : Array Prp} (hd : dk.size = d.size) (HP : PermIn 0 d.size d dk) (hab : a ≤ b) (hb : b ≤ d.size) (S : SWK Prp.cells 5 w0 blk off (Sort.insertionSort (ltOf cfP) dk a b) W) : SWP 5 w0 blk off d W := by
  have h := (insertionSort_holds ltP_swo dk a b hab (by omega)).1
  have h1 := h.1
  refine ⟨_, by omega, permIn_trans d dk _ 0 d.size HP (permIn_mono dk _ a b 0 d.size (Nat.zero_le _) hb (by omega) h), S⟩

set_option maxHeartbeats 4000000 in
set_option maxRecDepth 1000000 in
theorem stable_small {w : World} {blk off cap : Nat} {d : Array Prp} (R : RowK Prp.cells 5 w blk off d) (hsm : d.size < 20) :
    Calls Tryd.prog 71 #[.slice (some ⟨blk, off, none⟩) d.size cap, .int .i64 d.size, .func (.func 58) #[] #[]] w (SoPost w blk off d) := by
  have hI := Lib.hid (insertion_c (w := w) (cap := cap) (a := 0) (b := d.size) (ai := 0) (bi := d.size) rfl rfl R rfl (SWK.start R.hH) (Nat.zero_le _) (Nat.le_refl _) (by omega))
  have h1 : ¬ (20 : Int) ≤ d.size := by omega
  have h2 : ¬ (20 : Int) < d.size := by omega
  have HS := Lib.hid hsm
  clear hsm
  go_enter Tryd.func71, Tryd.ntmps71
  go_wp2
  refine wp_loop_rounds 1 ?_
  rw [rounds_succ]
  go_wp2_with (go_at_call 82; refine (hI.out).mono ?_; rintro e w1 ⟨rfl, S1⟩)
  refine wp_loop_rounds 1 ?_
  rw [rounds_succ]
  go_wp2
  go_end0
  have h := (insertionSort_holds ltP_swo d 0 d.size (Nat.zero_le _) (Nat.le_refl _)).1
  exact ⟨rfl, _, h.1, h, fun _ => rfl, S1⟩

set_option maxHeartbeats 4000000 in
set_option maxRecDepth 1000000 in
theorem stable_big {w : World} {blk off cap : Nat} {d : Array Prp} (R : RowK Prp.cells 5 w blk off d) (hsm : 20 ≤ d.size) (hsz : d.size < 1152921504606846976) :
    Calls Tryd.prog 71 #[.slice (some ⟨blk, off, none⟩) d.size cap, .int .i64 d.size, .func (.func 58) #[] #[]] w (SoPost w blk off d) := by
  have S0 : Aside (SWP 5 w blk off d w) := SWP.refl (SWK.start R.hH)
  have SY := Lib.hid (fun a m b w' => symMerge_c (cap := cap) Tryd.isAgg59 Tryd.sizeOf59 R rfl (by omega) (b - a + 1) a m b w' (Nat.lt_succ_self _))
  have hz : (d.size : Int) ≤ 1152921504606846976 := by omega
  have hz2 : (20 : Int) ≤ d.size := by omega
  go_enter Tryd.func71, Tryd.ntmps71
  go_wp2
  go_loopg [7, 8] d.size (fun kx s7 s8 wr => ∃ a : Nat, s7 = .int .i64 a ∧ s8 = .int .i64 ((a : Int) + 20) ∧ a ≤ d.size ∧ d.size - a ≤ kx ∧ Aside (SWP 5 w blk off d wr))
  case atStart => exact ⟨0, rfl, rfl, Nat.zero_le _, Nat.le_refl _, S0⟩
  case round =>
    clear S0
    obtain ⟨a, rfl, rfl, ha, hkx, S0⟩ := hrel
    have ha0 : (0 : Int) ≤ a := by omega
    have ha1 : (a : Int) ≤ 1152921504606846976 := by omega
    by_cases hlt : a + 20 ≤ d.size
    · have hltz : (a : Int) + 20 ≤ (d.size : Int) := by omega
      go_wp2_with fail
      obtain ⟨dk, hd, HP, S1⟩ := S0.out
      have hI := insertion_c (w := wr) (cap := cap) (a := a) (b := a + 20) (ai := a) (bi := (a : Int) + 20) rfl (by omega) R hd.symm S1 (by omega) (by omega) (by omega)
      rw [hd] at hI
      refine hI.mono ?_
      rintro e w1 ⟨rfl, S2⟩
      have S3 : Aside (SWP 5 w blk off d w1) := ins_swp hd HP (by omega) hlt S2
      clear S2 hI S1 HP hd S0
      go_wp2
      go_roundg (d.size - (a + 20))
      case measure => omega
      case rel => exact ⟨a + 20, by go_num, by congr 1, hlt, Nat.le_refl _, S3⟩
    · have hltz : ¬ (a : Int) + 20 ≤ (d.size : Int) := by omega
      go_wp2_with fail
      obtain ⟨dk, hd, HP, S1⟩ := S0.out
      have hI := insertion_c (w := wr) (cap := cap) (a := a) (b := d.size) (ai := a) (bi := d.size) rfl rfl R hd.symm S1 ha (by omega) (by omega)
      rw [hd] at hI
      refine hI.mono ?_
      rintro e w1 ⟨rfl, S2⟩
      have S3 : Aside (SWP 5 w blk off d w1) := ins_swp hd HP ha (Nat.le_refl _) S2
      clear S2 hI S1 HP hd S0 hltz hlt ha0 ha1 hkx
      go_wp2_with fail
      go_loopg [6, 7, 8, 9] d.size (fun kx s6 _s7 _s8 _s9 wr => ∃ bs : Nat, s6 = .int .i64 bs ∧ 20 ≤ bs ∧ bs ≤ 2305843009213693952 ∧ d.size - bs ≤ kx ∧ Aside (SWP 5 w blk off d wr))
      case atStart => exact ⟨20, rfl, by omega, by omega, by omega, S3⟩
      case round =>
        clear S3
        obtain ⟨bs, rfl, hb1, hb2, hkx, S3⟩ := hrel
        have hb1z : (20 : Int) ≤ bs := by omega
        by_cases hlt : bs < d.size
        · have hltz : (bs : Int) < d.size := by omega
          have hbz : (bs : Int) ≤ 1152921504606846976 := by omega
          go_wp2_with fail
          go_loopg [7, 8] d.size (fun ky s7 s8 wr => ∃ a : Nat, s7 = .int .i64 a ∧ s8 = .int .i64 ((a : Int) + 2 * bs) ∧ a ≤ d.size ∧ d.size - a ≤ ky ∧ Aside (SWP 5 w blk off d wr))
          case atStart => exact ⟨0, rfl, by congr 1; omega, Nat.zero_le _, Nat.le_refl _, S3⟩
          case round =>
            clear S3
            obtain ⟨a, rfl, rfl, ha, hky, S0⟩ := hrel
            have ha0 : (0 : Int) ≤ a := by omega
            have ha1 : (a : Int) ≤ 1152921504606846976 := by omega
            by_cases hlt2 : a + 2 * bs ≤ d.size
            · have hltz2 : (a : Int) + 2 * bs ≤ (d.size : Int) := by omega
              go_wp2_with fail
              have hs := SY.out a (a + bs) (a + 2 * bs) _ (by omega) (by omega) hlt2 S0.out
              rw [show (((a + bs : Nat)) : Int) = (a : Int) + bs by omega, show (((a + 2 * bs : Nat)) : Int) = (a : Int) + 2 * bs by omega] at hs
              refine hs.mono ?_
              rintro e w2 ⟨rfl, S2⟩
              have S3 : Aside (SWP 5 w blk off d w2) := S2
              clear S2 S0 hs
              go_wp2
              go_roundg (d.size - (a + 2 * bs))
              case measure => omega
              case rel => exact ⟨a + 2 * bs, by congr 1, by congr 1, hlt2, Nat.le_refl _, S3⟩
            · have hltz2 : ¬ (a : Int) + 2 * bs ≤ (d.size : Int) := by omega
              by_cases hlt3 : a + bs < d.size
              · have hltz3 : (a : Int) + bs < (d.size : Int) := by omega
                go_wp2_with fail
                have hs := SY.out a (a + bs) d.size _ (by omega) hlt3 (Nat.le_refl _) S0.out
                rw [show (((a + bs : Nat)) : Int) = (a : Int) + bs by omega] at hs
                refine hs.mono ?_
                rintro e w2 ⟨rfl, S2⟩
                have S3 : Aside (SWP 5 w blk off d w2) := S2
                clear S2 S0 hs
                go_wp2
                go_roundg (d.size - 2 * bs)
                case measure => omega
                case rel => exact ⟨bs * 2, by congr 1, by omega, by omega, by omega, S3⟩
              · have hltz3 : ¬ (a : Int) + bs < (d.size : Int) := by omega
                go_wp2_with fail
                go_roundg (d.size - 2 * bs)
                case measure => omega
                case rel => exact ⟨bs * 2, by congr 1, by omega, by omega, by omega, S0⟩
        · have hltz : ¬ (bs : Int) < d.size := by omega
          go_wp2
          go_end0
          obtain ⟨dk, hd, HP, S1⟩ := S3.out
          exact ⟨rfl, dk, hd, HP, fun h => by omega, S1⟩

theorem stable_c {w : World} {blk off cap : Nat} {d : Array Prp} (R : RowK Prp.cells 5 w blk off d) (hsz : d.size < 1152921504606846976) :
    Calls Tryd.prog 71 #[.slice (some ⟨blk, off, none⟩) d.size cap, .int .i64 d.size, .func (.func 58) #[] #[]] w (SoPost w blk off d) := by
  by_cases h : d.size < 20
  · exact stable_small R h
  · exact stable_big R (by omega) hsz

set_option maxRecDepth 100000 in
theorem sortStable_c {w : World} {blk off cap : Nat} {d : Array Prp} (R : RowK Prp.cells 5 w blk off d) (hsz : d.size < 1152921504606846976) :
    Calls Tryd.prog 57 #[.slice (some ⟨blk, off, none⟩) d.size cap, .func (.func 58) #[] #[]] w (SoPost w blk off d) := by
  have hc := Lib.hid (stable_c (cap := cap) R hsz)
  go_enter Tryd.func57, Tryd.ntmps57
  go_wp2_with (go_at_call 71; refine (hc.out).mono ?_; rintro e w1 ⟨rfl, h1⟩)
  go_end0
  exact ⟨rfl, h1⟩

set_option maxRecDepth 100000 in
theorem insertion_nil {w : World} {fv : Value} : Calls Tryd.prog 82 #[.slice none 0 0, .int .i64 0, .int .i64 0, fv] w fun e w' => e = .returned (.tuple #[]) ∧ w = w' := by
  go_enter Tryd.func82, Tryd.ntmps82
  go_wp2
  refine wp_loop_rounds 1 ?_
  rw [rounds_succ]
  go_wp2
  go_end0
  exact ⟨rfl, rfl⟩
set_option maxRecDepth 100000 in
theorem stable_nil {w : World} {fv : Value} : Calls Tryd.prog 71 #[.slice none 0 0, .int .i64 0, fv] w fun e w' => e = .returned (.tuple #[]) ∧ w = w' := by
  have hI := Lib.hid (insertion_nil (w := w) (fv := fv))
  go_enter Tryd.func71, Tryd.ntmps71
  go_wp2
  refine wp_loop_rounds 1 ?_
  rw [rounds_succ]
  go_wp2_with (go_at_call 82; refine (hI.out).mono ?_; rintro e w1 ⟨rfl, rfl⟩)
  refine wp_loop_rounds 1 ?_
  rw [rounds_succ]
  go_wp2
  go_end0
  exact ⟨rfl, rfl⟩
set_option maxRecDepth 100000 in
theorem sortStable_nil {w : World} {fv : Value} :
    Calls Tryd.prog 57 #[.slice none 0 0, fv] w fun e w' => e = .returned (.tuple #[]) ∧ w = w' := by
  have hc := Lib.hid (stable_nil (w := w) (fv := fv))
  go_enter Tryd.func57, Tryd.ntmps57
  go_wp2_with (go_at_call 71; refine (hc.out).mono ?_; rintro e w1 ⟨rfl, rfl⟩)
  go_end0
  exact ⟨rfl, rfl⟩
end Go.Proofs.YtbniandbmabdbaaDoor

/- Layer 15: rows of properties that a call has made; a table's words. -/
namespace Go.Proofs.YtbniandbmabdbaaDoor
open Go Go.Proofs Go.RowKit Go.Sort Go.Shelf
set_option linter.unusedSimpArgs false
set_option linter.unusedVariables false

/-- v is a row of properties in a block of the call's own, from block B on. -/
def OwnP (w : World) (B : Nat) (v : Value) (ps : List Prp) : Prop :=
  (v = .slice none 0 0 ∧ ps = []) ∨ ∃ g cap, v = .slice (some ⟨g, 0, none⟩) ps.length cap ∧ B ≤ g ∧ g < w.heap.size ∧ ps.length ≤ cap ∧ cap ≤ 9223372036854775807 ∧ HoldsK Prp.cells 5 w g 0 ps.toArray

theorem cells_len (p : Prp) : (Prp.cells p).length = 5 := rfl
theorem flatK_at (ps : List Prp) (j : Nat) (u : Value) (h : (ps.flatMap Prp.cells)[j]? = some u) : j < (flatK Prp.cells 5 ps.toArray).size ∧ (flatK Prp.cells 5 ps.toArray)[j]! = u := by
  have hl := flat_len Prp.cells 5 cells_len ps
  have hj : j < ps.length * 5 := by rw [← hl]; exact (List.getElem?_eq_some_iff.1 h).1
  refine ⟨by rw [size_flatK]; simpa using hj, ?_⟩
  rw [get_flatK _ _ _ _ (by simpa using hj)]
  rw [flat_get Prp.cells 5 (by omega) cells_len] at h
  obtain ⟨p, hp, hu⟩ := Option.bind_eq_some_iff.1 h
  have e1 : ps.toArray[j / 5]! = p := by
    rw [getElem!_def]
    simp [hp]
  rw [e1, getElem!_def, hu]
theorem holdsK_rc {w : World} {g cap : Nat} {ps : List Prp} (h : HoldsK Prp.cells 5 w g 0 ps.toArray) (h1 : ps.length ≤ cap) (h2 : cap ≤ 9223372036854775807) : RPr w (.slice (some ⟨g, 0, none⟩) ps.length cap) ps := by
  refine ⟨_, cap, rfl, h1, h2, flat_len Prp.cells 5 cells_len ps, (fun h => by cases h), fun j u hu => ⟨_, rfl, ?_⟩⟩
  obtain ⟨a, b⟩ := flatK_at ps j u hu
  have hc := (h j a).1
  rw [b] at hc
  rw [add_plain]
  rw [Nat.zero_add] at hc
  exact hc
theorem ownP_rpr {w : World} {B : Nat} {v : Value} {ps : List Prp} (h : OwnP w B v ps) : RPr w v ps := by
  rcases h with ⟨rfl, rfl⟩ | ⟨g, cap, rfl, _, _, h1, h2, h3⟩
  · exact own_rc (own_nil w 0 59 5)
  · exact holdsK_rc h3 h1 h2
theorem ownP_below {w w1 : World} {B : Nat} {v : Value} {ps : List Prp} (h : OwnP w B v ps) (b : Go.RowKit.Below w.heap.size w w1) : OwnP w1 B v ps := by
  rcases h with h | ⟨g, cap, rfl, h0, h4, h1, h2, h3⟩
  · exact .inl h
  · refine .inr ⟨g, cap, rfl, h0, Nat.lt_of_lt_of_le h4 b.size, h1, h2, fun j hj => ?_⟩
    obtain ⟨a, c⟩ := h3 j hj
    exact ⟨(b.cell (p := ⟨g, 0 + j, none⟩) h4).trans a, (b.frozen (p := ⟨g, 0 + j, none⟩) h4).trans c⟩
theorem own_holdsK {w : World} {B g n cap : Nat} {ps : List Prp} (h : w.ownsRow B 59 5 (.slice (some ⟨g, 0, none⟩) n cap) n (ps.flatMap Prp.cells)) : HoldsK Prp.cells 5 w g 0 ps.toArray ∧ B ≤ g ∧ g < w.heap.size ∧ ps.length = n ∧ n ≤ cap ∧ cap ≤ 9223372036854775807 := by
  have hl := h.1
  rw [flat_len Prp.cells 5 cells_len] at hl
  have hn : ps.length = n := by omega
  have hcell := fun j u hu => h.cells (g := g) rfl j u hu
  rcases h.2 with ⟨h0, _⟩ | ⟨g', cap', cur, he, hb, hh, h1, h2, h3, h4⟩
  · cases h0
  · injection he with e1 e2 e3
    injection e1 with e1
    injection e1 with e1
    subst e1 e3
    refine ⟨fun j hj => ?_, hb, (Array.getElem?_eq_some_iff.1 hh).1, hn, h1, by simpa [maxLen] using h2⟩
    rw [size_flatK] at hj
    have hj' : j < (ps.flatMap Prp.cells).length := by rw [flat_len Prp.cells 5 cells_len]; simpa using hj
    obtain ⟨_, b⟩ := flatK_at ps j _ (List.getElem?_eq_getElem hj')
    rw [b, Nat.zero_add]
    refine ⟨by have hc := hcell j _ (List.getElem?_eq_getElem hj'); rw [add_plain] at hc; exact hc, ?_⟩
    simp [World.frozen?, hh]
theorem rowK_of {w : World} {g : Nat} {ps : List Prp} (h : HoldsK Prp.cells 5 w g 0 ps.toArray) (hg : g < w.heap.size) : RowK Prp.cells 5 w g 0 ps.toArray :=
  ⟨cells_len, fun p v hv => by
    simp only [Prp.cells, List.mem_cons, List.not_mem_nil, or_false] at hv
    rcases hv with rfl | rfl | rfl | rfl | rfl <;> rfl, h, hg⟩
theorem swk_below {w w1 : World} {g : Nat} {dk : Array Prp} (h : SWK Prp.cells 5 w g 0 dk w1) {B : Nat} (hB : B ≤ g) (hs : B ≤ w.heap.size) : Go.RowKit.Below B w w1 := by
  obtain ⟨n, os, rfl⟩ := h
  refine ⟨rfl, rfl, rfl, size_sortWorldK_c Prp.cells 5 w g 0 n dk os, fun i hi => ?_⟩
  have hi2 : i < w.heap.size := by omega
  have hne : ¬ g = i := by omega
  simp [sortWorldK, grow, putRowK, putRow, mapBlock, Sort.ahead, Array.getElem?_append, Array.getElem?_modify, hi2, hne]
  rw [Array.getElem_modify_of_ne hne]
/-- Properties in the order of their names, as the insertion sort leaves them. -/
def sortP (l : List Prp) : List Prp := (Sort.insertionSort (ltOf cfP) l.toArray 0 l.length).toList
theorem sortP_perm (l : List Prp) : (sortP l).Perm l := by
  have h := (insertionSort_holds ltP_swo l.toArray 0 l.length (Nat.zero_le _) (by simp)).1
  unfold sortP
  generalize Sort.insertionSort (ltOf cfP) l.toArray 0 l.length = D at h ⊢
  have h1 := h.1
  have h2 := h.2.2
  have hs : l.toArray.size = l.length := by simp
  have e1 : D.extract 0 l.length = D := by rw [← hs, ← h1]; simp
  have e2 : l.toArray.extract 0 l.length = l.toArray := by rw [← hs]; simp
  rw [e1, e2] at h2
  exact h2.trans (by simp)
def SortPost (w : World) (B : Nat) (v : Value) (ps : List Prp) (e : Ending) (w' : World) : Prop :=
  e = .returned (.tuple #[]) ∧ ∃ qs : List Prp, OwnP w' B v qs ∧ qs.Perm ps ∧ (ps.length < 20 → qs = sortP ps) ∧ Go.RowKit.Below B w w'
theorem sortOwn_c {w : World} {B : Nat} {v : Value} {ps : List Prp} (hB : B ≤ w.heap.size) (h : OwnP w B v ps) (hsz : ps.length < 1152921504606846976) :
    Calls Tryd.prog 57 #[v, .func (.func 58) #[] #[]] w (SortPost w B v ps) := by
  rcases h with ⟨rfl, rfl⟩ | ⟨g, cap, rfl, h0, h4, h1, h2, h3⟩
  · refine sortStable_nil.mono ?_
    rintro e w' ⟨rfl, rfl⟩
    exact ⟨rfl, [], .inl ⟨rfl, rfl⟩, List.Perm.refl _, fun _ => (List.eq_nil_of_length_eq_zero (sortP_perm []).length_eq).symm, Go.RowKit.Below.refl _ _⟩
  · have R := rowK_of h3 h4
    have hc := sortStable_c (cap := cap) R (by simpa using hsz)
    have hsz' : ps.toArray.size = ps.length := by simp
    rw [hsz'] at hc
    refine hc.mono ?_
    rintro e w' ⟨rfl, dk, hd, hp, hx, hS⟩
    have hl : dk.toList.length = ps.length := by rw [Array.length_toList, hd, hsz']
    refine ⟨rfl, dk.toList, .inr ⟨g, cap, by rw [hl], h0, Nat.lt_of_lt_of_le h4 hS.le, by omega, h2, ?_⟩, ?_, fun hl20 => ?_, swk_below hS h0 hB⟩
    · have := hS.holds R.hblk R.hH hd
      simpa using this
    · have := hp.2.2
      rw [hsz'] at this
      have e1 : dk.extract 0 ps.length = dk := by rw [← hsz', ← hd]; simp
      have e2 : ps.toArray.extract 0 ps.length = ps.toArray := by rw [← hsz']; simp
      rw [e1, e2] at this
      simpa using this
    · rw [hx (by rw [hsz']; exact hl20), hsz']
      rfl

/-- Another block's writes, and a block of another kind. -/
theorem own_lt {w : World} {B e s n : Nat} {v : Value} {xs : List Value} (h : w.ownsRow B e s v n xs) {k : Nat} (hk : v.ownBlock = some k) : k < w.heap.size := by
  rcases h.2 with ⟨rfl, _⟩ | ⟨g, cap, cur, rfl, _, hg, _⟩
  · cases hk
  · injection hk with hk
    have e' : g = k := hk
    subst e'
    exact (Array.getElem?_eq_some_iff.1 hg).1
theorem own_ne {w : World} {B e s n b t : Nat} {v : Value} {xs : List Value} {cs : Array Value} {fr : Nat × Nat} (h : w.ownsRow B e s v n xs) (hb : w.heap[b]? = some (.cells cs t fr)) (ht : t ≠ e) : v.ownBlock ≠ some b := by
  intro e'
  rcases h.2 with ⟨rfl, _⟩ | ⟨g, cap, cur, rfl, _, hg, _⟩
  · cases e'
  · injection e' with e'
    have e2 : g = b := e'
    subst e2
    rw [hb] at hg
    injection hg with hg
    injection hg with _ h2 _
    exact ht h2
theorem info_prop : (Tryd.prog.info? 59).map (fun i => (i.zero, i.size, i.bytes)) = some (some (.agg #[.string ByteArray.empty, .int .i64 0, .int .i64 0, .string ByteArray.empty, .float .f64 0]), 5, 56) := by kernel_rfl
theorem cells_one (l : List Prp) : ∀ y ∈ l.flatMap Prp.cells, y.oneCell' = true := by
  intro y hy
  obtain ⟨p, _, hv⟩ := List.mem_flatMap.1 hy
  simp only [Prp.cells, List.mem_cons, List.not_mem_nil, or_false] at hv
  rcases hv with rfl | rfl | rfl | rfl | rfl <;> rfl

/-- A table: its items, in the order of their names. -/
def itemP (s : ByteArray) : Option (Prp × ByteArray) := (shortP s).bind fun p => (valP p.2).map fun q => (⟨p.1, q.1.k, q.1.n, q.1.t, q.1.r⟩, q.2)
def itemsP : Nat → ByteArray → Option (List Prp)
  | 0, s => if s.size = 0 then some [] else none
  | f + 1, s => if s.size = 0 then some [] else (itemP s).bind fun p => (itemsP f p.2).map (p.1 :: ·)
def tabP (l : List Prp) : Option (List Prp) := if l.length < 20 ∧ validB (sortP l) = true then some (sortP l) else none
def tableP (s : ByteArray) : Option (List Prp × ByteArray) := (longP s).bind fun p => ((itemsP p.1.size p.1).bind tabP).map fun l => (l, p.2)

theorem shortP_size {s x r : ByteArray} (h : shortP s = some (x, r)) : x.size ≤ 255 ∧ r.size + x.size + 1 = s.size := by
  unfold shortP at h
  obtain ⟨p, h1, h2⟩ := Option.bind_eq_some_iff.1 h
  obtain ⟨n, y⟩ := p
  have a := numP_lt h1
  have b := numP_size h1
  obtain ⟨c, d⟩ := takeP_size h2
  simp only [Nat.pow_one] at a
  dsimp only at c d
  omega
theorem longP_size {s x r : ByteArray} (h : longP s = some (x, r)) : r.size + x.size + 4 = s.size := by
  unfold longP at h
  obtain ⟨p, h1, h2⟩ := Option.bind_eq_some_iff.1 h
  obtain ⟨n, y⟩ := p
  have b := numP_size h1
  obtain ⟨c, d⟩ := takeP_size h2
  dsimp only at c d
  omega
theorem valQ_size {x r r' : ByteArray} {v : Vl} (h : valQ x r = some (v, r')) : r'.size ≤ r.size := by
  unfold valQ at h
  have key : ∀ {k : Nat} {f : Nat → Vl} {a : ByteArray}, (numP k a).map (fun q => (f q.1, q.2)) = some (v, r') → r'.size ≤ a.size := by
    intro k f a h
    obtain ⟨q, h1, h2⟩ := Option.map_eq_some_iff.1 h
    obtain ⟨n, y⟩ := q
    injection h2 with _ h2
    have := numP_size h1
    dsimp only at h2
    rw [← h2]
    omega
  (repeat' split at h)
  · exact key (f := fun n => ⟨2, n, ByteArray.empty, 0⟩) h
  · exact key (f := fun n => ⟨1, sgn 8 n, ByteArray.empty, 0⟩) h
  · exact key (f := fun n => ⟨1, sgn 16 n, ByteArray.empty, 0⟩) h
  · exact key (f := fun n => ⟨1, sgn 32 n, ByteArray.empty, 0⟩) h
  · exact key (f := fun n => ⟨1, sgn 64 n, ByteArray.empty, 0⟩) h
  · exact key (f := fun n => ⟨4, 0, ByteArray.empty, widR n⟩) h
  · exact key (f := fun n => ⟨4, 0, ByteArray.empty, canonR n⟩) h
  · obtain ⟨q, h1, h2⟩ := Option.map_eq_some_iff.1 h
    obtain ⟨n, y⟩ := q
    injection h2 with _ h2
    have := longP_size h1
    dsimp only at h2
    rw [← h2]
    omega
  · cases h
theorem valP_size {s r : ByteArray} {v : Vl} (h : valP s = some (v, r)) : r.size + 1 ≤ s.size := by
  unfold valP at h
  obtain ⟨p, h1, h2⟩ := Option.bind_eq_some_iff.1 h
  obtain ⟨x, y⟩ := p
  have := (takeP_size h1).2
  have := valQ_size h2
  dsimp only at this
  omega
theorem itemP_size {s r : ByteArray} {p : Prp} (h : itemP s = some (p, r)) : r.size + 2 ≤ s.size ∧ p.nm.size ≤ 255 := by
  unfold itemP at h
  obtain ⟨q, h1, h2⟩ := Option.bind_eq_some_iff.1 h
  obtain ⟨x, y⟩ := q
  obtain ⟨q2, h3, h4⟩ := Option.map_eq_some_iff.1 h2
  obtain ⟨v, z⟩ := q2
  injection h4 with h4 h5
  have a := shortP_size h1
  have b := valP_size h3
  dsimp only at b h5
  subst h5 h4
  exact ⟨by omega, a.1⟩
theorem itemsP_more : ∀ (f : Nat) (s : ByteArray) (k : Nat), s.size ≤ f → itemsP (f + k) s = itemsP s.size s
  | f, s, k, h => by
    have key : ∀ (n : Nat) (s : ByteArray) (f f' : Nat), s.size ≤ n → s.size ≤ f → s.size ≤ f' → itemsP f s = itemsP f' s := by
      intro n
      induction n with
      | zero =>
        intro s f f' h1 _ _
        have h0 : s.size = 0 := by omega
        cases f <;> cases f' <;> simp [itemsP, h0]
      | succ n ih =>
        intro s f f' h1 h2 h3
        by_cases h0 : s.size = 0
        · cases f <;> cases f' <;> simp [itemsP, h0]
        · obtain ⟨f, rfl⟩ : ∃ k, f = k + 1 := ⟨f - 1, by omega⟩
          obtain ⟨f', rfl⟩ : ∃ k, f' = k + 1 := ⟨f' - 1, by omega⟩
          simp only [itemsP, if_neg h0]
          cases hi : itemP s with
          | none => rfl
          | some p =>
            obtain ⟨p, r⟩ := p
            have := (itemP_size hi).1
            simp only [Option.bind_some]
            rw [ih r f f' (by omega) (by omega) (by omega)]
    exact key s.size s _ _ (Nat.le_refl _) (by omega) (Nat.le_refl _)
theorem itemsP_nil {s : ByteArray} (h : s.size = 0) : itemsP s.size s = some [] := by
  rw [h]
  simp [itemsP, h]
theorem itemsP_step {s : ByteArray} (h : s.size ≠ 0) : itemsP s.size s = (itemP s).bind fun p => (itemsP p.2.size p.2).map (p.1 :: ·) := by
  obtain ⟨f, hf⟩ : ∃ k, s.size = k + 1 := ⟨s.size - 1, by omega⟩
  rw [hf]
  simp only [itemsP, if_neg h]
  cases hi : itemP s with
  | none => rfl
  | some p =>
    obtain ⟨p, r⟩ := p
    have := (itemP_size hi).1
    simp only [Option.bind_some]
    have e := itemsP_more r.size r (f - r.size) (Nat.le_refl _)
    rw [show r.size + (f - r.size) = f by omega] at e
    rw [e]
end Go.Proofs.YtbniandbmabdbaaDoor

/- Plain law: a float's bytes tell the float. -/
namespace Go.Proofs.YtbniandbmabdbaaDoor
open Go Go.RowKit
set_option linter.unusedSimpArgs false
set_option linter.unusedVariables false

theorem narB_spec {r n : Nat} (hn : nanB r = false) (h : narB r = some n) : ∃ v, widenE n = some v ∧ Ieee.double.order v r = some .eq ∧ v < 2 ^ 64 := by
  have hw : ∀ d, Ieee.double.write d < 2 ^ 64 := fun d => Ieee.Format.write_lt Ieee.double d
  cases hrd : Ieee.double.read r with
  | nan s t => exact absurd hrd (nar_nan hn s t)
  | infinity s =>
    have e : narB r = some (Ieee.single.write (.infinity s)) := by unfold narB; rw [if_neg (by rw [hn]; decide), hrd]
    rw [e] at h
    injection h with h
    subst h
    refine ⟨Ieee.double.write (.infinity s), by cases s <;> decide, ?_, hw _⟩
    unfold Ieee.Format.order
    rw [hrd, show Ieee.double.read (Ieee.double.write (.infinity s)) = .infinity s by cases s <;> decide]
    cases s <;> rfl
  | number s m e =>
    cases hi : (Ieee.single.read (Ieee.single.write (.number s m e))).isInfinity with
    | true =>
      have en : narB r = none := by unfold narB; rw [if_neg (by rw [hn]; decide), hrd]; show (if _ then _ else _) = _; rw [if_pos hi]
      rw [en] at h
      cases h
    | false =>
      cases hv : widenE (Ieee.single.write (.number s m e)) with
      | none => rw [narB_none hn hrd hi hv] at h; cases h
      | some v =>
        rw [narB_some hn hrd hi hv] at h
        split at h
        · rename_i ho
          injection h with h
          subst h
          refine ⟨v, hv, ho, ?_⟩
          unfold widenE at hv
          split at hv
          · injection hv with hv; rw [← hv]; exact hw _
          · injection hv with hv; rw [← hv]; exact hw _
          · cases hv
        · cases h

theorem narB_inj {r r' n : Nat} (hr : r < 2 ^ 64) (hr' : r' < 2 ^ 64) (hc : r = canonR r) (hc' : r' = canonR r') (h : narB r = some n) (h' : narB r' = some n) : r = r' := by
  have hnan : ∀ x, nanB x = true → narB x = some 2143289344 := fun x hx => by unfold narB; rw [if_pos hx]
  have hwn : widenE 2143289344 = none := by decide
  cases h1 : nanB r with
  | true =>
    cases h2 : nanB r' with
    | true => rw [hc, hc', canonR, canonR, h1, h2]; rfl
    | false =>
      rw [hnan r h1] at h
      injection h with h
      subst h
      obtain ⟨v, hv, _⟩ := narB_spec h2 h'
      rw [hwn] at hv
      cases hv
  | false =>
    cases h2 : nanB r' with
    | true =>
      rw [hnan r' h2] at h'
      injection h' with h'
      subst h'
      obtain ⟨v, hv, _⟩ := narB_spec h1 h
      rw [hwn] at hv
      cases hv
    | false =>
      obtain ⟨v, hv, ho, hl⟩ := narB_spec h1 h
      obtain ⟨v', hv', ho', _⟩ := narB_spec h2 h'
      rw [hv] at hv'
      injection hv' with hv'
      subst hv'
      have z0 : narB 0 = some 0 := by decide +kernel
      have z1 : narB (2 ^ 63) = some (2 ^ 31) := by decide +kernel
      rcases FloatL.order_eq hl hr ho with ⟨a, b⟩ | a
      · rcases FloatL.order_eq hl hr' ho' with ⟨c, d⟩ | c
        · have e1 : r = 0 ∨ r = 2 ^ 63 := by omega
          have e2 : r' = 0 ∨ r' = 2 ^ 63 := by omega
          rcases e1 with rfl | rfl <;> rcases e2 with rfl | rfl
          · rfl
          · rw [z0] at h; rw [z1] at h'; rw [← h] at h'; injection h' with h'; exact absurd h' (by decide)
          · rw [z1] at h; rw [z0] at h'; rw [← h] at h'; injection h' with h'; exact absurd h' (by decide)
          · rfl
        · subst c
          have e1 : r = 0 ∨ r = 2 ^ 63 := by omega
          have e2 : v = 0 ∨ v = 2 ^ 63 := by omega
          rcases e1 with rfl | rfl <;> rcases e2 with rfl | rfl
          · rfl
          · rw [z0] at h; rw [z1] at h'; rw [← h] at h'; injection h' with h'; exact absurd h' (by decide)
          · rw [z1] at h; rw [z0] at h'; rw [← h] at h'; injection h' with h'; exact absurd h' (by decide)
          · rfl
      · subst a
        rcases FloatL.order_eq hl hr' ho' with ⟨c, d⟩ | c
        · have e1 : v = 0 ∨ v = 2 ^ 63 := by omega
          have e2 : r' = 0 ∨ r' = 2 ^ 63 := by omega
          rcases e1 with rfl | rfl <;> rcases e2 with rfl | rfl
          · rfl
          · rw [z0] at h; rw [z1] at h'; rw [← h] at h'; injection h' with h'; exact absurd h' (by decide)
          · rw [z1] at h; rw [z0] at h'; rw [← h] at h'; injection h' with h'; exact absurd h' (by decide)
          · rfl
        · exact c
end Go.Proofs.YtbniandbmabdbaaDoor

/- Plain law: a property list's bytes tell the list. -/
namespace Go.Proofs.YtbniandbmabdbaaDoor
open Go Go.RowKit
set_option linter.unusedSimpArgs false
set_option linter.unusedVariables false

theorem beB_inj {n m k : Nat} (hn : n < 256 ^ k) (hm : m < 256 ^ k) (h : beB n k = beB m k) : n = m := by
  have := congrArg natB h
  rwa [natB_beB, natB_beB, Nat.mod_eq_of_lt hn, Nat.mod_eq_of_lt hm] at this
theorem realB_inj {r r' : Nat} {u u' : List UInt8} (hr : r < 2 ^ 64) (hr' : r' < 2 ^ 64) (hc : r = canonR r) (hc' : r' = canonR r') (h : realB r ++ u = realB r' ++ u') : r = r' ∧ u = u' := by
  unfold realB at h
  cases h1 : narB r with
  | none =>
    rw [h1] at h
    cases h2 : narB r' with
    | none =>
      rw [h2] at h
      simp only [List.cons_append, List.cons.injEq, true_and] at h
      obtain ⟨a, b⟩ := List.append_inj h (by rw [beB_len, beB_len])
      exact ⟨beB_inj (by simpa using hr) (by simpa using hr') a, b⟩
    | some n => rw [h2] at h; simp at h
  | some n =>
    rw [h1] at h
    cases h2 : narB r' with
    | none => rw [h2] at h; simp at h
    | some m =>
      rw [h2] at h
      simp only [List.cons_append, List.cons.injEq, true_and] at h
      obtain ⟨a, b⟩ := List.append_inj h (by rw [beB_len, beB_len])
      have hnm : n = m := beB_inj (by have := narB_lt h1; simpa using this) (by have := narB_lt h2; simpa using this) a
      subst hnm
      exact ⟨narB_inj hr hr' hc hc' h1 h2, b⟩
end Go.Proofs.YtbniandbmabdbaaDoor

/- Plain law: a value's bytes tell the value. -/
namespace Go.Proofs.YtbniandbmabdbaaDoor
open Go Go.RowKit
set_option linter.unusedSimpArgs false
set_option linter.unusedVariables false

/-- The first byte tells the kind. -/
theorem realB_head (r : Nat) (u : List UInt8) : ∃ x l, realB r ++ u = x :: l ∧ x ≠ 108 ∧ x ≠ 116 ∧ x ≠ 83 := by
  unfold realB
  cases narB r with
  | none => exact ⟨100, _, rfl, by decide, by decide, by decide⟩
  | some n => exact ⟨102, _, rfl, by decide, by decide, by decide⟩
def Prp.fit (p : Prp) : Prop := p.good = true ∧ p.r < 2 ^ 64 ∧ -9223372036854775808 ≤ p.n ∧ p.n ≤ 9223372036854775807
theorem val1 {p : Prp} (h : p.k = 1) : valB p = 108 :: beB (p.n % 18446744073709551616).toNat 8 := by unfold valB; rw [if_pos h]
theorem val2 {p : Prp} (h : p.k = 2) : valB p = [116, UInt8.ofNat p.n.toNat] := by unfold valB; rw [if_neg (by omega), if_pos h]
theorem val3 {p : Prp} (h : p.k = 3) : valB p = 83 :: (beB p.t.size 4 ++ p.t.data.toList) := by unfold valB; rw [if_neg (by omega), if_neg (by omega), if_pos h]
theorem val4 {p : Prp} (h : p.k = 4) : valB p = realB p.r := by unfold valB; rw [if_neg (by omega), if_neg (by omega), if_neg (by omega)]
theorem t_eq {s t : ByteArray} (hs : s.size = 0) (ht : t.size = 0) : s = t := by rw [ba_nil hs, ba_nil ht]

theorem valB_inj {p q : Prp} {u u' : List UInt8} (hp : p.fit) (hq : q.fit) (h : valB p ++ u = valB q ++ u') : p.k = q.k ∧ p.n = q.n ∧ p.t = q.t ∧ p.r = q.r ∧ u = u' := by
  obtain ⟨gp, rp, np0, np1⟩ := hp
  obtain ⟨gq, rq, nq0, nq1⟩ := hq
  obtain ⟨x, lx, hx, hx1, hx2, hx3⟩ := realB_head p.r u
  obtain ⟨y, ly, hy, hy1, hy2, hy3⟩ := realB_head q.r u'
  rcases good_of gp with ⟨a, b, c⟩ | ⟨a, b, c, d⟩ | ⟨a, b, c, d⟩ | ⟨a, b, c, d⟩ <;> rcases good_of gq with ⟨a', b', c'⟩ | ⟨a', b', c', d'⟩ | ⟨a', b', c', d'⟩ | ⟨a', b', c', d'⟩
  · rw [val1 a, val1 a'] at h
    simp only [List.cons_append, List.cons.injEq, true_and] at h
    obtain ⟨e, f⟩ := List.append_inj h (by rw [beB_len, beB_len])
    have := beB_inj (k := 8) (by show _ < 18446744073709551616; omega) (by show _ < 18446744073709551616; omega) e
    exact ⟨by omega, by omega, t_eq b b', by omega, f⟩
  · rw [val1 a, val2 a'] at h; simp at h
  · rw [val1 a, val3 a'] at h; simp at h
  · rw [val1 a, val4 a', hy] at h; injection h with h; exact absurd h.symm hy1
  · rw [val2 a, val1 a'] at h; simp at h
  · rw [val2 a, val2 a'] at h
    simp only [List.cons_append, List.cons.injEq, true_and, List.nil_append] at h
    refine ⟨by omega, ?_, t_eq b b', by omega, h.2⟩
    rcases d with d | d <;> rcases d' with d' | d'
    · omega
    · rw [d, d'] at h; exact absurd h.1 (by decide)
    · rw [d, d'] at h; exact absurd h.1 (by decide)
    · omega
  · rw [val2 a, val3 a'] at h; simp at h
  · rw [val2 a, val4 a', hy] at h; injection h with h; exact absurd h.symm hy2
  · rw [val3 a, val1 a'] at h; simp at h
  · rw [val3 a, val2 a'] at h; simp at h
  · rw [val3 a, val3 a'] at h
    simp only [List.cons_append, List.cons.injEq, true_and, List.append_assoc] at h
    obtain ⟨e, f⟩ := List.append_inj h (by rw [beB_len, beB_len])
    have hs := beB_inj (k := 4) (by show _ < 4294967296; omega) (by show _ < 4294967296; omega) e
    obtain ⟨f1, f2⟩ := List.append_inj f (by rw [ba_size, ba_size, hs])
    exact ⟨by omega, by omega, ba_ext f1, by omega, f2⟩
  · rw [val3 a, val4 a', hy] at h; injection h with h; exact absurd h.symm hy3
  · rw [val4 a, val1 a', hx] at h; injection h with h; exact absurd h hx1
  · rw [val4 a, val2 a', hx] at h; injection h with h; exact absurd h hx2
  · rw [val4 a, val3 a', hx] at h; injection h with h; exact absurd h hx3
  · rw [val4 a, val4 a'] at h
    obtain ⟨e, f⟩ := realB_inj rp rq d d' h
    exact ⟨by omega, by omega, t_eq c c', e, f⟩

theorem propB_inj {p q : Prp} {u u' : List UInt8} (np : p.nm.size ≤ 16) (nq : q.nm.size ≤ 16) (hp : p.fit) (hq : q.fit) (h : propB p ++ u = propB q ++ u') : p = q ∧ u = u' := by
  unfold propB at h
  simp only [List.cons_append, List.cons.injEq, List.append_assoc] at h
  obtain ⟨h1, h2⟩ := h
  have hs : p.nm.size = q.nm.size := by
    have := congrArg UInt8.toNat h1
    rw [UInt8.toNat_ofNat', UInt8.toNat_ofNat', Nat.mod_eq_of_lt (by omega), Nat.mod_eq_of_lt (by omega)] at this
    exact this
  obtain ⟨a, b⟩ := List.append_inj h2 (by rw [ba_size, ba_size, hs])
  obtain ⟨e1, e2, e3, e4, e5⟩ := valB_inj hp hq b
  have e0 := ba_ext a
  refine ⟨?_, e5⟩
  cases p; cases q
  simp_all
theorem propsB_inj : ∀ (ps qs : List Prp), (∀ p ∈ ps, p.nm.size ≤ 16 ∧ p.fit) → (∀ q ∈ qs, q.nm.size ≤ 16 ∧ q.fit) → propsB ps = propsB qs → ps = qs
  | [], [], _, _, _ => rfl
  | [], q :: r, _, _, h => by simp [propsB, propB] at h
  | p :: r, [], _, _, h => by simp [propsB, propB] at h
  | p :: r, q :: r', hp, hq, h => by
    have e1 : propsB (p :: r) = propB p ++ propsB r := by simp [propsB]
    have e2 : propsB (q :: r') = propB q ++ propsB r' := by simp [propsB]
    rw [e1, e2] at h
    have a := hp p (List.mem_cons_self ..)
    have b := hq q (List.mem_cons_self ..)
    obtain ⟨x, y⟩ := propB_inj a.1 b.1 a.2 b.2 h
    rw [x, propsB_inj r r' (fun z hz => hp z (List.mem_cons_of_mem _ hz)) (fun z hz => hq z (List.mem_cons_of_mem _ hz)) y]
end Go.Proofs.YtbniandbmabdbaaDoor

/- Plain law: a valid list's bytes are read as the list. -/
namespace Go.Proofs.YtbniandbmabdbaaDoor
open Go Go.Proofs Go.RowKit
set_option linter.unusedSimpArgs false
set_option linter.unusedVariables false

def bs (l : List UInt8) : ByteArray := ⟨l.toArray⟩
theorem bs_size (l : List UInt8) : (bs l).size = l.length := by unfold bs; show l.toArray.size = _; simp
theorem bs_list (l : List UInt8) : (bs l).data.toList = l := by simp [bs]
theorem bs_of (s : ByteArray) : bs s.data.toList = s := ba_ext (bs_list _)
theorem ba_extract (s : ByteArray) (a b : Nat) : (s.extract a b).data.toList = (s.data.toList.take b).drop a := by
  rw [Lib.extract_data, List.drop_take]
theorem bs_extract (l : List UInt8) (a b : Nat) : (bs l).extract a b = bs ((l.take b).drop a) := by
  apply ba_ext
  rw [bs_list, ba_extract, bs_list]
theorem takeP_app (x r : List UInt8) : takeP x.length (bs (x ++ r)) = some (bs x, bs r) := by
  unfold takeP
  rw [if_pos (by rw [bs_size, List.length_append]; omega), bs_extract, bs_extract]
  have e1 : (x ++ r).take (x.length + r.length) = x ++ r := List.take_of_length_le (by rw [List.length_append]; omega)
  simp [bs_size, e1]
theorem takeP_short {n : Nat} {l : List UInt8} (h : l.length < n) : takeP n (bs l) = none := by
  unfold takeP
  rw [if_neg (by rw [bs_size]; omega)]
theorem numP_app (k n : Nat) (hn : n < 256 ^ k) (r : List UInt8) : numP k (bs (beB n k ++ r)) = some (n, bs r) := by
  have h := takeP_app (beB n k) r
  rw [beB_len] at h
  unfold numP
  rw [h]
  simp only [Option.map_some, bs_list]
  rw [natB_beB, Nat.mod_eq_of_lt hn]
theorem numP_short {k : Nat} {l : List UInt8} (h : l.length < k) : numP k (bs l) = none := by
  unfold numP
  rw [takeP_short h]
  rfl
theorem longP_app (x r : List UInt8) (hx : x.length < 4294967296) : longP (bs (beB x.length 4 ++ (x ++ r))) = some (bs x, bs r) := by
  unfold longP
  rw [numP_app 4 x.length hx]
  exact takeP_app x r
theorem shortP_app (x r : List UInt8) (hx : x.length < 256) : shortP (bs (UInt8.ofNat x.length :: (x ++ r))) = some (bs x, bs r) := by
  have h : UInt8.ofNat x.length :: (x ++ r) = beB x.length 1 ++ (x ++ r) := by simp [beB, dig]
  unfold shortP
  rw [h, numP_app 1 x.length hx]
  exact takeP_app x r
theorem takeP_one (c : UInt8) (r : List UInt8) : takeP 1 (bs (c :: r)) = some (⟨#[c]⟩, bs r) := takeP_app [c] r

theorem sgn64 (n : Int) (h0 : -9223372036854775808 ≤ n) (h1 : n ≤ 9223372036854775807) : sgn 64 (n % 18446744073709551616).toNat = n := by
  unfold sgn
  show (if _ < 9223372036854775808 then _ else _ - 18446744073709551616) = n
  split <;> omega
theorem widR_back {r n : Nat} (hr : r < 2 ^ 64) (hc : r = canonR r) (h : narB r = some n) : widR n = r := by
  by_cases hn : nanB r = true
  · have e : r = 9221120237041090561 := by rw [hc]; unfold canonR; rw [if_pos hn]
    have e2 : n = 2143289344 := by
      unfold narB at h
      rw [if_pos hn] at h
      injection h with h
      exact h.symm
    rw [e, e2]
    decide +kernel
  · have hn' : nanB r = false := by simpa using hn
    obtain ⟨v, hv, ho, hv64⟩ := narB_spec hn' h
    rcases FloatL.order_eq hv64 hr ho with ⟨_, hz⟩ | e
    · have h2 : r = 0 ∨ r = 9223372036854775808 := by
        have : (2 : Nat) ^ 63 = 9223372036854775808 := by decide
        have : (2 : Nat) ^ 64 = 18446744073709551616 := by decide
        omega
      rcases h2 with rfl | rfl
      · have e : narB 0 = some 0 := by decide +kernel
        rw [e] at h
        injection h with h
        rw [← h]
        decide +kernel
      · have e : narB 9223372036854775808 = some 2147483648 := by decide +kernel
        rw [e] at h
        injection h with h
        rw [← h]
        decide +kernel
    · subst e
      unfold widR
      rw [hv]
      exact hc.symm

theorem valP_app {p : Prp} (hp : p.fit) (r : List UInt8) : valP (bs (valB p ++ r)) = some (⟨p.k, p.n, p.t, p.r⟩, bs r) := by
  obtain ⟨gp, rp, np0, np1⟩ := hp
  rcases good_of gp with ⟨a, b, c⟩ | ⟨a, b, c, d⟩ | ⟨a, b, c, d⟩ | ⟨a, b, c, d⟩
  · rw [val1 a, List.cons_append]
    unfold valP
    rw [takeP_one, Option.bind_some]
    show valQ ⟨#[108]⟩ _ = _
    unfold valQ
    rw [if_neg (by decide), if_neg (by decide), if_neg (by decide), if_neg (by decide), if_pos rfl, numP_app 8 _ (by show _ < 18446744073709551616; omega), Option.map_some]
    rw [sgn64 _ np0 np1, ba_nil b, a, c]
  · rw [val2 a, List.cons_append, List.cons_append, List.nil_append]
    unfold valP
    rw [takeP_one, Option.bind_some]
    show valQ ⟨#[116]⟩ _ = _
    unfold valQ
    have h := numP_app 1 p.n.toNat (by rw [Nat.pow_one]; omega) r
    rw [show beB p.n.toNat 1 ++ r = UInt8.ofNat p.n.toNat :: r by simp [beB, dig]] at h
    rw [if_pos rfl, h, Option.map_some]
    rw [ba_nil b, a, c, show ((p.n.toNat : Nat) : Int) = p.n by omega]
  · rw [val3 a, List.cons_append, List.append_assoc]
    unfold valP
    rw [takeP_one, Option.bind_some]
    show valQ ⟨#[83]⟩ _ = _
    unfold valQ
    have h := longP_app p.t.data.toList r (by rw [ba_size]; omega)
    rw [ba_size] at h
    rw [if_neg (by decide), if_neg (by decide), if_neg (by decide), if_neg (by decide), if_neg (by decide), if_neg (by decide), if_neg (by decide), if_pos rfl, h, Option.map_some]
    rw [bs_of, a, b, c]
  · rw [val4 a]
    unfold realB
    cases hn : narB p.r with
    | some n =>
      dsimp only
      rw [List.cons_append]
      unfold valP
      rw [takeP_one, Option.bind_some]
      show valQ ⟨#[102]⟩ _ = _
      unfold valQ
      rw [if_neg (by decide), if_neg (by decide), if_neg (by decide), if_neg (by decide), if_neg (by decide), if_pos rfl, numP_app 4 n (narB_lt hn), Option.map_some]
      rw [widR_back rp d hn, ba_nil c, a, b]
    | none =>
      dsimp only
      rw [List.cons_append]
      unfold valP
      rw [takeP_one, Option.bind_some]
      show valQ ⟨#[100]⟩ _ = _
      unfold valQ
      rw [if_neg (by decide), if_neg (by decide), if_neg (by decide), if_neg (by decide), if_neg (by decide), if_neg (by decide), if_pos rfl, numP_app 8 p.r rp, Option.map_some]
      dsimp only
      rw [← d, ba_nil c, a, b]
theorem itemP_app {p : Prp} (hn : p.nm.size ≤ 16) (hp : p.fit) (r : List UInt8) : itemP (bs (propB p ++ r)) = some (p, bs r) := by
  unfold itemP propB
  have h := shortP_app p.nm.data.toList (valB p ++ r) (by rw [ba_size]; omega)
  rw [ba_size] at h
  rw [List.cons_append, List.append_assoc, h, Option.bind_some]
  dsimp only
  rw [valP_app hp, Option.map_some, bs_of]
theorem itemsP_app : ∀ (ps : List Prp), (∀ p ∈ ps, p.nm.size ≤ 16 ∧ p.fit) → itemsP (bs (propsB ps)).size (bs (propsB ps)) = some ps
  | [], _ => itemsP_nil (by rw [bs_size]; rfl)
  | p :: r, h => by
    have e : propsB (p :: r) = propB p ++ propsB r := by simp [propsB]
    rw [e, itemsP_step (by rw [bs_size]; unfold propB; simp), itemP_app (h p (List.mem_cons_self ..)).1 (h p (List.mem_cons_self ..)).2, Option.bind_some]
    dsimp only
    rw [itemsP_app r (fun q hq => h q (List.mem_cons_of_mem _ hq))]
    rfl

/-! ### A sorted list is sorted as it is; a table's bytes -/
open Go.Sort in
theorem insOuter_id {d : Array Prp} {b : Nat} (h : ∀ i, 0 < i → i < b → ltOf cfP d[i]! d[i - 1]! = false) : ∀ (n i : Nat), b - i ≤ n → 0 < i → insOuter (ltOf cfP) 0 b i d = d
  | 0, i, hn, h0 => insOuter_stop _ _ _ _ _ (by omega)
  | n + 1, i, hn, h0 => by
    by_cases hi : i < b
    · rw [insOuter_go _ _ _ _ _ hi, insInner_stop _ _ _ _ (.inr (h i h0 hi))]
      exact insOuter_id h n (i + 1) (by omega) (by omega)
    · exact insOuter_stop _ _ _ _ _ hi
theorem valid_lt : ∀ (ps : List Prp) (o : Option ByteArray), validL o ps = true → ∀ i p q, ps[i]? = some p → ps[i + 1]? = some q → Go.Op.bytesLess p.nm.toList q.nm.toList = true
  | [], _, _, _, _, _, hp, _ => by simp at hp
  | a :: r, o, h, i, p, q, hp, hq => by
    have hr : validL (some a.nm) r = true := by
      cases o <;> (unfold validL at h; simp only [Bool.and_eq_true] at h; exact h.2)
    cases i with
    | zero =>
      simp only [List.getElem?_cons_zero, Option.some.injEq] at hp
      subst hp
      cases r with
      | nil => simp at hq
      | cons b r =>
        simp only [List.getElem?_cons_succ, List.getElem?_cons_zero, Option.some.injEq] at hq
        subst hq
        unfold validL at hr
        simp only [Bool.and_eq_true] at hr
        exact hr.1.2
    | succ i => exact valid_lt r _ hr i p q (by simpa using hp) (by simpa using hq)
theorem less_iff (a b : ByteArray) : Go.Op.bytesLess a.toList b.toList = true ↔ a.data.toList < b.data.toList := by
  rw [bytesLess_eq, decide_eq_true_eq, ByteArray.toList_eq, ByteArray.toList_eq]
theorem sortP_valid {ps : List Prp} (h : validB ps = true) : sortP ps = ps := by
  have hv : validL none ps = true := by unfold validB at h; simp only [Bool.and_eq_true] at h; exact h.1
  have hl := valid_lt ps none hv
  unfold sortP Sort.insertionSort
  rw [insOuter_id (d := ps.toArray) (b := ps.length) ?_ ps.length 1 (by omega) (by omega)]
  intro i h0 hi
  obtain ⟨j, rfl⟩ : ∃ j, i = j + 1 := ⟨i - 1, by omega⟩
  have h1 := hl j ps[j] ps[j + 1] (List.getElem?_eq_getElem (by omega)) (List.getElem?_eq_getElem hi)
  rw [less_iff] at h1
  have e1 : ps.toArray[j + 1]! = ps[j + 1] := by simp [getElem!_def, hi]
  have e2 : ps.toArray[j + 1 - 1]! = ps[j] := by simp [getElem!_def, show j < ps.length by omega]
  rw [e1, e2, ltP_no]
  exact fun h2 => List.lt_irrefl _ (List.lt_trans h1 h2)
theorem tabP_valid {ps : List Prp} (h : validB ps = true) : tabP ps = some ps := by
  have := valid_len h
  unfold tabP
  rw [sortP_valid h, if_pos ⟨by omega, h⟩]
/-- What table.Put writes. -/
def putB (ps : List Prp) : List UInt8 := beB (propsB ps).length 4 ++ propsB ps
theorem fit_of {ps : List Prp} (h : validB ps = true) (hf : ∀ p ∈ ps, p.r < 2 ^ 64 ∧ -9223372036854775808 ≤ p.n ∧ p.n ≤ 9223372036854775807) : ∀ p ∈ ps, p.nm.size ≤ 16 ∧ p.fit := fun p hp => by
  obtain ⟨v1, v2⟩ := valid_all h p hp
  obtain ⟨q1, q2, q3⟩ := hf p hp
  unfold nameB at v1
  simp only [Bool.and_eq_true, decide_eq_true_eq] at v1
  exact ⟨v1.1.2, v2, q1, q2, q3⟩
theorem props_small {ps : List Prp} (h : validB ps = true) : (propsB ps).length ≤ 4448 := by
  have l1 := propsB_len ps (valid_all h)
  have m1 := valid_len h
  omega
theorem tableP_put {ps : List Prp} (h : validB ps = true) (hf : ∀ p ∈ ps, p.r < 2 ^ 64 ∧ -9223372036854775808 ≤ p.n ∧ p.n ≤ 9223372036854775807) (more : List UInt8) : tableP (bs (putB ps ++ more)) = some (ps, bs more) := by
  have hs := props_small h
  unfold tableP putB
  rw [List.append_assoc, longP_app _ _ (by omega), Option.bind_some]
  dsimp only
  rw [itemsP_app ps (fit_of h hf), Option.bind_some, tabP_valid h]
  rfl
/-- Nothing shorter is a table. -/
theorem tableP_short {ps : List Prp} (h : validB ps = true) {k : Nat} (hk : k < (putB ps).length) : tableP (bs ((putB ps).take k)) = none := by
  have hs := props_small h
  have hl : longP (bs ((putB ps).take k)) = none := by
    unfold longP
    by_cases h4 : k < 4
    · rw [numP_short (by rw [List.length_take]; omega)]
      rfl
    · have e : (putB ps).take k = beB (propsB ps).length 4 ++ (propsB ps).take (k - 4) := by
        unfold putB
        rw [List.take_append, List.take_of_length_le (by rw [beB_len]; omega), beB_len]
      rw [e, numP_app 4 _ (by show _ < 4294967296; omega), Option.bind_some]
      refine takeP_short ?_
      unfold putB at hk
      rw [List.length_append, beB_len] at hk
      rw [List.length_take]
      omega
  unfold tableP
  rw [hl]
  rfl
end Go.Proofs.YtbniandbmabdbaaDoor

/- Layer 16: Head. -/
namespace Go.Proofs.YtbniandbmabdbaaDoor
open Go Go.RowKit
set_option linter.unusedSimpArgs false
set_option linter.unusedVariables false

theorem afb (n : Nat) : ∀ k, Af.beB n k = beB n k
  | 0 => rfl
  | k + 1 => by rw [Af.beB, beB, afb n k]; rfl
theorem afn (l : List UInt8) : Af.natB l = natB l := rfl
theorem hput_c {w : World} {base : Nat} {v : Value} {l : List UInt8} (h : OB w base v l) (hB : base ≤ w.heap.size) (hl : l.length ≤ 70368744177664) (n k : Nat) (hn : n < 9223372036854775808) (hk : k ≤ 8) (ni ki : Int) (hni : ni = (n : Int)) (hki : ki = (k : Int)) :
    Calls Tryd.prog 20 #[v, .int .i64 ni, .int .i64 ki] w fun e w' => ∃ v', e = .returned v' ∧ OB w' base v' (l ++ beB n k) ∧ Below base w w' := by
  have := Af.put_c2 h hB hl n k hn hk ni ki hni hki
  rw [afb] at this
  exact this
/-- A content header's bytes. -/
def flagsB (ps : List Prp) : Nat := if ps = [] then 4096 else 12288
def headB (size : Nat) (ps : List Prp) (d : Bool) : List UInt8 := beB 60 2 ++ beB 0 2 ++ beB size 8 ++ beB (flagsB ps) 2 ++ (if ps = [] then [] else putB ps) ++ beB (if d then 2 else 1) 1
def HeadPost (w : World) (size : Int) (ps : List Prp) (d : Bool) (e : Ending) (w' : World) : Prop :=
  Below w.heap.size w w' ∧ if 0 ≤ size ∧ size ≤ 1024 then (if validB ps = true then ∃ v, e = .returned (.tuple #[v, .int .i64 0]) ∧ OB w' w.heap.size v (headB size.toNat ps d) else e = .returned (.tuple #[.slice none 0 0, .int .i64 36])) else e = .returned (.tuple #[.slice none 0 0, .int .i64 1])
theorem head_arg {w w' : World} {size : Int} {ps : List Prp} {d : Bool} (h : ¬ (0 ≤ size ∧ size ≤ 1024)) (b : Below w.heap.size w w') : HeadPost w size ps d (.returned (.tuple #[.slice none 0 0, .int .i64 1])) w' := ⟨b, by rw [if_neg h]⟩
theorem head_msg {w w' : World} {size : Int} {ps : List Prp} {d : Bool} (h : 0 ≤ size ∧ size ≤ 1024) (hv : validB ps = false) (b : Below w.heap.size w w') : HeadPost w size ps d (.returned (.tuple #[.slice none 0 0, .int .i64 36])) w' := ⟨b, by rw [if_pos h, hv]; simp⟩
theorem head_ok {w w' : World} {size : Int} {ps : List Prp} {d : Bool} {v : Value} (h : 0 ≤ size ∧ size ≤ 1024) (hv : validB ps = true) (b : Below w.heap.size w w') (o : OB w' w.heap.size v (headB size.toNat ps d)) : HeadPost w size ps d (.returned (.tuple #[v, .int .i64 0])) w' := ⟨b, by rw [if_pos h, if_pos hv]; exact ⟨v, rfl, o⟩⟩

theorem rc_form' {w : World} {v : Value} {n s : Nat} {cs : List Value} (h : RC w v n s cs) : ∃ A c, v = .slice A n c ∧ n ≤ c ∧ c ≤ 9223372036854775807 := by
  obtain ⟨A, c, e, h1, h2, _⟩ := h
  exact ⟨A, c, e, h1, h2⟩
theorem putBad_c {w : World} {v vl : Value} {ps : List Prp} (hp : RPr w vl ps) (hsz : ∀ p ∈ ps, p.nm.size ≤ 140737488351232) (hv : validB ps = false) :
    Calls Tryd.prog 26 #[v, vl] w fun e w' => e = .returned (.tuple #[.slice none 0 0, .int .i64 36]) ∧ Below w.heap.size w w' := by
  have HV := Lib.hid (valid_c hp hsz)
  rw [hv] at HV
  clear hp hsz hv
  go_enter Tryd.func26, Tryd.ntmps26
  go_wp2_with fail
  refine (HV.out).mono ?_
  rintro e w1 ⟨rfl, b1⟩
  go_wp2_with fail
  go_ret2
  exact ⟨rfl, b1⟩

/-- The first four fields. -/
def pre4 (size f : Nat) : List UInt8 := [] ++ beB 60 2 ++ beB 0 2 ++ beB size 8 ++ beB f 2
theorem pre4_len (size f : Nat) : (pre4 size f).length = 14 := by simp [pre4, beB_len]
set_option maxRecDepth 1000000 in
set_option maxHeartbeats 4000000 in
theorem ahead_c {w : World} (size : Int) {vl : Value} {ps : List Prp} (d : Bool) (hp : RPr w vl ps) (hc : ∀ p ∈ ps, p.nm.size ≤ 140737488351232) (hr : ∀ p ∈ ps, p.r < 18446744073709551616) :
    Calls Tryd.prog 14 #[.int .i64 size, vl, .bool d] w (HeadPost w size ps d) := by
  obtain ⟨A, c, rfl, hc1, hc2⟩ := rc_form' hp
  by_cases h0 : size < 0
  · have HN := Lib.hid (show ¬ (0 ≤ size ∧ size ≤ 1024) by omega)
    go_enter Tryd.func14, Tryd.ntmps14
    go_wp2_with fail
    go_ret2
    exact head_arg HN.out (Below.refl _ _)
  · have h0' : 0 ≤ size := by omega
    by_cases h1 : 1024 < size
    · have HN := Lib.hid (show ¬ (0 ≤ size ∧ size ≤ 1024) by omega)
      clear h0
      go_enter Tryd.func14, Tryd.ntmps14
      go_wp2_with fail
      go_ret2
      exact head_arg HN.out (Below.refl _ _)
    · have h1' : size ≤ 1024 := by omega
      have HS := Lib.hid (show 0 ≤ size ∧ size ≤ 1024 from ⟨h0', h1'⟩)
      clear h0 h1
      obtain ⟨n, rfl⟩ := Int.eq_ofNat_of_zero_le h0'
      have HP := Lib.hid hp
      have HC := Lib.hid hc
      have HR := Lib.hid hr
      have hn9 := Lib.hid (show n < 9223372036854775808 by omega)
      clear hp hc hr
      have key : ∀ (f : Nat) (hf : f = 4096 ∨ f = 12288), Calls Tryd.prog 20 #[.slice none 0 0, .int .i64 60, .int .i64 2] w fun e w1 => ∃ v1, e = .returned v1 ∧ OB w1 w.heap.size v1 ([] ++ beB 60 2) ∧ Below w.heap.size w w1 := fun f hf =>
        hput_c (base := w.heap.size) (ob_nil _ _) (Nat.le_refl _) (by simp) 60 2 (by omega) (by omega) 60 2 rfl rfl
      cases ps with
      | nil =>
        go_enter Tryd.func14, Tryd.ntmps14
        go_wp2_with fail
        refine (key 4096 (.inl rfl)).mono ?_
        rintro e w1 ⟨v1, rfl, o1, b1⟩
        go_wp2_with fail
        refine (hput_c (base := w.heap.size) o1 b1.size (by simp [beB_len]) 0 2 (by omega) (by omega) 0 2 rfl rfl).mono ?_
        rintro e w2 ⟨v2, rfl, o2, b2⟩
        have B2 := b1.trans b2
        go_wp2_with fail
        refine (hput_c (base := w.heap.size) o2 B2.size (by simp [beB_len]) n 8 hn9.out (by omega) n 8 rfl rfl).mono ?_
        rintro e w3 ⟨v3, rfl, o3, b3⟩
        have B3 := B2.trans b3
        go_wp2_with fail
        refine (hput_c (base := w.heap.size) o3 B3.size (by simp [beB_len]) 4096 2 (by omega) (by omega) 4096 2 rfl rfl).mono ?_
        rintro e w4 ⟨v4, rfl, o4, b4⟩
        have B4 := B3.trans b4
        have O4 := Lib.hid (show OB w4 w.heap.size v4 (pre4 n 4096) from o4)
        have hv0 : validB [] = true := by decide
        have HPT := Lib.hid (put_c (base := 0) (ob_rb o4) (by simp [beB_len]) (rc_below HP.out B4) (by simp) (by simp) hv0)
        clear o1 b1 o2 b2 o3 b3 o4 b4 B2 B3
        cases d with
        | true =>
          go_wp2_with fail
          refine (HPT.out).mono ?_
          rintro e w5 ⟨v5, rfl, _, b5⟩
          have o5 := own_below O4.out b5
          have B5 := B4.trans (b5.mono B4.size)
          go_wp2_with fail
          refine (hput_c (base := w.heap.size) o5 B5.size (by rw [pre4_len]; omega) 2 1 (by omega) (by omega) 2 1 rfl rfl).mono ?_
          rintro e w6 ⟨v6, rfl, o6, b6⟩
          have O6 := Lib.hid o6
          clear o5 o6
          go_wp2_with fail
          go_ret2
          exact head_ok HS.out hv0 (B5.trans b6) (by have := O6.out; unfold headB flagsB; rw [if_pos rfl, if_pos rfl]; simpa [pre4] using this)
        | false =>
          go_wp2_with fail
          refine (HPT.out).mono ?_
          rintro e w5 ⟨v5, rfl, _, b5⟩
          have o5 := own_below O4.out b5
          have B5 := B4.trans (b5.mono B4.size)
          go_wp2_with fail
          refine (hput_c (base := w.heap.size) o5 B5.size (by rw [pre4_len]; omega) 1 1 (by omega) (by omega) 1 1 rfl rfl).mono ?_
          rintro e w6 ⟨v6, rfl, o6, b6⟩
          have O6 := Lib.hid o6
          clear o5 o6
          go_wp2_with fail
          go_ret2
          exact head_ok HS.out hv0 (B5.trans b6) (by have := O6.out; unfold headB flagsB; rw [if_pos rfl, if_pos rfl]; simpa [pre4] using this)
      | cons p ps =>
        have hl0 : (0 : Int) < (ps.length : Int) + 1 := by omega
        have hor : bits BinOp.or IntKind.i64 4096 8192 = 12288 := by kernel_rfl
        clear hc1 hc2
        go_enter Tryd.func14, Tryd.ntmps14
        go_wp2_with fail
        refine (key 4096 (.inl rfl)).mono ?_
        rintro e w1 ⟨v1, rfl, o1, b1⟩
        go_wp2_with fail
        refine (hput_c (base := w.heap.size) o1 b1.size (by simp [beB_len]) 0 2 (by omega) (by omega) 0 2 rfl rfl).mono ?_
        rintro e w2 ⟨v2, rfl, o2, b2⟩
        have B2 := b1.trans b2
        go_wp2_with fail
        refine (hput_c (base := w.heap.size) o2 B2.size (by simp [beB_len]) n 8 hn9.out (by omega) n 8 rfl rfl).mono ?_
        rintro e w3 ⟨v3, rfl, o3, b3⟩
        have B3 := B2.trans b3
        go_wp2_with fail
        refine (hput_c (base := w.heap.size) o3 B3.size (by simp [beB_len]) 12288 2 (by omega) (by omega) _ 2 rfl rfl).mono ?_
        rintro e w4 ⟨v4, rfl, o4, b4⟩
        have B4 := B3.trans b4
        have O4 := Lib.hid (show OB w4 w.heap.size v4 (pre4 n 12288) from o4)
        clear o1 b1 o2 b2 o3 b3 o4 b4 B2 B3
        cases hv : validB (p :: ps) with
        | false =>
          have HPT := Lib.hid (putBad_c (v := v4) (rc_below HP.out B4) HC.out hv)
          have HV := Lib.hid hv
          clear hv
          cases d with
          | true =>
            go_wp2_with fail
            refine (HPT.out).mono ?_
            rintro e w5 ⟨rfl, b5⟩
            go_wp2_with fail
            go_ret2
            exact head_msg HS.out HV.out (B4.trans (b5.mono B4.size))
          | false =>
            go_wp2_with fail
            refine (HPT.out).mono ?_
            rintro e w5 ⟨rfl, b5⟩
            go_wp2_with fail
            go_ret2
            exact head_msg HS.out HV.out (B4.trans (b5.mono B4.size))
        | true =>
          have HPT := Lib.hid (put_c (base := 0) (ob_rb O4.out) (by rw [pre4_len]; omega) (rc_below HP.out B4) HC.out HR.out hv)
          have HPL := Lib.hid (props_small hv)
          have HV := Lib.hid hv
          clear hv
          cases d with
          | true =>
            go_wp2_with fail
            refine (HPT.out).mono ?_
            rintro e w5 ⟨v5, rfl, o5, b5⟩
            have O5 := Lib.hid (own_lower o5 B4.size)
            have B5 := B4.trans (b5.mono B4.size)
            clear o5 b5
            go_wp2_with fail
            refine (hput_c (base := w.heap.size) O5.out B5.size (by have := HPL.out; rw [List.length_append, List.length_append, pre4_len, beB_len]; omega) 2 1 (by omega) (by omega) 2 1 rfl rfl).mono ?_
            rintro e w6 ⟨v6, rfl, o6, b6⟩
            have O6 := Lib.hid o6
            clear o6
            go_wp2_with fail
            go_ret2
            exact head_ok HS.out HV.out (B5.trans b6) (by have := O6.out; unfold headB flagsB; rw [if_neg (by simp), if_neg (by simp)]; unfold putB; simpa [pre4] using this)
          | false =>
            go_wp2_with fail
            refine (HPT.out).mono ?_
            rintro e w5 ⟨v5, rfl, o5, b5⟩
            have O5 := Lib.hid (own_lower o5 B4.size)
            have B5 := B4.trans (b5.mono B4.size)
            clear o5 b5
            go_wp2_with fail
            refine (hput_c (base := w.heap.size) O5.out B5.size (by have := HPL.out; rw [List.length_append, List.length_append, pre4_len, beB_len]; omega) 1 1 (by omega) (by omega) 1 1 rfl rfl).mono ?_
            rintro e w6 ⟨v6, rfl, o6, b6⟩
            have O6 := Lib.hid o6
            clear o6
            go_wp2_with fail
            go_ret2
            exact head_ok HS.out HV.out (B5.trans b6) (by have := O6.out; unfold headB flagsB; rw [if_neg (by simp), if_neg (by simp)]; unfold putB; simpa [pre4] using this)
end Go.Proofs.YtbniandbmabdbaaDoor

/- Layer 15: the reader's tables. -/
namespace Go.Proofs.YtbniandbmabdbaaDoor
open Go Go.RowKit
set_option linter.unusedSimpArgs false
set_option linter.unusedVariables false

/-- What a table's reading leaves. -/
def TabPost (w : World) (g : Nat) (o : Option (List Prp × ByteArray)) (e : Ending) (w' : World) : Prop :=
  w.grownBy w' (some g) ∧ match o with
    | some (ps, r) => ∃ v, e = .returned v ∧ OwnP w' w.heap.size v ps ∧ RD w' g r
    | none => e = StopE
theorem tab_none {w w' : World} {g : Nat} {o : Option (List Prp × ByteArray)} {e : Ending} (ho : o = none) (hg : w.grownBy w' (some g)) (he : e = StopE) : TabPost w g o e w' := by
  subst ho
  exact ⟨hg, he⟩
theorem tab_some {w w' : World} {g : Nat} {o : Option (List Prp × ByteArray)} {ps : List Prp} {r : ByteArray} {v : Value} (ho : o = some (ps, r)) (hg : w.grownBy w' (some g)) (hv : OwnP w' w.heap.size v ps) (hr : RD w' g r) : TabPost w g o (.returned v) w' := by
  subst ho
  exact ⟨hg, v, rfl, hv, hr⟩
structure TI (w1 wr : World) (g2 : Nat) (x : ByteArray) (v : Value) (acc : List Prp) (y : ByteArray) : Prop where
  rd : RD wr g2 y
  own : wr.ownsRow w1.heap.size 59 5 v acc.length (acc.flatMap Prp.cells)
  bel : Below w1.heap.size w1 wr
  tot : itemsP x.size x = (itemsP y.size y).map (acc ++ ·)
  len : acc.length + y.size ≤ x.size
  nms : ∀ p ∈ acc, p.nm.size ≤ 255
theorem below_grown {B : Nat} {a w w' : World} {g : Nat} (h : Below B a w) (hg : w.grownBy w' (some g)) (hB : B ≤ g) (hs : B ≤ w.heap.size) : Below B a w' :=
  h.trans ⟨hg.os, hg.tape, hg.output, hg.size, fun k hk => hg.block k (by omega) (fun e => by injection e with e; omega)⟩
theorem items_stop {x y : ByteArray} {acc : List Prp} (h : itemsP x.size x = (itemsP y.size y).map (acc ++ ·)) (hy : y.size ≠ 0) (hi : itemP y = none) : itemsP x.size x = none := by
  rw [h, itemsP_step hy, hi]
  rfl
theorem items_next {x y y2 : ByteArray} {acc : List Prp} {p : Prp} (h : itemsP x.size x = (itemsP y.size y).map (acc ++ ·)) (hy : y.size ≠ 0) (hi : itemP y = some (p, y2)) : itemsP x.size x = (itemsP y2.size y2).map ((acc ++ [p]) ++ ·) := by
  rw [h, itemsP_step hy, hi, Option.bind_some]
  cases itemsP y2.size y2 <;> simp

theorem own_set {w : World} {B e s n : Nat} {v : Value} {xs : List Value} (h : w.ownsRow B e s v n xs) {b : Nat} (hb : v.ownBlock ≠ some b) (j : Nat) (u : Value) : (w.setCell ⟨b, j, none⟩ u).ownsRow B e s v n xs :=
  own_other h (grownBy_set w b j u) (fun k hk e' => hb (by rw [hk]; injection e' with e'; rw [e']))
theorem own_rd {w w' : World} {B n g : Nat} {v : Value} {xs : List Value} {y : ByteArray} (h : w.ownsRow B 59 5 v n xs) (hr : RD w g y) (hg : w.grownBy w' (some g)) : w'.ownsRow B 59 5 v n xs :=
  own_other h hg (fun k hk e' => own_ne h hr (by decide) (by rw [hk]; injection e' with e'; rw [e']))
theorem rd_own {w w' : World} {B n g : Nat} {v : Value} {xs : List Value} {y : ByteArray} (hr : RD w g y) (h : w.ownsRow B 59 5 v n xs) (hg : w.grownBy w' v.ownBlock) : RD w' g y := by
  unfold RD
  rw [hg.block g (rd_lt hr) (fun e => own_ne h hr (by decide) e.symm)]
  exact hr
theorem own_ownP {w : World} {B : Nat} {v : Value} {ps : List Prp} (h : w.ownsRow B 59 5 v ps.length (ps.flatMap Prp.cells)) : OwnP w B v ps := by
  rcases id h.2 with ⟨rfl, h0⟩ | ⟨g, cap, cur, rfl, _⟩
  · exact .inl ⟨rfl, List.eq_nil_of_length_eq_zero h0⟩
  · obtain ⟨a, b, c, d, e, f⟩ := own_holdsK h
    exact .inr ⟨g, cap, rfl, b, c, e, f, a⟩
theorem ownP_lower {w : World} {B B' : Nat} {v : Value} {ps : List Prp} (h : OwnP w B v ps) (hb : B' ≤ B) : OwnP w B' v ps := by
  rcases h with h | ⟨g, cap, a, b, r⟩
  · exact .inl h
  · exact .inr ⟨g, cap, a, by omega, r⟩
theorem tabP_some {acc qs : List Prp} (hp : qs.Perm acc) (hx : acc.length < 20 → qs = sortP acc) (hv : validB qs = true) : tabP acc = some qs := by
  have hl := hp.length_eq
  have h16 := valid_len hv
  have e := hx (by omega)
  unfold tabP
  rw [if_pos ⟨by omega, by rw [← e]; exact hv⟩, e]
theorem tabP_none {acc qs : List Prp} (hp : qs.Perm acc) (hx : acc.length < 20 → qs = sortP acc) (hv : validB qs = false) : tabP acc = none := by
  unfold tabP
  refine if_neg fun ⟨h1, h2⟩ => ?_
  rw [← hx h1, hv] at h2
  cases h2
theorem below_set {B : Nat} {a w : World} (h : Below B a w) {n : Nat} (hn : B ≤ n) (j : Nat) (u : Value) : Below B a (w.setCell ⟨n, j, none⟩ u) := h.setCell hn u
theorem pb_set {w : World} {b : Nat} {nm t : ByteArray} {k n : Int} {r : Nat} {c1 c2 c3 c4 : Value} (h : w.heap[b]? = some (.cells #[.string nm, c1, c2, c3, c4] 59 (0, 0))) :
    PB ((((w.setCell ⟨b, 1, none⟩ (.int .i64 k)).setCell ⟨b, 2, none⟩ (.int .i64 n)).setCell ⟨b, 3, none⟩ (.string t)).setCell ⟨b, 4, none⟩ (.float .f64 r)) b ⟨nm, k, n, t, r⟩ := by
  unfold PB
  simp [World.setCell, Array.getElem?_modify, h]
theorem prop_new (w : World) (p : Prp) : RC (w.alloc (.cells #[.string p.nm, .int .i64 p.k, .int .i64 p.n, .string p.t, .float .f64 p.r] 59)) (.slice (some ⟨w.heap.size, 0, none⟩) 1 1) 1 5 (Prp.cells p) :=
  rc_new w 59 1 5 (Prp.cells p) rfl (by omega)

set_option maxRecDepth 1000000 in
set_option maxHeartbeats 8000000 in
theorem rdTable_c {w : World} {g : Nat} {s : ByteArray} (h : RD w g s) (hs : s.size ≤ 1073741824) :
    Calls Tryd.prog 42 #[.pointer (some ⟨g, 0, none⟩)] w (TabPost w g (tableP s)) := by
  have hL := rdLong_c h (by omega)
  have qs := store_float (P := Tryd.prog)
  have HGL := Lib.hid (rd_lt h)
  cases ho : longP s with
  | none =>
    have HL := Lib.hid (pr_no hL ho)
    have HT := Lib.hid (show tableP s = none by unfold tableP; rw [ho]; rfl)
    clear ho hL h
    go_enter Tryd.func42, Tryd.ntmps42
    go_wp2_with fail
    refine (HL.out).mono ?_
    rintro e w1 ⟨rfl, g1⟩
    go_wp2_with fail
    exact ⟨rfl, tab_none HT.out g1 rfl⟩
  | some p =>
    obtain ⟨x, r⟩ := p
    have HL := Lib.hid (pr_yes hL ho)
    have hxs := longP_size ho
    have HX := Lib.hid (show x.size ≤ 1073741824 by omega)
    have HT := Lib.hid (show tableP s = ((itemsP x.size x).bind tabP).map fun l => (l, r) by unfold tableP; rw [ho]; rfl)
    clear ho hL h hxs hs
    go_enter Tryd.func42, Tryd.ntmps42
    go_wp2_with fail
    refine (HL.out).mono ?_
    rintro e w1 ⟨rfl, r1, g1⟩
    have R1 := Lib.hid r1
    have G1 := Lib.hid g1
    clear r1 g1
    go_wp2_with fail
    go_loopg [4] x.size (fun kx v wr => ∃ (acc : List Prp) (y : ByteArray), y.size ≤ kx ∧ Hid (TI w1 wr w1.heap.size x v acc y))
    case atStart =>
      exact ⟨[], x, Nat.le_refl _, Lib.hid ⟨heap_alloc_new w1 _, (own_nil w1 w1.heap.size 59 5).alloc _, (Below.refl _ _).alloc (Nat.le_refl _) _, by simp, by simp, by simp⟩⟩
    case round =>
      obtain ⟨acc, y, hyk, HI⟩ := hrel
      obtain ⟨c0, f0⟩ := rd_facts HI.out.rd
      by_cases hy : y.size = 0
      · have htot := Lib.hid (show itemsP x.size x = some acc by rw [HI.out.tot, itemsP_nil hy]; simp)
        have hal := Lib.hid (show acc.length < 1152921504606846976 by have := HX.out; have := HI.out.len; omega)
        have HSO := Lib.hid (sortOwn_c HI.out.bel.size (own_ownP HI.out.own) hal.out)
        obtain rfl := ba_nil hy
        clear hy hyk
        go_wp2_with fail
        refine (HSO.out).mono ?_
        rintro e w2 ⟨rfl, qs', ho', hp', hx', hb'⟩
        have OW := Lib.hid ho'
        have PE := Lib.hid hp'
        have HXQ := Lib.hid hx'
        have BW := Lib.hid (HI.out.bel.trans hb')
        have HV := valid_c (ownP_rpr ho') (fun p hp => by have := HI.out.nms p (hp'.mem_iff.1 hp); omega)
        clear ho' hp' hx' hb'
        cases hv : validB qs' with
        | true =>
          rw [hv] at HV
          have HV' := Lib.hid HV
          have HVB := Lib.hid hv
          clear HV hv
          go_wp2_with fail
          refine (HV'.out).mono ?_
          rintro e w3 ⟨rfl, b3⟩
          go_wp2_with (go_at_call 60; refine unless_yes.mono ?_; rintro e w4 ⟨rfl, rfl⟩)
          go_ret
          have B3 := BW.out.trans (b3.mono BW.out.size)
          exact tab_some (by rw [HT.out, htot.out, Option.bind_some, tabP_some PE.out HXQ.out HVB.out]; rfl) (G1.out.trans (grownBy_below B3 _)) (ownP_lower (ownP_below OW.out b3) G1.out.size) (rd_below R1.out B3)
        | false =>
          rw [hv] at HV
          have HV' := Lib.hid HV
          have HVB := Lib.hid hv
          clear HV hv
          go_wp2_with fail
          refine (HV'.out).mono ?_
          rintro e w3 ⟨rfl, b3⟩
          go_wp2_with (go_at_call 60; refine unless_no.mono ?_; rintro e w4 ⟨rfl, rfl⟩)
          have B3 := BW.out.trans (b3.mono BW.out.size)
          exact ⟨rfl, tab_none (by rw [HT.out, htot.out, Option.bind_some, tabP_none PE.out HXQ.out HVB.out]; rfl) (G1.out.trans (grownBy_below B3 _)) rfl⟩
      · have hE := ne_nil y (by omega)
        have HY := Lib.hid hy
        have hS := rdShort_c HI.out.rd
        clear hy
        cases ho : shortP y with
        | none =>
          have HS := Lib.hid (pr_no hS ho)
          have HN := Lib.hid (show itemP y = none by unfold itemP; rw [ho]; rfl)
          clear hS ho
          go_wp2_with fail
          refine (HS.out).mono ?_
          rintro e w2 ⟨rfl, g2⟩
          go_wp2_with fail
          exact ⟨rfl, tab_none (by rw [HT.out, items_stop HI.out.tot HY.out HN.out]; rfl) (G1.out.trans (grownBy_below (below_grown HI.out.bel g2 (Nat.le_refl _) HI.out.bel.size) _)) rfl⟩
        | some q =>
          obtain ⟨nm, y1⟩ := q
          have HS := Lib.hid (pr_yes hS ho)
          have HO := Lib.hid ho
          have HY1 := Lib.hid (shortP_size ho)
          clear hS ho
          go_wp2_with fail
          refine (HS.out).mono ?_
          rintro e w2 ⟨rfl, r2, g2⟩
          have R2 := Lib.hid r2
          have G2 := Lib.hid g2
          clear r2 g2
          have hr2 : RD (w2.alloc (.cells #[.string nm, .int .i64 0, .int .i64 0, .string ⟨#[]⟩, .float .f64 0] 59)) w1.heap.size y1 := rd_below R2.out (below_al1 _ _)
          have hV := rdValue_c hr2 (by have := HX.out; have := HI.out.len; have := HY1.out.2; omega)
          have bal := Lib.hid (below_al1 w2 (.cells #[.string nm, .int .i64 0, .int .i64 0, .string ⟨#[]⟩, .float .f64 0] 59))
          have bI2 := Lib.hid (below_grown HI.out.bel G2.out (Nat.le_refl _) HI.out.bel.size)
          clear hr2
          cases ho2 : valP y1 with
          | none =>
            have HV := Lib.hid (pr_no hV ho2)
            have HN := Lib.hid (show itemP y = none by unfold itemP; rw [HO.out, Option.bind_some]; dsimp only; rw [ho2]; rfl)
            clear hV ho2
            go_wp2_with fail
            refine (HV.out).mono ?_
            rintro e w3 ⟨rfl, g3⟩
            go_wp2_with fail
            exact ⟨rfl, tab_none (by rw [HT.out, items_stop HI.out.tot HY.out HN.out]; rfl) (G1.out.trans (grownBy_below (below_grown (bI2.out.trans (bal.out.mono bI2.out.size)) g3 (Nat.le_refl _) (Nat.le_trans bI2.out.size bal.out.size)) _)) rfl⟩
          | some q2 =>
            obtain ⟨vv, y2⟩ := q2
            have HV := Lib.hid (pr_yes hV ho2)
            have HN := Lib.hid (show itemP y = some (⟨nm, vv.k, vv.n, vv.t, vv.r⟩, y2) by unfold itemP; rw [HO.out, Option.bind_some]; dsimp only; rw [ho2]; rfl)
            clear hV ho2
            unfold Vl.val at HV
            go_wp2_with fail
            refine (HV.out).mono ?_
            rintro e w3 ⟨rfl, r3, g3⟩
            have hpb : w3.heap[w2.heap.size]? = some (.cells #[.string nm, .int .i64 0, .int .i64 0, .string ⟨#[]⟩, .float .f64 0] 59 (0, 0)) := by
              rw [g3.block w2.heap.size (by simp) (fun e => by injection e with e; have := rd_lt R2.out; omega)]
              exact heap_alloc_new w2 _
            have q0 : w3.cell? ⟨w2.heap.size, 0, none⟩ = some (.string nm) := by simp [World.cell?, hpb]
            have q1 : w3.cell? ⟨w2.heap.size, 1, none⟩ = some (.int .i64 0) := by simp [World.cell?, hpb]
            have q2 : w3.cell? ⟨w2.heap.size, 2, none⟩ = some (.int .i64 0) := by simp [World.cell?, hpb]
            have q3 : w3.cell? ⟨w2.heap.size, 3, none⟩ = some (.string ⟨#[]⟩) := by simp [World.cell?, hpb]
            have q4 : w3.cell? ⟨w2.heap.size, 4, none⟩ = some (.float .f64 0) := by simp [World.cell?, hpb]
            have f0' : ∀ j, w3.frozen? ⟨w2.heap.size, j, none⟩ = false := fun j => by simp [World.frozen?, hpb]
            have f1 := f0' 1
            have f2 := f0' 2
            have f3 := f0' 3
            have f4 := f0' 4
            have HPB := Lib.hid hpb
            have R3 := Lib.hid r3
            have G3 := Lib.hid g3
            clear hpb f0' r3 g3
            go_upto_region 6 with fail
            obtain ⟨W, hW⟩ : ∃ W, W = ((((w3.setCell ⟨w2.heap.size, 1, none⟩ (.int .i64 vv.k)).setCell ⟨w2.heap.size, 2, none⟩ (.int .i64 vv.n)).setCell ⟨w2.heap.size, 3, none⟩ (.string vv.t)).setCell ⟨w2.heap.size, 4, none⟩ (.float .f64 vv.r)) := ⟨_, rfl⟩
            have o2 := own_rd HI.out.own HI.out.rd G2.out
            have hne : u4.ownBlock ≠ some w2.heap.size := fun e => by have := own_lt o2 e; omega
            have o3 := own_rd (o2.alloc (.cells #[.string nm, .int .i64 0, .int .i64 0, .string ⟨#[]⟩, .float .f64 0] 59)) (rd_below R2.out bal.out) G3.out
            have hbm : w1.heap.size ≤ w2.heap.size := bI2.out.size
            have hgp : w1.heap.size ≠ w2.heap.size := by have := rd_lt R2.out; omega
            have bI3 := below_grown (bI2.out.trans (bal.out.mono bI2.out.size)) G3.out (Nat.le_refl _) (Nat.le_trans bI2.out.size bal.out.size)
            have OW := Lib.hid (show W.ownsRow w1.heap.size 59 5 u4 acc.length (acc.flatMap Prp.cells) by rw [hW]; exact own_set (own_set (own_set (own_set o3 hne 1 _) hne 2 _) hne 3 _) hne 4 _)
            have RW := Lib.hid (show RD W w1.heap.size y2 by rw [hW]; exact rd_other (rd_other (rd_other (rd_other R3.out hgp 1 _) hgp 2 _) hgp 3 _) hgp 4 _)
            have BW := Lib.hid (show Below w1.heap.size w1 W by rw [hW]; exact below_set (below_set (below_set (below_set bI3 hbm 1 _) hbm 2 _) hbm 3 _) hbm 4 _)
            have hPB : PB W w2.heap.size ⟨nm, vv.k, vv.n, vv.t, vv.r⟩ := by rw [hW]; exact pb_set HPB.out
            rw [← hW]
            obtain ⟨p, hp⟩ : ∃ p : Prp, p = ⟨nm, vv.k, vv.n, vv.t, vv.r⟩ := ⟨_, rfl⟩
            rw [← hp] at HN hPB
            have hnm : p.nm.size ≤ 255 := by rw [hp]; exact HY1.out.1
            have HNM := Lib.hid hnm
            obtain ⟨s0, s1, s2, s3, s4⟩ := pb_facts hPB
            have HPW := Lib.hid hPB
            have hal := Lib.hid (show acc.length ≤ 1073741824 by have := HX.out; have := HI.out.len; omega)
            clear hW o2 hne o3 hbm hgp bI3 hPB hp hnm q0 q1 q2 q3 q4 f1 f2 f3 f4 bI2 bal HV HPB R3 G3 R2 G2
            go_wp2_with (at_builtin; refine app_own (w0 := w1) w1.heap.size 36 59 5 56 _ Tryd.underlying36 info_prop rfl (by decide) rfl (.tmp 21) (.tmp 23) rfl u4 _ acc.length 1 (acc.flatMap Prp.cells) (Prp.cells p) rfl rfl (OW.out.alloc _) (prop_new W p) (cells_one [p]) (BW.out.alloc BW.out.size _) (by have := hal.out; omega) (by have := hal.out; omega) (by have := BW.out.size; simp; omega) ?_; intro v5 w5 o5 b5 g5 _; have O5 := Lib.hid o5; have B5 := Lib.hid b5; have G5 := Lib.hid g5; clear o5 b5 g5)
            go_roundg y2.size
            case measure => have := (itemP_size HN.out).1; omega
            case rel =>
              have hi := itemP_size HN.out
              exact ⟨acc ++ [p], y2, Nat.le_refl _, Lib.hid ⟨rd_own (rd_below RW.out (below_al1 _ _)) (OW.out.alloc _) G5.out, by have := O5.out; rw [List.length_append, List.flatMap_append]; simpa using this, B5.out, items_next HI.out.tot HY.out HN.out, by have := HI.out.len; rw [List.length_append]; simp only [List.length_cons, List.length_nil]; omega, fun q hq => by
                rcases List.mem_append.1 hq with hq | hq
                · exact HI.out.nms q hq
                · rw [List.mem_singleton.1 hq]; exact HNM.out⟩⟩
end Go.Proofs.YtbniandbmabdbaaDoor

/- Layer 15: a reading that gives up: guard. -/
namespace Go.Proofs.YtbniandbmabdbaaDoor
open Go Go.RowKit
set_option linter.unusedSimpArgs false
set_option linter.unusedVariables false

set_option maxRecDepth 100000 in
theorem catch_idle (p : Addr) (w : World) :
    CallsD Tryd.prog 53 #[.pointer (some p)] .returning w fun e u' w' => e = .returned (.tuple #[]) ∧ u' = .returning ∧ w' = w := by
  refine callsD_of_wpS Tryd.func53 rfl fun c₀ cs hu => ?_
  apply wpS_seq
  apply wpS_region
  simp [wpOpsS, go_sem, recoverD, hu, Tryd.ntmps53, Exit.thenS]
  refine wpS_of_wp ?_
  go_wp2
  cases c₀
  simp_all [bodyPostS, results, Tryd.results53]
set_option maxRecDepth 100000 in
theorem catch_stop (p : Addr) (b : Bool) (older : List PanicEntry) (w : World) (hc : w.cell? p = some (.bool b)) (hz : w.frozen? p = false) :
    CallsD Tryd.prog 53 #[.pointer (some p)] (.panicking ({ v := .iface 83 (.agg #[]), recovered := false } :: older)) w fun e u' w' =>
      e = .returned (.tuple #[]) ∧ u' = .panicking ({ v := .iface 83 (.agg #[]), recovered := true } :: older) ∧ w' = (w.alloc (.cells #[] 83)).setCell p (.bool false) := by
  refine callsD_of_wpS Tryd.func53 rfl fun c₀ cs hu => ?_
  apply wpS_seq
  apply wpS_region
  simp [wpOpsS, go_sem, recoverD, hu, Tryd.ntmps53, Exit.thenS]
  refine wpS_of_wp ?_
  have hta : ∀ w : World, (Instr.typeAssert (.iface 83 (.agg #[])) 20 83 true).run Tryd.prog w = .ok (.tuple #[.agg #[], .bool true]) w := fun w => by kernel_rfl
  have hlt := World.block_lt_of_cell? w _ hc
  have hc' : (w.alloc (.cells #[] 83)).cell? p = some (.bool b) := ((below_al1 w _).cell hlt).trans hc
  have hz' : (w.alloc (.cells #[] 83)).frozen? p = false := ((below_al1 w _).frozen hlt).trans hz
  go_wp2
  simp_all [bodyPostS, results, Tryd.results53]

set_option maxRecDepth 100000 in
theorem guard_yes {c : FuncId} {cap : Array Value} {w : World} {R : World → Prop} (hen : ∀ args w, (callFunc c args).run Tryd.prog w = .ok (.enter c args) w)
    (h : Calls Tryd.prog c cap (w.alloc (.cells #[.bool false] 4)) fun e w' => e = .returned (.tuple #[]) ∧ R w' ∧ w'.cell? ⟨w.heap.size, 0, none⟩ = some (.bool false) ∧ w'.frozen? ⟨w.heap.size, 0, none⟩ = false) :
    Calls Tryd.prog 40 #[.func (.func c) #[] cap] w fun e w' => e = .returned (.bool true) ∧ ∃ w1, R w1 ∧ w' = w1.setCell ⟨w.heap.size, 0, none⟩ (.bool true) := by
  have hmf : ∀ (fn : Fn) (first cap : Array Value) (w : World), (Instr.makeFunc fn first cap).run Tryd.prog w = .ok (.func fn first cap) w := fun _ _ _ _ => rfl
  have H := Lib.hid h
  clear h
  go_enter_defers Tryd.func40, Tryd.ntmps40
  go_wp2
  refine (H.out).mono ?_
  rintro e w1 ⟨rfl, hR, hc, hf⟩
  have HR := Lib.hid hR
  clear hR
  go_wp2
  refine leaves_cons (f := 53) (args := #[.pointer (some ⟨w.heap.size, 0, none⟩)]) (by simp) (by simp [go_sem]) ?_
  refine (catch_idle ⟨w.heap.size, 0, none⟩ _).mono ?_
  rintro e u' w'' ⟨rfl, rfl, rfl⟩
  have hc2 : (w1.setCell ⟨w.heap.size, 0, none⟩ (.bool true)).cell? ⟨w.heap.size, 0, none⟩ = some (.bool true) := World.cell?_setCell_same' _ _ _ (by rw [hc]; rfl)
  simp [Leaves, settle, results, Tryd.results40, go_sem, hc2]
  exact ⟨w1, HR.out, rfl⟩
set_option maxRecDepth 100000 in
theorem guard_no {c : FuncId} {cap : Array Value} {w : World} {R : World → Prop} (hen : ∀ args w, (callFunc c args).run Tryd.prog w = .ok (.enter c args) w)
    (h : Calls Tryd.prog c cap (w.alloc (.cells #[.bool false] 4)) fun e w' => e = StopE ∧ R w' ∧ w'.cell? ⟨w.heap.size, 0, none⟩ = some (.bool false) ∧ w'.frozen? ⟨w.heap.size, 0, none⟩ = false) :
    Calls Tryd.prog 40 #[.func (.func c) #[] cap] w fun e w' => e = .returned (.bool false) ∧ ∃ w1, R w1 ∧ w' = (w1.alloc (.cells #[] 83)).setCell ⟨w.heap.size, 0, none⟩ (.bool false) := by
  have hmf : ∀ (fn : Fn) (first cap : Array Value) (w : World), (Instr.makeFunc fn first cap).run Tryd.prog w = .ok (.func fn first cap) w := fun _ _ _ _ => rfl
  have H := Lib.hid h
  clear h
  go_enter_defers Tryd.func40, Tryd.ntmps40
  go_wp2
  refine (H.out).mono ?_
  rintro e w1 ⟨rfl, hR, hc, hf⟩
  have HR := Lib.hid hR
  clear hR
  go_wp2
  refine leaves_cons (f := 53) (args := #[.pointer (some ⟨w.heap.size, 0, none⟩)]) (by simp) (by simp [go_sem]) ?_
  refine (catch_stop ⟨w.heap.size, 0, none⟩ false [] _ hc hf).mono ?_
  rintro e u' w'' ⟨rfl, rfl, rfl⟩
  have hlt := World.block_lt_of_cell? w1 _ hc
  have hc2 : ((w1.alloc (.cells #[] 83)).setCell ⟨w.heap.size, 0, none⟩ (.bool false)).cell? ⟨w.heap.size, 0, none⟩ = some (.bool false) := World.cell?_setCell_same' _ _ _ (by rw [((below_al1 w1 _).cell hlt).trans hc]; rfl)
  simp [Leaves, settle, results, Tryd.results40, go_sem, hc2]
  exact ⟨w1, HR.out, rfl⟩
end Go.Proofs.YtbniandbmabdbaaDoor

/- Layer 15: table.Take. -/
namespace Go.Proofs.YtbniandbmabdbaaDoor
open Go Go.RowKit
set_option linter.unusedSimpArgs false
set_option linter.unusedVariables false

set_option maxRecDepth 100000 in
theorem take1_yes {w : World} {a5 a6 : Addr} {G : Nat} {s r : ByteArray} {ps : List Prp} {c6 : Value} (h5 : w.cell? a5 = some (.pointer (some ⟨G, 0, none⟩))) (hG : RD w G s) (hs : s.size ≤ 1073741824) (h6 : w.cell? a6 = some c6) (f6 : w.frozen? a6 = false) (hne : a6.block ≠ G) (ho : tableP s = some (ps, r)) :
    Calls Tryd.prog 41 #[.pointer (some a5), .pointer (some a6)] w fun e w' => e = .returned (.tuple #[]) ∧ ∃ v w1, w.grownBy w1 (some G) ∧ OwnP w1 w.heap.size v ps ∧ RD w1 G r ∧ w' = w1.setCell a6 v := by
  have hT := rdTable_c hG hs
  rw [ho] at hT
  have HT := Lib.hid hT
  have HB := Lib.hid (World.block_lt_of_cell? w _ h6)
  have HN := Lib.hid hne
  clear hT ho hG hne
  go_enter Tryd.func41, Tryd.ntmps41
  go_wp2_with fail
  refine (HT.out).mono ?_
  rintro e w1 ⟨g1, v, rfl, hv, hr⟩
  have hb := g1.block a6.block HB.out (fun e => HN.out (by injection e))
  have h6' : w1.cell? a6 = some c6 := (World.cell?_of_block (w := w) hb).trans h6
  have f6' : w1.frozen? a6 = false := (World.frozen?_of_block (w := w) hb).trans f6
  have HV := Lib.hid hv
  have HR := Lib.hid hr
  have G1 := Lib.hid g1
  clear hb hv hr g1
  rcases HV.out with ⟨rfl, _⟩ | ⟨g, cap, rfl, _⟩
  · go_wp2_with fail
    go_end0
    exact ⟨rfl, _, w1, G1.out, HV.out, HR.out, rfl⟩
  · go_wp2_with fail
    go_end0
    exact ⟨rfl, _, w1, G1.out, HV.out, HR.out, rfl⟩
set_option maxRecDepth 100000 in
theorem take1_no {w : World} {a5 a6 : Addr} {G : Nat} {s : ByteArray} (h5 : w.cell? a5 = some (.pointer (some ⟨G, 0, none⟩))) (hG : RD w G s) (hs : s.size ≤ 1073741824) (ho : tableP s = none) :
    Calls Tryd.prog 41 #[.pointer (some a5), .pointer (some a6)] w fun e w' => e = StopE ∧ w.grownBy w' (some G) := by
  have hT := rdTable_c hG hs
  rw [ho] at hT
  have HT := Lib.hid hT
  clear hT ho hG
  go_enter Tryd.func41, Tryd.ntmps41
  go_wp2_with fail
  refine (HT.out).mono ?_
  rintro e w1 ⟨g1, rfl⟩
  go_wp2_with fail
  exact ⟨rfl, rfl, g1⟩

/-- What Take leaves. -/
def TakePost (w : World) (s : ByteArray) (e : Ending) (w' : World) : Prop :=
  Below w.heap.size w w' ∧ match tableP s with
    | some (ps, r) => ∃ v, e = .returned (.tuple #[v, .int .i64 ((s.size : Int) - r.size), .int .i64 0]) ∧ OwnP w' w.heap.size v ps
    | none => e = .returned (.tuple #[.slice none 0 0, .int .i64 0, .int .i64 11])
theorem take_none {w w' : World} {s : ByteArray} (ho : tableP s = none) (hb : Below w.heap.size w w') : TakePost w s (.returned (.tuple #[.slice none 0 0, .int .i64 0, .int .i64 11])) w' := by
  unfold TakePost
  rw [ho]
  exact ⟨hb, rfl⟩
theorem take_some {w w' : World} {s r : ByteArray} {ps : List Prp} {v : Value} (ho : tableP s = some (ps, r)) (hb : Below w.heap.size w w') (hv : OwnP w' w.heap.size v ps) : TakePost w s (.returned (.tuple #[v, .int .i64 ((s.size : Int) - r.size), .int .i64 0])) w' := by
  unfold TakePost
  rw [ho]
  exact ⟨hb, v, rfl, hv⟩
theorem tableP_size {s r : ByteArray} {ps : List Prp} (h : tableP s = some (ps, r)) : r.size ≤ s.size := by
  unfold tableP at h
  obtain ⟨p, h1, h2⟩ := Option.bind_eq_some_iff.1 h
  obtain ⟨x, y⟩ := p
  obtain ⟨l, _, h3⟩ := Option.map_eq_some_iff.1 h2
  injection h3 with _ h3
  have := longP_size h1
  dsimp only at h3
  rw [← h3]
  omega

theorem ownP_set {w : World} {B n : Nat} {v : Value} {ps : List Prp} (h : OwnP w B v ps) (hn : n < B) (j : Nat) (u : Value) : OwnP (w.setCell ⟨n, j, none⟩ u) B v ps := by
  rcases h with h | ⟨g, cap, a, b, c, d, e, f⟩
  · exact .inl h
  · have hb := Below.heap_setCell w ⟨n, j, none⟩ u g (show g ≠ n by omega)
    refine .inr ⟨g, cap, a, b, by simpa [World.setCell] using c, d, e, fun k hk => ?_⟩
    obtain ⟨x, y⟩ := f k hk
    exact ⟨(World.cell?_of_block (w := w) hb).trans x, (World.frozen?_of_block (w := w) hb).trans y⟩
/-- Three blocks, laid one behind the other. -/
theorem three_blocks (w : World) (a b c : Obj) : ((((w.alloc a).alloc b).alloc c).heap[w.heap.size]? = some a) ∧ ((((w.alloc a).alloc b).alloc c).heap[w.heap.size + 1]? = some b) ∧ ((((w.alloc a).alloc b).alloc c).heap[w.heap.size + 1 + 1]? = some c) ∧ (((w.alloc a).alloc b).alloc c).heap.size = w.heap.size + 3 := by
  have s1 : (w.alloc a).heap.size = w.heap.size + 1 := Array.size_push _
  have s2 : ((w.alloc a).alloc b).heap.size = w.heap.size + 1 + 1 := by rw [show ((w.alloc a).alloc b).heap.size = (w.alloc a).heap.size + 1 from Array.size_push _, s1]
  refine ⟨?_, ?_, ?_, ?_⟩
  · rw [heap_alloc_old _ _ (by omega), heap_alloc_old _ _ (by omega)]
    exact heap_alloc_new w a
  · rw [heap_alloc_old _ _ (by omega), ← s1]
    exact heap_alloc_new _ b
  · rw [← s2]
    exact heap_alloc_new _ c
  · rw [show (((w.alloc a).alloc b).alloc c).heap.size = ((w.alloc a).alloc b).heap.size + 1 from Array.size_push _, s2]

set_option maxRecDepth 1000000 in
set_option maxHeartbeats 4000000 in
theorem tTake_c {w : World} (s : ByteArray) (hs : s.size ≤ 1073741824) :
    Calls Tryd.prog 29 #[.string s] w (TakePost w s) := by
  have hmf : ∀ (fn : Fn) (first cap : Array Value) (w : World), (Instr.makeFunc fn first cap).run Tryd.prog w = .ok (.func fn first cap) w := fun _ _ _ _ => rfl
  have hsI : (s.size : Int) ≤ 1073741824 := by omega
  have hen : ∀ args w, (callFunc 41 args).run Tryd.prog w = .ok (.enter 41 args) w := fun args w => enters_of Tryd.func41 (by kernel_rfl) rfl args w
  obtain ⟨h0, h1, h2, h3⟩ := three_blocks w (.cells #[.string s] 75) (.cells #[.pointer (some ⟨w.heap.size, 0, none⟩)] 73) (.cells #[.slice none 0 0] 36)
  have hb : Below w.heap.size w (((w.alloc (.cells #[.string s] 75)).alloc (.cells #[.pointer (some ⟨w.heap.size, 0, none⟩)] 73)).alloc (.cells #[.slice none 0 0] 36)) := (((Below.refl _ _).alloc (Nat.le_refl _) _).alloc (by simp) _).alloc (by simp; omega) _
  obtain ⟨W3, hW3⟩ : ∃ W3, W3 = (((w.alloc (.cells #[.string s] 75)).alloc (.cells #[.pointer (some ⟨w.heap.size, 0, none⟩)] 73)).alloc (.cells #[.slice none 0 0] 36)) := ⟨_, rfl⟩
  rw [← hW3] at h0 h1 h2 h3 hb
  have hal : Below W3.heap.size W3 (W3.alloc (.cells #[.bool false] 4)) := below_al1 _ _
  have hok : (W3.alloc (.cells #[.bool false] 4)).heap[W3.heap.size]? = some (.cells #[.bool false] 4 (0, 0)) := heap_alloc_new W3 _
  have hs4 : (W3.alloc (.cells #[.bool false] 4)).heap.size = w.heap.size + 4 := by rw [show (W3.alloc (.cells #[.bool false] 4)).heap.size = W3.heap.size + 1 from Array.size_push _, h3]
  obtain ⟨W4, hW4⟩ : ∃ W4, W4 = W3.alloc (.cells #[.bool false] 4) := ⟨_, rfl⟩
  rw [← hW4] at hal hok hs4
  have g0 : RD W4 w.heap.size s := (hal.block w.heap.size (by omega)).trans h0
  have g1 : W4.heap[w.heap.size + 1]? = some (.cells #[.pointer (some ⟨w.heap.size, 0, none⟩)] 73 (0, 0)) := (hal.block _ (by omega)).trans h1
  have g2 : W4.heap[w.heap.size + 1 + 1]? = some (.cells #[.slice none 0 0] 36 (0, 0)) := (hal.block _ (by omega)).trans h2
  have c5 : W4.cell? ⟨w.heap.size + 1, 0, none⟩ = some (.pointer (some ⟨w.heap.size, 0, none⟩)) := by simp [World.cell?, g1]
  have c6 : W4.cell? ⟨w.heap.size + 1 + 1, 0, none⟩ = some (.slice none 0 0) := by simp [World.cell?, g2]
  have f6 : W4.frozen? ⟨w.heap.size + 1 + 1, 0, none⟩ = false := by simp [World.frozen?, g2]
  have ck : W4.cell? ⟨W3.heap.size, 0, none⟩ = some (.bool false) := by simp [World.cell?, hok]
  have fk : W4.frozen? ⟨W3.heap.size, 0, none⟩ = false := by simp [World.frozen?, hok]
  have hb4 := hb.trans (hal.mono (by omega))
  cases ho : tableP s with
  | none =>
    have hg := guard_no (cap := #[.pointer (some ⟨w.heap.size + 1, 0, none⟩), .pointer (some ⟨w.heap.size + 1 + 1, 0, none⟩)]) (w := W3) (R := fun w' => W4.grownBy w' (some w.heap.size)) hen (by
      rw [← hW4]
      refine (take1_no (a6 := ⟨w.heap.size + 1 + 1, 0, none⟩) c5 g0 hs ho).mono ?_
      rintro e w' ⟨rfl, hgr⟩
      have hbk := hgr.block W3.heap.size (by omega) (fun e => by injection e with e; omega)
      exact ⟨rfl, hgr, (World.cell?_of_block (w := W4) hbk).trans ck, (World.frozen?_of_block (w := W4) hbk).trans fk⟩)
    have HG := Lib.hid hg
    have HB4 := Lib.hid hb4
    have HS4 := Lib.hid hs4
    have HS3 := Lib.hid h3
    have HO := Lib.hid ho
    rw [hW3] at HG
    clear h0 h1 h2 h3 hb hal hok hs4 hW3 hW4 g0 g1 g2 c5 c6 f6 ck fk hb4 hg ho
    go_enter Tryd.func29, Tryd.ntmps29
    go_wp2_with fail
    refine (HG.out).mono ?_
    rintro e w' ⟨rfl, w1, hgr, hw'⟩
    have hB : Below w.heap.size w w' := by
      rw [hw']
      have b1 := below_grown HB4.out hgr (Nat.le_refl _) (by have := HS4.out; omega)
      exact below_set (b1.alloc b1.size _) (by simp; omega) 0 _
    clear hgr hw'
    go_wp2_with fail
    go_ret3
    exact take_none HO.out hB
  | some p =>
    obtain ⟨ps, r⟩ := p
    have hrs := tableP_size ho
    have hg := guard_yes (cap := #[.pointer (some ⟨w.heap.size + 1, 0, none⟩), .pointer (some ⟨w.heap.size + 1 + 1, 0, none⟩)]) (w := W3) (R := fun w' => ∃ v w1, W4.grownBy w1 (some w.heap.size) ∧ OwnP w1 W4.heap.size v ps ∧ RD w1 w.heap.size r ∧ w' = w1.setCell ⟨w.heap.size + 1 + 1, 0, none⟩ v) hen (by
      rw [← hW4]
      refine (take1_yes (a6 := ⟨w.heap.size + 1 + 1, 0, none⟩) c5 g0 hs c6 f6 (show w.heap.size + 1 + 1 ≠ w.heap.size by omega) ho).mono ?_
      rintro e w' ⟨rfl, v, w1, hgr, hv, hr, rfl⟩
      have hbk := (Below.heap_setCell w1 ⟨w.heap.size + 1 + 1, 0, none⟩ v W3.heap.size (show W3.heap.size ≠ w.heap.size + 1 + 1 by omega)).trans (hgr.block W3.heap.size (by omega) (fun e => by injection e with e; omega))
      exact ⟨rfl, ⟨v, w1, hgr, hv, hr, rfl⟩, (World.cell?_of_block (w := W4) hbk).trans ck, (World.frozen?_of_block (w := W4) hbk).trans fk⟩)
    have HG := Lib.hid hg
    have HB4 := Lib.hid hb4
    have HS4 := Lib.hid hs4
    have HS3 := Lib.hid h3
    have HO := Lib.hid ho
    have C5 := Lib.hid g1
    have C6 := Lib.hid g2
    have e1 : IntKind.i64.wrap ((s.size : Int) - (r.size : Int)) = (s.size : Int) - r.size := IntWalk.i64_in _ (by omega)
    rw [hW3] at HG
    clear h0 h1 h2 hb hal hok hW4 g0 g1 g2 c5 c6 f6 ck fk hb4 hg ho hs4 h3 hrs hW3
    go_enter Tryd.func29, Tryd.ntmps29
    go_wp2_with fail
    refine (HG.out).mono ?_
    rintro e w' ⟨rfl, w1', ⟨v, w1, hgr, hv, hr, rfl⟩, hw'⟩
    have hB : Below w.heap.size w w' := by
      rw [hw']
      have b1 := below_grown HB4.out hgr (Nat.le_refl _) (by have := HS4.out; omega)
      have h3 : w.heap.size ≤ (((w.alloc (.cells #[.string s] 75)).alloc (.cells #[.pointer (some ⟨w.heap.size, 0, none⟩)] 73)).alloc (.cells #[.slice none 0 0] 36)).heap.size := by rw [(three_blocks w _ _ _).2.2.2]; omega
      exact below_set (below_set b1 (by show w.heap.size ≤ w.heap.size + 1 + 1; omega) 0 _) h3 0 _
    have hok : (((w.alloc (.cells #[.string s] 75)).alloc (.cells #[.pointer (some ⟨w.heap.size, 0, none⟩)] 73)).alloc (.cells #[.slice none 0 0] 36)).heap.size = w.heap.size + 3 := (three_blocks w _ _ _).2.2.2
    rw [hok] at hw'
    have hgo := hgr.block
    have k5 : w1.heap[w.heap.size + 1]? = _ := (hgr.block (w.heap.size + 1) (by have := HS4.out; omega) (fun e => by injection e with e; omega)).trans C5.out
    have k6 : w1.heap[w.heap.size + 1 + 1]? = _ := (hgr.block (w.heap.size + 1 + 1) (by have := HS4.out; omega) (fun e => by injection e with e; omega)).trans C6.out
    have c5 : w'.cell? ⟨w.heap.size + 1, 0, none⟩ = some (.pointer (some ⟨w.heap.size, 0, none⟩)) := by
      rw [hw', World.cell?_setCell_other _ _ _ _ (by intro e; injection e with e; omega), World.cell?_setCell_other _ _ _ _ (by intro e; injection e with e; omega)]
      simp [World.cell?, k5]
    have c6 : w'.cell? ⟨w.heap.size + 1 + 1, 0, none⟩ = some v := by
      rw [hw', World.cell?_setCell_other _ _ _ _ (by intro e; injection e with e; omega)]
      exact World.cell?_setCell_same' _ _ _ (by simp [World.cell?, k6])
    have c0 : w'.cell? ⟨w.heap.size, 0, none⟩ = some (.string r) := by
      rw [hw', World.cell?_setCell_other _ _ _ _ (by intro e; injection e with e; omega), World.cell?_setCell_other _ _ _ _ (by intro e; injection e with e; omega)]
      exact (rd_facts hr).1
    have hV : OwnP w' w.heap.size v ps := by
      rw [hw']
      exact ownP_lower (ownP_set (ownP_set hv (by have := HS4.out; omega) 0 _) (by have := HS4.out; omega) 0 _) (by have := HS4.out; omega)
    have HB := Lib.hid hB
    have HV := Lib.hid hV
    clear hgr hv hr hw' hB hV hok hgo k5 k6
    rcases HV.out with ⟨rfl, _⟩ | ⟨g, cap, rfl, _⟩
    · go_wp2_with fail
      go_quiet (fail)
      go_wp2_with fail
      go_ret3
      exact take_some HO.out (HB.out.trans ((below_drewN _ _).mono HB.out.size)) (ownP_below HV.out (below_drewN _ _))
    · go_wp2_with fail
      go_quiet (fail)
      go_wp2_with fail
      go_ret3
      exact take_some HO.out (HB.out.trans ((below_drewN _ _).mono HB.out.size)) (ownP_below HV.out (below_drewN _ _))
end Go.Proofs.YtbniandbmabdbaaDoor

/- Layer 16: big, of as many as eight bytes; ReadHead. -/
namespace Go.Proofs.YtbniandbmabdbaaDoor
open Go Go.RowKit
set_option linter.unusedSimpArgs false
set_option linter.unusedVariables false

theorem orw_lem (z b : Nat) (hz : z < 2 ^ 56) (hb : b < 256) : bits BinOp.or IntKind.i64 (wrap64 ((z : Int) * 256)) (b : Int) = wrap64 ((z * 256 + b : Nat) : Int) := by
  have h3 : (z * 256) ||| b = z * 256 + b := by
    have := Nat.shiftLeft_add_eq_or_of_lt (i := 8) (b := b) (by omega) z
    rw [Nat.shiftLeft_eq] at this
    exact this.symm
  have e64 : IntKind.i64.bits = 64 := rfl
  have e1 : BitVec.ofInt IntKind.i64.bits (wrap64 ((z : Int) * 256)) = BitVec.ofNat IntKind.i64.bits (z * 256) := by
    apply BitVec.eq_of_toNat_eq
    rw [BitVec.toNat_ofInt, BitVec.toNat_ofNat, e64]
    unfold wrap64
    omega
  have hm : (BitVec.ofNat IntKind.i64.bits (z * 256) ||| BitVec.ofInt IntKind.i64.bits ((b : Nat) : Int)).toNat = z * 256 + b := by
    rw [BitVec.toNat_or, BitVec.ofInt_natCast, BitVec.toNat_ofNat, BitVec.toNat_ofNat, e64, Nat.mod_eq_of_lt (by omega), Nat.mod_eq_of_lt (by omega), h3]
  show IntKind.i64.wrap (((BitVec.ofInt IntKind.i64.bits (wrap64 ((z : Int) * 256)) ||| BitVec.ofInt IntKind.i64.bits ((b : Nat) : Int)).toNat : Nat) : Int) = _
  rw [e1, hm, IntKind.wrap_i64]
  unfold wrap64
  omega

set_option maxRecDepth 100000 in
set_option maxHeartbeats 1000000 in
theorem bigW_c {w : World} (s : ByteArray) (hs : s.size ≤ 8) :
    Calls Tryd.prog 23 #[.string s] w fun e w' => e = .returned (.int .i64 (wrap64 (natB s.data.toList))) ∧ w = w' := by
  have HSL := Lib.hid (ba_size s)
  go_enter Tryd.func23, Tryd.ntmps23
  go_wp2
  go_loop [3, 7] (fun x i => ∃ (k : Nat) (a : Int), k ≤ s.size ∧ i = .int .i64 k ∧ x = .int .i64 a ∧ Hid (a = wrap64 (natB (s.data.toList.take k)))) (fun _ i => s.size - (intOf i).toNat)
  case atStart => exact ⟨0, 0, Nat.zero_le _, rfl, rfl, Lib.hid (by simp [natB, wrap64])⟩
  case round =>
    obtain ⟨k, a, hk, rfl, rfl, HA⟩ := hrel
    by_cases hlt : k < s.size
    · have hlt' : (k : Int) < s.size := by omega
      obtain ⟨z, hz⟩ : ∃ z, z = natB (s.data.toList.take k) := ⟨_, rfl⟩
      have hz56 : z < 2 ^ 56 := by
        rw [hz]
        refine Nat.lt_of_lt_of_le (natB_lt _) ?_
        have : (s.data.toList.take k).length ≤ 7 := by rw [List.length_take]; omega
        calc 256 ^ (s.data.toList.take k).length ≤ 256 ^ 7 := Nat.pow_le_pow_right (by omega) this
          _ = 2 ^ 56 := by decide
      have ha : a = z := by
        rw [HA.out, ← hz]
        have h2 : z < 72057594037927936 := hz56
        unfold wrap64
        omega
      subst ha
      have hor := orw_lem z s[k].toNat hz56 (UInt8.toNat_lt _)
      have hwb : wrap64 ((s[k].toNat : Nat) : Int) = (s[k].toNat : Int) := by have := UInt8.toNat_lt s[k]; unfold wrap64; omega
      have hnx : natB (s.data.toList.take (k + 1)) = z * 256 + s[k].toNat := by
        rw [List.take_add_one, ba_at s k hlt, hz]
        exact natB_snoc _ _
      obtain ⟨y, hy⟩ : ∃ y, y = wrap64 ((z : Int) * 256) := ⟨_, rfl⟩
      obtain ⟨v, hv⟩ : ∃ v, v = wrap64 ((z * 256 + s[k].toNat : Nat) : Int) := ⟨_, rfl⟩
      rw [← hy, ← hv] at hor
      have hy' := hy.symm
      have HV := Lib.hid hv
      have HNX := Lib.hid hnx
      clear hnx hz hy hv hz56 HA
      go_wp2
      go_round
      case rel => exact ⟨k + 1, v, by omega, by go_num, rfl, Lib.hid (by rw [HV.out, HNX.out])⟩
      case measure => simp [intOf]; omega
    · have hd : s.data.toList.take k = s.data.toList := List.take_of_length_le (by have := HSL.out; omega)
      rw [hd] at HA
      go_wp2
      go_ret
      refine ⟨?_, rfl⟩
      show Ending.returned (Value.int .i64 a) = _
      rw [HA.out]
theorem bigN_c {w : World} (s : ByteArray) (hs : s.size ≤ 7) :
    Calls Tryd.prog 23 #[.string s] w fun e w' => e = .returned (.int .i64 (natB s.data.toList)) ∧ w = w' := Af.big_c s hs

/-- What ReadHead answers of bytes: an error, or the size, the properties, the mode. -/
inductive RH where
  | err (n : Nat)
  | ok (size : Nat) (ps : List Prp) (two : Bool)
def fld (s : ByteArray) (a b : Nat) : Nat := natB (s.extract a b).data.toList
/-- Behind the table. -/
def rh2 (size flags : Nat) (ps : List Prp) (r : ByteArray) : RH :=
  if flags = 4096 ∨ flags = 12288 then
    (if r.size = 1 ∧ (r = ⟨#[1]⟩ ∨ r = ⟨#[2]⟩) then (if size ≤ 1024 then .ok size ps (decide (r = ⟨#[2]⟩)) else .err 3) else .err 11)
  else (if r.size = 0 then (if size ≤ 1024 then .ok size ps false else .err 3) else .err 11)
/-- Behind the head's own fields: first, second, fourth and fifth field, and the rest. -/
def rhQ (a b n f : Nat) (r0 : ByteArray) : RH :=
  if a ≠ 60 then .err 11
  else if b ≠ 0 then .err 11
  else if f = 0 ∨ f = 4096 then rh2 n f [] r0
  else if f = 8192 ∨ f = 12288 then
    match tableP r0 with
    | some (ps, r) => rh2 n f ps r
    | none => .err 11
  else .err 11
def rhP (s : ByteArray) : RH :=
  if s.size < 14 then .err 11 else rhQ (fld s 0 2) (fld s 2 4) (fld s 4 12) (fld s 12 14) (s.extract 14 s.size)
def RHPost (w : World) (o : RH) (e : Ending) (w' : World) : Prop :=
  Below w.heap.size w w' ∧ match o with
    | .err n => e = .returned (.tuple #[.int .i64 0, .slice none 0 0, .bool false, .int .i64 n])
    | .ok size ps two => ∃ v, e = .returned (.tuple #[.int .i64 size, v, .bool two, .int .i64 0]) ∧ OwnP w' w.heap.size v ps
theorem rh_err {w w' : World} {o : RH} {n : Nat} (h : o = .err n) (b : Below w.heap.size w w') : RHPost w o (.returned (.tuple #[.int .i64 0, .slice none 0 0, .bool false, .int .i64 n])) w' := by
  subst h
  exact ⟨b, rfl⟩
theorem rh_ok {w w' : World} {o : RH} {size : Nat} {ps : List Prp} {two : Bool} {v : Value} (h : o = .ok size ps two) (b : Below w.heap.size w w') (hv : OwnP w' w.heap.size v ps) : RHPost w o (.returned (.tuple #[.int .i64 size, v, .bool two, .int .i64 0])) w' := by
  subst h
  exact ⟨b, v, rfl, hv⟩
end Go.Proofs.YtbniandbmabdbaaDoor
