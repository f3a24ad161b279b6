/- PropOrders: the walk. -/
import Derived.Test.YtcehkaombanhaaaGreatDoorPaW
namespace Go.Proofs.YtcehkaombanhaaaGreatDoor
open Go Go.RowKit
open Go.ChangeShapes Go.WideShapes Go.Deep Go.Sort
set_option linter.unusedSimpArgs false
set_option linter.unusedVariables false

/-- The three boxed values. -/
structure Box3 (W : World) (k : Nat) (a b c : Val) : Prop where
  a0 : W.cell? ⟨k, 0, none⟩ = some (.int .i64 a.k)
  a1 : W.cell? ⟨k, 1, none⟩ = some (.int .i64 a.n)
  a2 : W.cell? ⟨k, 2, none⟩ = some (.string a.t)
  a3 : W.cell? ⟨k, 3, none⟩ = some (.float .f64 a.r)
  b0 : W.cell? ⟨k + 1, 0, none⟩ = some (.int .i64 b.k)
  b1 : W.cell? ⟨k + 1, 1, none⟩ = some (.int .i64 b.n)
  b2 : W.cell? ⟨k + 1, 2, none⟩ = some (.string b.t)
  b3 : W.cell? ⟨k + 1, 3, none⟩ = some (.float .f64 b.r)
  c0 : W.cell? ⟨k + 1 + 1, 0, none⟩ = some (.int .i64 c.k)
  c1 : W.cell? ⟨k + 1 + 1, 1, none⟩ = some (.int .i64 c.n)
  c2 : W.cell? ⟨k + 1 + 1, 2, none⟩ = some (.string c.t)
  c3 : W.cell? ⟨k + 1 + 1, 3, none⟩ = some (.float .f64 c.r)
  sz : k + 1 + 1 < W.heap.size
theorem Box3.below {W W1 : World} {k : Nat} {a b c : Val} (h : Box3 W k a b c) (hb : Below W.heap.size W W1) : Box3 W1 k a b c := by
  obtain ⟨a0, a1, a2, a3, b0, b1, b2, b3, c0, c1, c2, c3, sz⟩ := h
  have hk : k < W.heap.size := by omega
  have hk1 : k + 1 < W.heap.size := by omega
  exact ⟨cell_below hb hk a0, cell_below hb hk a1, cell_below hb hk a2, cell_below hb hk a3, cell_below hb hk1 b0, cell_below hb hk1 b1, cell_below hb hk1 b2, cell_below hb hk1 b3, cell_below hb sz c0, cell_below hb sz c1, cell_below hb sz c2, cell_below hb sz c3, Nat.lt_of_lt_of_le sz hb.size⟩
def boxV (a : Val) : Obj := .cells #[.int .i64 a.k, .int .i64 a.n, .string a.t, .float .f64 a.r] 24
theorem box3_new (w : World) (a b c : Val) : Box3 (((w.alloc (boxV a)).alloc (boxV b)).alloc (boxV c)) w.heap.size a b c := by
  have B1 : Below (w.alloc (boxV a)).heap.size (w.alloc (boxV a)) (((w.alloc (boxV a)).alloc (boxV b)).alloc (boxV c)) := ((Below.refl _ _).alloc (Nat.le_refl _) _).alloc (by simp) _
  have B2 : Below ((w.alloc (boxV a)).alloc (boxV b)).heap.size ((w.alloc (boxV a)).alloc (boxV b)) (((w.alloc (boxV a)).alloc (boxV b)).alloc (boxV c)) := (Below.refl _ _).alloc (Nat.le_refl _) _
  have hA : ∀ (w : World) (x : Val) j u, (#[.int .i64 x.k, .int .i64 x.n, .string x.t, .float .f64 x.r] : Array Value)[j]? = some u → (w.alloc (boxV x)).cell? ⟨w.heap.size, j, none⟩ = some u := fun w x j u hj => new_cell j u hj
  have s1 : w.heap.size < (w.alloc (boxV a)).heap.size := by simp
  have e1 : (w.alloc (boxV a)).heap.size = w.heap.size + 1 := by simp
  have s2 : w.heap.size + 1 < ((w.alloc (boxV a)).alloc (boxV b)).heap.size := by simp
  have e2 : ((w.alloc (boxV a)).alloc (boxV b)).heap.size = w.heap.size + 1 + 1 := by simp
  have hb := hA (w.alloc (boxV a)) b
  have hc := hA ((w.alloc (boxV a)).alloc (boxV b)) c
  rw [e1] at hb
  rw [e2] at hc
  exact ⟨cell_below B1 s1 (hA w a 0 _ rfl), cell_below B1 s1 (hA w a 1 _ rfl), cell_below B1 s1 (hA w a 2 _ rfl), cell_below B1 s1 (hA w a 3 _ rfl), cell_below B2 s2 (hb 0 _ rfl), cell_below B2 s2 (hb 1 _ rfl), cell_below B2 s2 (hb 2 _ rfl), cell_below B2 s2 (hb 3 _ rfl), hc 0 _ rfl, hc 1 _ rfl, hc 2 _ rfl, hc 3 _ rfl, by simp⟩

set_option maxRecDepth 100000 in
set_option maxHeartbeats 4000000 in
theorem propOrders_c {w : World} (hG : G w) (a b c : Val) (ha : a.r < 18446744073709551616) (hb : b.r < 18446744073709551616) (hc : c.r < 18446744073709551616) :
    Calls Tryz.prog 3 #[a.v, b.v, c.v] w fun e w' => e = .returned (.bool true) ∧ Below w.heap.size w w' := by
  have HG := Lib.hid hG
  obtain ⟨W, hW⟩ : ∃ W, W = ((w.alloc (boxV a)).alloc (boxV b)).alloc (boxV c) := ⟨_, rfl⟩
  have BX := Lib.hid (box3_new w a b c)
  rw [← hW] at BX
  have b0 : Below w.heap.size w W := by rw [hW]; exact (((Below.refl _ _).alloc (Nat.le_refl _) _).alloc (by simp) _).alloc (by simp; omega) _
  have HB0 := Lib.hid b0
  unfold boxV at hW
  have HWW := Lib.hid hW
  obtain ⟨n, hn⟩ : ∃ n, n = valC a b := ⟨_, rfl⟩
  have CAB : Hid (∀ w, Calls Tryz.prog 10 #[a.v, b.v] w fun e w' => e = .returned (.int .i64 n) ∧ Below w.heap.size w w') := Lib.hid fun w => by rw [hn]; exact compare_c a b ha hb
  have CBA : Hid (∀ w, Calls Tryz.prog 10 #[b.v, a.v] w fun e w' => e = .returned (.int .i64 (-n)) ∧ Below w.heap.size w w') := Lib.hid fun w => by rw [hn, ← valC_cmp.anti b a]; exact compare_c b a hb ha
  have CBC : Hid (∀ w, Calls Tryz.prog 10 #[b.v, c.v] w fun e w' => e = .returned (.int .i64 (valC b c)) ∧ Below w.heap.size w w') := Lib.hid fun w => compare_c b c hb hc
  have CAC : Hid (∀ w, Calls Tryz.prog 10 #[a.v, c.v] w fun e w' => e = .returned (.int .i64 (valC a c)) ∧ Below w.heap.size w w') := Lib.hid fun w => compare_c a c ha hc
  have GA : Hid (∀ w, Calls Tryz.prog 11 #[a.v] w fun e w' => e = .returned (.bool a.good) ∧ Below w.heap.size w w') := Lib.hid fun w => good_c a.k a.n a.t a.r
  have GB : Hid (∀ w, Calls Tryz.prog 11 #[b.v] w fun e w' => e = .returned (.bool b.good) ∧ Below w.heap.size w w') := Lib.hid fun w => good_c b.k b.n b.t b.r
  have SM : Hid (∀ w, Calls Tryz.prog 12 #[a.v, b.v] w fun e w' => e = .returned (.bool (valSame a.k a.n a.t a.r b.k b.n b.t b.r)) ∧ Below w.heap.size w w') := Lib.hid fun w => valSame_c a.k a.n a.t a.r b.k b.n b.t b.r
  have htri : n = -1 ∨ n = 0 ∨ n = 1 := by rw [hn]; exact valC_cmp.tri a b
  have hsame : a.good = true → b.good = true → (valSame a.k a.n a.t a.r b.k b.n b.t b.r = decide (n = 0)) := fun h1 h2 => by
    rw [hn]
    have hz := valC_zero h1 h2 ha hb
    unfold valSame
    refine decide_eq_decide.2 ?_
    rw [hz]
    constructor
    · rintro ⟨e1, e2, e3, e4⟩
      cases a; cases b
      simp only at e1 e2 e3 e4
      subst e1 e2 e3 e4
      rfl
    · rintro rfl
      exact ⟨rfl, rfl, rfl, rfl⟩
  have htr : n ≤ 0 → valC b c ≤ 0 → valC a c ≤ 0 := by rw [hn]; exact valC_cmp.trans a b c
  have HS := Lib.hid hsame
  have HT := Lib.hid htr
  clear hG hW b0 hn hsame htr ha hb hc
  generalize valSame a.k a.n a.t a.r b.k b.n b.t b.r = sm at SM HS
  generalize valC b c = m at CBC HT
  generalize valC a c = l at CAC HT
  generalize a.good = ga at GA HS
  generalize b.good = gb at GB HS
  unfold Val.v at CAB CBA CBC CAC GA GB SM ⊢
  have HWK := Lib.hid (fun W (g : G W) => wakes_c g)
  go_enter Tryz.func3, Tryz.ntmps3
  go_upto_region 1 with fail
  rw [← HWW.out]
  go_wp2_with fail
  refine (HWK.out _ (HG.out.below HG.out.sz HB0.out)).mono ?_
  rintro e w1 ⟨rfl, b1⟩
  have B1 := HB0.out.trans (b1.mono HB0.out.size)
  have BX1 := Lib.hid (BX.out.below b1)
  obtain ⟨q0, q1, q2, q3, p0, p1, p2, p3, r0, r1, r2, r3, -⟩ := BX1.out
  go_upto_region 3 with fail
  go_wp2_with fail
  refine (CAB.out _).mono ?_
  rintro e w2 ⟨rfl, b2⟩
  have B2 := B1.trans (b2.mono B1.size)
  have BX2 := Lib.hid (BX1.out.below b2)
  clear b2 B1 q0 q1 q2 q3 p0 p1 p2 p3 r0 r1 r2 r3
  obtain ⟨q0, q1, q2, q3, p0, p1, p2, p3, r0, r1, r2, r3, -⟩ := BX2.out
  rcases htri with rfl | rfl | rfl
  · have CBA := CBA
    go_wp2_with fail
    refine (CBA.out _).mono ?_
    rintro e w3 ⟨rfl, b3⟩
    have B3 := B2.trans (b3.mono B2.size)
    have BX3 := Lib.hid (BX2.out.below b3)
    clear b3 B2 q0 q1 q2 q3 p0 p1 p2 p3 r0 r1 r2 r3
    obtain ⟨q0, q1, q2, q3, p0, p1, p2, p3, r0, r1, r2, r3, -⟩ := BX3.out
    go_wp2_with fail
    refine (GA.out _).mono ?_
    rintro e w4 ⟨rfl, b4⟩
    have B4 := B3.trans (b4.mono B3.size)
    have BX4 := Lib.hid (BX3.out.below b4)
    clear b4 B3 q0 q1 q2 q3 p0 p1 p2 p3 r0 r1 r2 r3
    obtain ⟨q0, q1, q2, q3, p0, p1, p2, p3, r0, r1, r2, r3, -⟩ := BX4.out
    cases ga with
    | false =>
      go_wp2_with fail
      refine (CBC.out _).mono ?_
      rintro e w5 ⟨rfl, b5⟩
      have B5 := B4.trans (b5.mono B4.size)
      have BX5 := Lib.hid (BX4.out.below b5)
      clear b5 B4 q0 q1 q2 q3 p0 p1 p2 p3 r0 r1 r2 r3
      obtain ⟨q0, q1, q2, q3, p0, p1, p2, p3, r0, r1, r2, r3, -⟩ := BX5.out
      by_cases hm : m ≤ 0
      · have hl : l ≤ 0 := HT.out (by decide) hm
        go_wp2_with fail
        refine (CAC.out _).mono ?_
        rintro e w6 ⟨rfl, b6⟩
        have B6 := B5.trans (b6.mono B5.size)
        have BX6 := Lib.hid (BX5.out.below b6)
        clear b6 B5 q0 q1 q2 q3 p0 p1 p2 p3 r0 r1 r2 r3
        obtain ⟨q0, q1, q2, q3, p0, p1, p2, p3, r0, r1, r2, r3, -⟩ := BX6.out
        go_wp2_with fail
        go_ret
        exact ⟨rfl, B6⟩
      · have hm' : 0 < m := by omega
        go_wp2_with fail
        go_ret
        exact ⟨rfl, B5⟩
    | true =>
      go_wp2_with fail
      refine (GB.out _).mono ?_
      rintro e w5 ⟨rfl, b5⟩
      have B5 := B4.trans (b5.mono B4.size)
      have BX5 := Lib.hid (BX4.out.below b5)
      clear b5 B4 q0 q1 q2 q3 p0 p1 p2 p3 r0 r1 r2 r3
      obtain ⟨q0, q1, q2, q3, p0, p1, p2, p3, r0, r1, r2, r3, -⟩ := BX5.out
      cases gb with
      | false =>
        go_wp2_with fail
        refine (CBC.out _).mono ?_
        rintro e w6 ⟨rfl, b6⟩
        have B6 := B5.trans (b6.mono B5.size)
        have BX6 := Lib.hid (BX5.out.below b6)
        clear b6 B5 q0 q1 q2 q3 p0 p1 p2 p3 r0 r1 r2 r3
        obtain ⟨q0, q1, q2, q3, p0, p1, p2, p3, r0, r1, r2, r3, -⟩ := BX6.out
        by_cases hm : m ≤ 0
        · have hl : l ≤ 0 := HT.out (by decide) hm
          go_wp2_with fail
          refine (CAC.out _).mono ?_
          rintro e w7 ⟨rfl, b7⟩
          have B7 := B6.trans (b7.mono B6.size)
          have BX7 := Lib.hid (BX6.out.below b7)
          clear b7 B6 q0 q1 q2 q3 p0 p1 p2 p3 r0 r1 r2 r3
          obtain ⟨q0, q1, q2, q3, p0, p1, p2, p3, r0, r1, r2, r3, -⟩ := BX7.out
          go_wp2_with fail
          go_ret
          exact ⟨rfl, B7⟩
        · have hm' : 0 < m := by omega
          go_wp2_with fail
          go_ret
          exact ⟨rfl, B6⟩
      | true =>
        have hsm : sm = false := by have h := HS.out; simpa using h
        subst hsm
        go_wp2_with fail
        refine (SM.out _).mono ?_
        rintro e w6 ⟨rfl, b6⟩
        have B6 := B5.trans (b6.mono B5.size)
        have BX6 := Lib.hid (BX5.out.below b6)
        clear b6 B5 q0 q1 q2 q3 p0 p1 p2 p3 r0 r1 r2 r3
        obtain ⟨q0, q1, q2, q3, p0, p1, p2, p3, r0, r1, r2, r3, -⟩ := BX6.out
        go_wp2_with fail
        refine (CBC.out _).mono ?_
        rintro e w7 ⟨rfl, b7⟩
        have B7 := B6.trans (b7.mono B6.size)
        have BX7 := Lib.hid (BX6.out.below b7)
        clear b7 B6 q0 q1 q2 q3 p0 p1 p2 p3 r0 r1 r2 r3
        obtain ⟨q0, q1, q2, q3, p0, p1, p2, p3, r0, r1, r2, r3, -⟩ := BX7.out
        by_cases hm : m ≤ 0
        · have hl : l ≤ 0 := HT.out (by decide) hm
          go_wp2_with fail
          refine (CAC.out _).mono ?_
          rintro e w8 ⟨rfl, b8⟩
          have B8 := B7.trans (b8.mono B7.size)
          have BX8 := Lib.hid (BX7.out.below b8)
          clear b8 B7 q0 q1 q2 q3 p0 p1 p2 p3 r0 r1 r2 r3
          obtain ⟨q0, q1, q2, q3, p0, p1, p2, p3, r0, r1, r2, r3, -⟩ := BX8.out
          go_wp2_with fail
          go_ret
          exact ⟨rfl, B8⟩
        · have hm' : 0 < m := by omega
          go_wp2_with fail
          go_ret
          exact ⟨rfl, B7⟩
  · go_wp2_with fail
    refine (CBA.out _).mono ?_
    rintro e w3 ⟨rfl, b3⟩
    have B3 := B2.trans (b3.mono B2.size)
    have BX3 := Lib.hid (BX2.out.below b3)
    clear b3 B2 q0 q1 q2 q3 p0 p1 p2 p3 r0 r1 r2 r3
    obtain ⟨q0, q1, q2, q3, p0, p1, p2, p3, r0, r1, r2, r3, -⟩ := BX3.out
    go_wp2_with fail
    refine (GA.out _).mono ?_
    rintro e w4 ⟨rfl, b4⟩
    have B4 := B3.trans (b4.mono B3.size)
    have BX4 := Lib.hid (BX3.out.below b4)
    clear b4 B3 q0 q1 q2 q3 p0 p1 p2 p3 r0 r1 r2 r3
    obtain ⟨q0, q1, q2, q3, p0, p1, p2, p3, r0, r1, r2, r3, -⟩ := BX4.out
    cases ga with
    | false =>
      go_wp2_with fail
      refine (CBC.out _).mono ?_
      rintro e w5 ⟨rfl, b5⟩
      have B5 := B4.trans (b5.mono B4.size)
      have BX5 := Lib.hid (BX4.out.below b5)
      clear b5 B4 q0 q1 q2 q3 p0 p1 p2 p3 r0 r1 r2 r3
      obtain ⟨q0, q1, q2, q3, p0, p1, p2, p3, r0, r1, r2, r3, -⟩ := BX5.out
      by_cases hm : m ≤ 0
      · have hl : l ≤ 0 := HT.out (by decide) hm
        go_wp2_with fail
        refine (CAC.out _).mono ?_
        rintro e w6 ⟨rfl, b6⟩
        have B6 := B5.trans (b6.mono B5.size)
        have BX6 := Lib.hid (BX5.out.below b6)
        clear b6 B5 q0 q1 q2 q3 p0 p1 p2 p3 r0 r1 r2 r3
        obtain ⟨q0, q1, q2, q3, p0, p1, p2, p3, r0, r1, r2, r3, -⟩ := BX6.out
        go_wp2_with fail
        go_ret
        exact ⟨rfl, B6⟩
      · have hm' : 0 < m := by omega
        go_wp2_with fail
        go_ret
        exact ⟨rfl, B5⟩
    | true =>
      go_wp2_with fail
      refine (GB.out _).mono ?_
      rintro e w5 ⟨rfl, b5⟩
      have B5 := B4.trans (b5.mono B4.size)
      have BX5 := Lib.hid (BX4.out.below b5)
      clear b5 B4 q0 q1 q2 q3 p0 p1 p2 p3 r0 r1 r2 r3
      obtain ⟨q0, q1, q2, q3, p0, p1, p2, p3, r0, r1, r2, r3, -⟩ := BX5.out
      cases gb with
      | false =>
        go_wp2_with fail
        refine (CBC.out _).mono ?_
        rintro e w6 ⟨rfl, b6⟩
        have B6 := B5.trans (b6.mono B5.size)
        have BX6 := Lib.hid (BX5.out.below b6)
        clear b6 B5 q0 q1 q2 q3 p0 p1 p2 p3 r0 r1 r2 r3
        obtain ⟨q0, q1, q2, q3, p0, p1, p2, p3, r0, r1, r2, r3, -⟩ := BX6.out
        by_cases hm : m ≤ 0
        · have hl : l ≤ 0 := HT.out (by decide) hm
          go_wp2_with fail
          refine (CAC.out _).mono ?_
          rintro e w7 ⟨rfl, b7⟩
          have B7 := B6.trans (b7.mono B6.size)
          have BX7 := Lib.hid (BX6.out.below b7)
          clear b7 B6 q0 q1 q2 q3 p0 p1 p2 p3 r0 r1 r2 r3
          obtain ⟨q0, q1, q2, q3, p0, p1, p2, p3, r0, r1, r2, r3, -⟩ := BX7.out
          go_wp2_with fail
          go_ret
          exact ⟨rfl, B7⟩
        · have hm' : 0 < m := by omega
          go_wp2_with fail
          go_ret
          exact ⟨rfl, B6⟩
      | true =>
        have hsm : sm = true := by have h := HS.out; simpa using h
        subst hsm
        go_wp2_with fail
        refine (SM.out _).mono ?_
        rintro e w6 ⟨rfl, b6⟩
        have B6 := B5.trans (b6.mono B5.size)
        have BX6 := Lib.hid (BX5.out.below b6)
        clear b6 B5 q0 q1 q2 q3 p0 p1 p2 p3 r0 r1 r2 r3
        obtain ⟨q0, q1, q2, q3, p0, p1, p2, p3, r0, r1, r2, r3, -⟩ := BX6.out
        go_wp2_with fail
        refine (CBC.out _).mono ?_
        rintro e w7 ⟨rfl, b7⟩
        have B7 := B6.trans (b7.mono B6.size)
        have BX7 := Lib.hid (BX6.out.below b7)
        clear b7 B6 q0 q1 q2 q3 p0 p1 p2 p3 r0 r1 r2 r3
        obtain ⟨q0, q1, q2, q3, p0, p1, p2, p3, r0, r1, r2, r3, -⟩ := BX7.out
        by_cases hm : m ≤ 0
        · have hl : l ≤ 0 := HT.out (by decide) hm
          go_wp2_with fail
          refine (CAC.out _).mono ?_
          rintro e w8 ⟨rfl, b8⟩
          have B8 := B7.trans (b8.mono B7.size)
          have BX8 := Lib.hid (BX7.out.below b8)
          clear b8 B7 q0 q1 q2 q3 p0 p1 p2 p3 r0 r1 r2 r3
          obtain ⟨q0, q1, q2, q3, p0, p1, p2, p3, r0, r1, r2, r3, -⟩ := BX8.out
          go_wp2_with fail
          go_ret
          exact ⟨rfl, B8⟩
        · have hm' : 0 < m := by omega
          go_wp2_with fail
          go_ret
          exact ⟨rfl, B7⟩
  · have CBA := CBA
    go_wp2_with fail
    refine (CBA.out _).mono ?_
    rintro e w3 ⟨rfl, b3⟩
    have B3 := B2.trans (b3.mono B2.size)
    have BX3 := Lib.hid (BX2.out.below b3)
    clear b3 B2 q0 q1 q2 q3 p0 p1 p2 p3 r0 r1 r2 r3
    obtain ⟨q0, q1, q2, q3, p0, p1, p2, p3, r0, r1, r2, r3, -⟩ := BX3.out
    go_wp2_with fail
    refine (GA.out _).mono ?_
    rintro e w4 ⟨rfl, b4⟩
    have B4 := B3.trans (b4.mono B3.size)
    have BX4 := Lib.hid (BX3.out.below b4)
    clear b4 B3 q0 q1 q2 q3 p0 p1 p2 p3 r0 r1 r2 r3
    obtain ⟨q0, q1, q2, q3, p0, p1, p2, p3, r0, r1, r2, r3, -⟩ := BX4.out
    cases ga with
    | false =>
      go_wp2_with fail
      go_ret
      exact ⟨rfl, B4⟩
    | true =>
      go_wp2_with fail
      refine (GB.out _).mono ?_
      rintro e w5 ⟨rfl, b5⟩
      have B5 := B4.trans (b5.mono B4.size)
      have BX5 := Lib.hid (BX4.out.below b5)
      clear b5 B4 q0 q1 q2 q3 p0 p1 p2 p3 r0 r1 r2 r3
      obtain ⟨q0, q1, q2, q3, p0, p1, p2, p3, r0, r1, r2, r3, -⟩ := BX5.out
      cases gb with
      | false =>
        go_wp2_with fail
        go_ret
        exact ⟨rfl, B5⟩
      | true =>
        have hsm : sm = false := by have h := HS.out; simpa using h
        subst hsm
        go_wp2_with fail
        refine (SM.out _).mono ?_
        rintro e w6 ⟨rfl, b6⟩
        have B6 := B5.trans (b6.mono B5.size)
        have BX6 := Lib.hid (BX5.out.below b6)
        clear b6 B5 q0 q1 q2 q3 p0 p1 p2 p3 r0 r1 r2 r3
        obtain ⟨q0, q1, q2, q3, p0, p1, p2, p3, r0, r1, r2, r3, -⟩ := BX6.out
        go_wp2_with fail
        go_ret
        exact ⟨rfl, B6⟩
end Go.Proofs.YtcehkaombanhaaaGreatDoor
